/- What the laws of the layer arith call: few, ev, shown. -/
import Derived.Test.YtpffcfmhiebhdaaChainP
import Derived.WalkSpells
import Derived.WalkLawsBesides
import Derived.Deep.QuietTactic
import Derived.BigQuiet
import Derived.Deep.DeepCutAuto
import Derived.Deep.RegionHeld3
import Derived.Lib.Hide
import Derived.Handy
namespace Go.Proofs.Ytpffcfmhiebhdaa
open Go.RowKit

def numT (a : Int) : Term := .mk 2 a ⟨#[]⟩ []
theorem num_v (F : List Nat) (w : World) {a : Int} (h : I64 a) : TermV F w (numT a) (.agg #[.int .i64 2, .int .i64 a, .string ⟨#[]⟩, .slice none 0 0]) := TermV.leaf F w (by unfold I64; omega) h (by decide)

theorem kids_row2 {F : List Nat} {w : World} {b : Nat} {c0 c1 c2 c3 d0 d1 d2 d3 : Value} {ty : TypeId} {t u : Term} (h : w.heap[b]? = some (.cells #[c0, c1, c2, c3, d0, d1, d2, d3] ty (0, 0))) (hb : b ∉ F)
    (ht : TermV F w t (.agg #[c0, c1, c2, c3])) (hu : TermV F w u (.agg #[d0, d1, d2, d3])) : KidsV F w [t, u] (some ⟨b, 0, none⟩) 0 := by
  simp only [KidsV, and_true]
  exact ⟨⟨b, 0, c0, c1, c2, c3, rfl, hb, by simp [World.cell?, h], by simp [World.cell?, h], by simp [World.cell?, h], by simp [World.cell?, h], ht⟩,
    ⟨b, 0, d0, d1, d2, d3, rfl, hb, by simp [World.cell?, h], by simp [World.cell?, h], by simp [World.cell?, h], by simp [World.cell?, h], hu⟩⟩
theorem kids_row1 {F : List Nat} {w : World} {b : Nat} {c0 c1 c2 c3 : Value} {ty : TypeId} {t : Term} (h : w.heap[b]? = some (.cells #[c0, c1, c2, c3] ty (0, 0))) (hb : b ∉ F)
    (ht : TermV F w t (.agg #[c0, c1, c2, c3])) : KidsV F w [t] (some ⟨b, 0, none⟩) 0 := by
  refine ⟨?_, trivial⟩
  exact ⟨b, 0, c0, c1, c2, c3, rfl, hb, by simp [World.cell?, h], by simp [World.cell?, h], by simp [World.cell?, h], by simp [World.cell?, h], ht⟩

def evV (s : ByteArray) (a b : Int) : Int × Int × Int := evalS Lat.one .empty (.mk 3 0 s [numT a, numT b])

theorem law_ev (s : ByteArray) (a b : Int) (w : World) (ha : I64 a) (hb : I64 b) (hs : s.size ≤ 1048576) :
    Calls Try.prog 10 #[.string s, .int .i64 a, .int .i64 b] w fun e w' => e = .returned (.tuple #[.int .i64 (evV s a b).1, .int .i64 (evV s a b).2.2]) ∧ Frm [] w w' := by
  go_enter Try.func10, Try.ntmps10
  go_wp2_with (first
    | (go_at_call 11; refine (lat_new 1 none 0 [] _ (by decide) (by decide) (fun i p h => by simp at h) (by decide)).mono ?_; rintro e w1 ⟨r, hr, F1, hm⟩; obtain rfl := Lat.made_one hr; obtain ⟨lb, hlb, hl, rfl⟩ := hm; dsimp only)
    | (go_at_call 12; refine (store_new [] _ (by simp)).mono ?_; rintro e w2 ⟨rfl, hst, F2⟩)
    | (go_at_call 13; refine (term_num _ _).mono ?_; rintro e w3 ⟨rfl, F3⟩; have hsz : w1.heap.size < w3.heap.size := by (have := F3.size; have := hst.lt w1.heap.size (by simp); omega))
    | (go_at_call 15; refine (term_make [w1.heap.size] s _ [numT a, numT b] 2 _ (kids_row2 (alloc_heap_new _ _) (by simp; omega) (num_v _ _ ha) (num_v _ _ hb)) (.inr ⟨_, _, rfl⟩) (by simp; omega) (by simp) hs).mono ?_; rintro e w5 ⟨⟨v, rfl, hv⟩, F5⟩)
    | (go_at_call 14; refine (arith_Eval Lat.one .empty [w1.heap.size] [w1.heap.size] _ _ _ _ _ (hl.frm0 (by repeat (first | (with_reducible refine Frm.alloc ?_ _) | (with_reducible refine Frm.drewN ?_ _) | (with_reducible refine Frm.drew ?_) | ((with_reducible refine Frm.setCell ?_ ?_ _); rotate_left; (focus (first | (left; simp; done) | (right; simp; done) | (right; simp; omega)))) | with_reducible assumption | with_reducible exact Frm.refl _ _ | (with_reducible refine Frm.trans0 ?_ ‹_›)))) (hst.keep (by repeat (first | (with_reducible refine Frm.alloc ?_ _) | (with_reducible refine Frm.drewN ?_ _) | (with_reducible refine Frm.drew ?_) | ((with_reducible refine Frm.setCell ?_ ?_ _); rotate_left; (focus (first | (left; simp; done) | (right; simp; done) | (right; simp; omega)))) | with_reducible assumption | with_reducible exact Frm.refl _ _ | (with_reducible refine Frm.trans0 ?_ ‹_›)))) hv).mono ?_; rintro e w6 ⟨rfl, F6⟩))
  go_ret2
  exact ⟨rfl, (by repeat (first | (with_reducible refine Frm.alloc ?_ _) | (with_reducible refine Frm.drewN ?_ _) | (with_reducible refine Frm.drew ?_) | ((with_reducible refine Frm.setCell ?_ ?_ _); rotate_left; (focus (first | (left; simp; done) | (right; simp; done) | (right; simp; omega)))) | with_reducible assumption | with_reducible exact Frm.refl _ _ | (with_reducible refine Frm.trans0 ?_ ‹_›)))⟩

def shown1 : Term := .mk 3 0 ⟨#[47, 47]⟩ [(numT 7).put 1, numT (-2)]
def shown2 : Term := .mk 3 0 ⟨#[109, 111, 100]⟩ [numT (-7), numT 2]
theorem shown1_is : evalS Lat.two .empty shown1 = (-3, 1, 0) := by kernel_rfl
theorem shown2_is : evalS Lat.two .empty shown2 = (1, 0, 0) := by kernel_rfl

/-- Eval, where the value is worked out. -/
theorem arith_Eval_is {l : Lat} {st : PStore} {t : Term} {a lev c : Int} (he : evalS l st t = (a, lev, c)) (G F : List Nat) (sb lb : Nat) (v : Value) (w : World) (hl : LatAt w lb l) (hs : StoreAt G F w sb st) (ht : TermV F w t v) :
    Calls Try.prog 14 #[.pointer (some ⟨sb, 0, none⟩), .pointer (some ⟨lb, 0, none⟩), v] w fun e w' => e = .returned (.tuple #[.int .i64 a, .int .i64 lev, .int .i64 c]) ∧ Frm [] w w' := by
  have h := arith_Eval l st G F sb lb t v w hl hs ht
  rw [he] at h
  exact h

theorem law_shown (w : World) : Calls Try.prog 9 #[] w fun e w' => e = .returned (.bool true) ∧ Frm [] w w' := by
  have m1 : True := trivial
  have m2 : True := trivial
  go_enter Try.func9, Try.ntmps9
  go_wp2_with (first
    | (go_at_call 17; refine (law_chain 2 _ (by decide) (by decide)).mono ?_; rintro e w1 ⟨A, cap, rfl, hp, F1⟩)
    | (go_at_call 11; refine (lat_new 2 A cap (chainL (2 - 1)) _ (by decide) (by decide) hp (by decide)).mono ?_; rintro e w2 ⟨r, hr, F2, hm⟩; obtain rfl := Lat.made_two hr; obtain ⟨lb, hlb, hl, rfl⟩ := hm; dsimp only)
    | (go_at_call 12; refine (store_new [] _ (by simp)).mono ?_; rintro e w3 ⟨rfl, hst, F3⟩; have hsz := hst.lt w2.heap.size (by simp))
    | (go_at_call 13; refine (term_num _ _).mono ?_; rintro e w4 ⟨rfl, F4⟩; have hsz := Nat.lt_of_lt_of_le hsz F4.size)
    | (go_at_call 24; refine (seal_put [w2.heap.size] (numT 7) _ 1 _ (num_v _ _ (by unfold I64; omega)) (by unfold I64; omega) (by simp; omega)).mono ?_; rintro e w5 ⟨⟨v5, rfl, hv5⟩, F5⟩; have hsz := Nat.lt_of_lt_of_le hsz F5.size; obtain ⟨A5, cap5, rfl⟩ := hv5.form)
    | (go_at_call 15; clear m1; refine (term_make [w2.heap.size] ⟨#[47, 47]⟩ _ [(numT 7).put 1, numT (-2)] 2 _ (kids_row2 (alloc_heap_new _ _) (by simp; omega) (hv5.keep (by repeat (first | (with_reducible refine Frm.alloc ?_ _) | (with_reducible refine Frm.drewN ?_ _) | (with_reducible refine Frm.drew ?_) | ((with_reducible refine Frm.setCell ?_ ?_ _); rotate_left; (focus (first | (left; simp; done) | (right; simp; done) | (right; simp; omega)))) | with_reducible assumption | with_reducible exact Frm.refl _ _ | (with_reducible refine Frm.trans0 ?_ ‹_›)))) (num_v _ _ (by unfold I64; omega))) (.inr ⟨_, _, rfl⟩) (by simp; omega) (by simp) (by decide)).mono ?_; rintro e w6 ⟨⟨v6, rfl, hv6⟩, F6⟩; have hsz : w2.heap.size < w6.heap.size := by (have := F6.size; simp at this; omega))
    | (go_at_call 14; clear m2; refine (arith_Eval_is shown1_is [w2.heap.size] [w2.heap.size] _ _ _ _ (hl.frm0 (by repeat (first | (with_reducible refine Frm.alloc ?_ _) | (with_reducible refine Frm.drewN ?_ _) | (with_reducible refine Frm.drew ?_) | ((with_reducible refine Frm.setCell ?_ ?_ _); rotate_left; (focus (first | (left; simp; done) | (right; simp; done) | (right; simp; omega)))) | with_reducible assumption | with_reducible exact Frm.refl _ _ | (with_reducible refine Frm.trans0 ?_ ‹_›)))) (hst.keep (by repeat (first | (with_reducible refine Frm.alloc ?_ _) | (with_reducible refine Frm.drewN ?_ _) | (with_reducible refine Frm.drew ?_) | ((with_reducible refine Frm.setCell ?_ ?_ _); rotate_left; (focus (first | (left; simp; done) | (right; simp; done) | (right; simp; omega)))) | with_reducible assumption | with_reducible exact Frm.refl _ _ | (with_reducible refine Frm.trans0 ?_ ‹_›)))) hv6).mono ?_; rintro e w7 ⟨rfl, F7⟩; have hsz := Nat.lt_of_lt_of_le hsz F7.size)
    | (go_at_call 15; refine (term_make [w2.heap.size] ⟨#[109, 111, 100]⟩ _ [numT (-7), numT 2] 2 _ (kids_row2 (alloc_heap_new _ _) (by simp; omega) (num_v _ _ (by unfold I64; omega)) (num_v _ _ (by unfold I64; omega))) (.inr ⟨_, _, rfl⟩) (by simp; omega) (by simp) (by decide)).mono ?_; rintro e w8 ⟨⟨v8, rfl, hv8⟩, F8⟩)
    | (go_at_call 14; refine (arith_Eval_is shown2_is [w2.heap.size] [w2.heap.size] _ _ _ _ (hl.frm0 (by repeat (first | (with_reducible refine Frm.alloc ?_ _) | (with_reducible refine Frm.drewN ?_ _) | (with_reducible refine Frm.drew ?_) | ((with_reducible refine Frm.setCell ?_ ?_ _); rotate_left; (focus (first | (left; simp; done) | (right; simp; done) | (right; simp; omega)))) | with_reducible assumption | with_reducible exact Frm.refl _ _ | (with_reducible refine Frm.trans0 ?_ ‹_›)))) (hst.keep (by repeat (first | (with_reducible refine Frm.alloc ?_ _) | (with_reducible refine Frm.drewN ?_ _) | (with_reducible refine Frm.drew ?_) | ((with_reducible refine Frm.setCell ?_ ?_ _); rotate_left; (focus (first | (left; simp; done) | (right; simp; done) | (right; simp; omega)))) | with_reducible assumption | with_reducible exact Frm.refl _ _ | (with_reducible refine Frm.trans0 ?_ ‹_›)))) hv8).mono ?_; rintro e w9 ⟨rfl, F9⟩)
    | (go_at_call 16; refine (arith_test _ _ _ _).mono ?_; rintro e w10 ⟨rfl, rfl⟩))
  go_ret
  exact ⟨rfl, (by repeat (first | (with_reducible refine Frm.alloc ?_ _) | (with_reducible refine Frm.drewN ?_ _) | (with_reducible refine Frm.drew ?_) | ((with_reducible refine Frm.setCell ?_ ?_ _); rotate_left; (focus (first | (left; simp; done) | (right; simp; done) | (right; simp; omega)))) | with_reducible assumption | with_reducible exact Frm.refl _ _ | (with_reducible refine Frm.trans0 ?_ ‹_›)))⟩
end Go.Proofs.Ytpffcfmhiebhdaa
