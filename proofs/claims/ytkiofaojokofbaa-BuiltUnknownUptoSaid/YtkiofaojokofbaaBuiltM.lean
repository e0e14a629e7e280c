/- Contracts and plain laws: LawB1 LawNew. -/
import Derived.Test.YtkiofaojokofbaaBuiltL
import Derived.WalkSpells
import Derived.WalkLawsBesides
import Derived.Deep.QuietTactic
import Derived.BigQuiet
import Derived.Deep.DeepCutAuto
import Derived.Deep.RegionHeld3
import Derived.Lib.Hide
import Derived.Handy
namespace Go.Proofs.Ytkiofaojokofbaa
open Go.RowKit

theorem num_v (F : List Nat) (w : World) {a : Int} (h : I64 a) : TermV F w (Term.num a) (.agg #[.int .i64 2, .int .i64 a, .string ⟨#[]⟩, .slice none 0 0]) := TermV.leaf F w (by unfold I64; omega) h (by decide)
theorem var_v (F : List Nat) (w : World) {a : Int} (h : I64 a) : TermV F w (Term.var a) (.agg #[.int .i64 1, .int .i64 a, .string ⟨#[]⟩, .slice none 0 0]) := TermV.leaf F w (by unfold I64; omega) h (by decide)
theorem term_let (n : Int) (w : World) : Calls Try.prog 12 #[.int .i64 n] w fun e w' => e = .returned (.agg #[.int .i64 1, .int .i64 n, .string ⟨#[]⟩, .slice none 0 0]) ∧ Frm [] w w' := by
  go_enter Try.func12, Try.ntmps12
  go_wp2
  generalize hW : World.alloc _ _ = W
  have hb : W.heap[w.heap.size]? = some (.cells #[.int .i64 1, .int .i64 n, .string ⟨#[]⟩, .slice none 0 0] 26 (0, 0)) := by subst hW; exact (by repeat (first | rw [heap_alloc_at] | rw [heap_size_alloc] | rfl | rw [if_pos (by omega)] | rw [if_neg (by omega)]))
  have FW : Frm [] w W := by subst hW; exact (by repeat (first | with_reducible (first | refine .alloc ?_ _ | refine .drewN ?_ _ | refine .drew ?_) | ((with_reducible refine .setCell ?_ ?_ _); rotate_left; focus (first | (left; simp; done) | (right; simp; (first | done | omega)))) | with_reducible (first | assumption | exact .refl _ _ | refine .trans0 ?_ ‹_›)))
  clear hW
  obtain ⟨r0, r1, r2, r3, r4, r5⟩ := blk4 hb
  refine bodyPost_ret (v := .agg #[.int .i64 1, .int .i64 n, .string ⟨#[]⟩, .slice none 0 0]) (by simp [results, Try.results12, go_sem, r0, r1, r2, r3]) rfl ?_
  exact ⟨rfl, FW⟩
def atom (s : ByteArray) : Term := .mk 3 0 s []
theorem term_atom (s : ByteArray) (w : World) (hs : s.size ≤ 1048576) : Calls Try.prog 16 #[.string s] w fun e w' => e = .returned (.agg #[.int .i64 3, .int .i64 0, .string s, .slice none 0 0]) ∧ Frm [] w w' := by
  have _ := hs
  have HM : ∀ w1, Calls Try.prog 13 #[.string s, .slice none 0 0] w1 fun e w' => e = .returned (.agg #[.int .i64 3, .int .i64 0, .string s, .slice none 0 0]) ∧ Frm [] w1 w' := by
    intro w1
    go_enter Try.func13, Try.ntmps13
    go_wp2_with (go_at_call 24; refine (slices_clone_nil _).mono ?_; rintro e w' ⟨rfl, rfl⟩)
    generalize hW : World.alloc _ _ = W
    have hb : W.heap[w1.heap.size]? = some (.cells #[.int .i64 3, .int .i64 0, .string s, .slice none 0 0] 26 (0, 0)) := by subst hW; exact (by repeat (first | rw [heap_alloc_at] | rw [heap_size_alloc] | rfl | rw [if_pos (by omega)] | rw [if_neg (by omega)]))
    have FW : Frm [] w1 W := by subst hW; exact (by repeat (first | with_reducible (first | refine .alloc ?_ _ | refine .drewN ?_ _ | refine .drew ?_) | ((with_reducible refine .setCell ?_ ?_ _); rotate_left; focus (first | (left; simp; done) | (right; simp; (first | done | omega)))) | with_reducible (first | assumption | exact .refl _ _ | refine .trans0 ?_ ‹_›)))
    clear hW
    obtain ⟨r0, r1, r2, r3, r4, r5⟩ := blk4 hb
    refine bodyPost_ret (v := .agg #[.int .i64 3, .int .i64 0, .string s, .slice none 0 0]) (by simp [results, Try.results13, go_sem, r0, r1, r2, r3]) rfl ?_
    exact ⟨rfl, FW⟩
  go_enter Try.func16, Try.ntmps16
  go_wp2_with (go_at_call 13; refine (HM _).mono ?_; rintro e w1 ⟨rfl, F1⟩; have hb := F1.at0 (alloc_heap_new w _); obtain ⟨q0, q1, q2, q3, q4, q5⟩ := blk4 hb; have F01 : Frm [] w w1 := Frm.trans0 (by repeat (first | with_reducible (first | refine .alloc ?_ _ | refine .drewN ?_ _ | refine .drew ?_) | ((with_reducible refine .setCell ?_ ?_ _); rotate_left; focus (first | (left; simp; done) | (right; simp; (first | done | omega)))) | with_reducible (first | assumption | exact .refl _ _ | refine .trans0 ?_ ‹_›))) F1)
  have hb2 := box_store4 hb (.int .i64 3) (.int .i64 0) (.string s) (.slice none 0 0)
  have F2 : Frm [w.heap.size] w1 ((((w1.setCell ⟨w.heap.size, 0, none⟩ (.int .i64 3)).setCell ⟨w.heap.size, 1, none⟩ (.int .i64 0)).setCell ⟨w.heap.size, 2, none⟩ (.string s)).setCell ⟨w.heap.size, 3, none⟩ (.slice none 0 0)) := box4_frm' _ _ _ _ _ _
  generalize World.setCell _ _ (.slice none 0 0) = W at *
  obtain ⟨r0, r1, r2, r3, r4, r5⟩ := blk4 hb2
  refine bodyPost_ret (v := .agg #[.int .i64 3, .int .i64 0, .string s, .slice none 0 0]) (by simp [results, Try.results16, go_sem, r0, r1, r2, r3]) rfl ?_
  exact ⟨rfl, F01.trans F2 (fun b hb => by rw [List.mem_singleton.1 hb]; exact .inr (Nat.le_refl _))⟩
theorem atom_v (F : List Nat) (w : World) {s : ByteArray} (h : s.size ≤ 1048576) : TermV F w (atom s) (.agg #[.int .i64 3, .int .i64 0, .string s, .slice none 0 0]) := TermV.leaf F w (by unfold I64; omega) (by unfold I64; omega) h

def sumT : Term := .mk 3 0 ⟨#[43]⟩ [Term.num 1, Term.num 2]
def st1 : PStore := PStore.empty.fresh 1
def st1' : PStore := st1.bind 0 (Term.num 3)
theorem has_num (s : PStore) (a : Int) (v : Int) : s.has (Term.num a) v false := by
  refine ⟨1, [], ?_⟩
  unfold PStore.inF
  have : s.run [] (Term.num a) = (some (Term.num a), []) := PStore.runF_stop (PStore.next_ne (by decide)) _ _
  rw [this]
  rfl
theorem callR_at {l : Lat} {s : PStore} {name : ByteArray} {ts : List Term} {i : Nat} (h : goalIdx name ts.length = some i) : callR l s name ts = (true, goalT l s i ts) := by
  unfold callR; rw [h]
theorem shown_is : callR Lat.nine st1 ⟨#[105, 115]⟩ [Term.var 0, sumT] = (true, true, 0, 0, st1') := by
  have h2 : evalS Lat.nine st1 sumT = (3, 0, 0) := by kernel_rfl
  have h3 : st1.matchT Lat.nine [Term.var 0] [Term.num 3] = (true, Lat.nine.bottom, 0, st1') := matchT_bind Lat.nine st1 0 (Term.num 3) (by kernel_rfl) (walk_num _ _) (by decide) (has_num _ _ _)
  rw [callR_at (i := 7) (by kernel_rfl)]
  show (true, st1.isT Lat.nine (Term.var 0) sumT) = _
  unfold PStore.isT
  rw [h2]
  simp only [if_true]
  rw [h3, nine_bottom, nine_join0]
theorem shown_same : callR Lat.nine st1' ⟨#[61, 61]⟩ [(atom ⟨#[97]⟩).put 1, atom ⟨#[97]⟩] = (true, true, 1, 0, st1') := by
  have h2 : st1'.cmpT Lat.nine isZ ((atom ⟨#[97]⟩).put 1) (atom ⟨#[97]⟩) = (true, 1, 0, st1') := by kernel_rfl
  rw [callR_at (i := 4) (by kernel_rfl)]
  show (true, st1'.cmpT Lat.nine isZ ((atom ⟨#[97]⟩).put 1) (atom ⟨#[97]⟩)) = _
  rw [h2]

set_option maxRecDepth 100000 in
set_option maxHeartbeats 2000000 in
theorem law_shown (w : World) : Calls Try.prog 4 #[] w fun e w' => e = .returned (.bool true) ∧ Frm [] w w' := by
  have m1 : True := trivial
  go_enter Try.func4, Try.ntmps4
  go_wp2_with (first
    | (go_at_call 8; refine (law_nine _).mono ?_; rintro e w1 ⟨lb, rfl, hl, hlb, F1⟩; have hlbl := hl.lt)
    | (go_at_call 10; refine (store_new [] _ (by simp)).mono ?_; rintro e w2 ⟨rfl, hst, F2⟩; have hl2 := hl.frm0 F2)
    | (go_at_call 11; refine (store_fresh _ _ _ .empty 1 _ hst (by decide)).mono ?_; rintro e w3 ⟨rfl, TO⟩; obtain ⟨G3, F3', hs3, F3, k3, k4, k5⟩ := TO; have hl3 := hl2.frm F3 (by simp; omega); have F13 : Frm [] w w3 := (F1.trans0 F2).trans F3 (fun b hb => by rw [List.mem_singleton.1 hb]; exact .inr (F1.size)); have hlb3 : lb ∉ G3 := (fun h => by rcases k5 _ h with h | h; (have := List.mem_singleton.1 h; omega); (have := F2.size; omega)))
    | (go_at_call 12; refine (term_let _ _).mono ?_; rintro e w4 ⟨rfl, F4⟩; have HS := F4.size)
    | (go_at_call 14; refine (term_num _ _).mono ?_; rintro e w5 ⟨rfl, F5⟩; (try have HS := Nat.le_trans HS F5.size))
    | (go_at_call 13; refine (term_make F3' ⟨#[43]⟩ _ [Term.num 1, Term.num 2] 2 _ (krow2 (alloc_heap_new _ _) (fun h => by have := hs3.lt _ h; omega) (num_v _ _ (by unfold I64; omega)) (num_v _ _ (by unfold I64; omega))) (.inr ⟨_, _, rfl⟩) (fun b hb => by have := hs3.lt _ hb; simp; omega) (by simp) (by decide)).mono ?_; rintro e w6 ⟨⟨v6, rfl, hv6⟩, F6⟩; obtain ⟨A6, cap6, rfl⟩ := hv6.form; have F36 : Frm [] w3 w6 := Frm.trans0 (by repeat (first | with_reducible (first | refine .alloc ?_ _ | refine .drewN ?_ _ | refine .drew ?_) | ((with_reducible refine .setCell ?_ ?_ _); rotate_left; focus (first | (left; simp; done) | (right; simp; (first | done | omega)))) | with_reducible (first | assumption | exact .refl _ _ | refine .trans0 ?_ ‹_›))) F6)
    | (go_at_call 7; clear m1; refine (built_Call G3 F3' _ lb Lat.nine st1 ⟨#[105, 115]⟩ [Term.var 0, sumT] _ 2 _ ((hl3.frm0 F36).frm0 (by repeat (first | with_reducible (first | refine .alloc ?_ _ | refine .drewN ?_ _ | refine .drew ?_) | ((with_reducible refine .setCell ?_ ?_ _); rotate_left; focus (first | (left; simp; done) | (right; simp; (first | done | omega)))) | with_reducible (first | assumption | exact .refl _ _ | refine .trans0 ?_ ‹_›)))) hlb3 ((hs3.keep F36).keep (by repeat (first | with_reducible (first | refine .alloc ?_ _ | refine .drewN ?_ _ | refine .drew ?_) | ((with_reducible refine .setCell ?_ ?_ _); rotate_left; focus (first | (left; simp; done) | (right; simp; (first | done | omega)))) | with_reducible (first | assumption | exact .refl _ _ | refine .trans0 ?_ ‹_›)))) (krow2 (alloc_heap_new _ _) (fun h => by have := hs3.lt _ h; have := F36.size; omega) (var_v _ _ (by unfold I64; omega)) (hv6.keep (by repeat (first | with_reducible (first | refine .alloc ?_ _ | refine .drewN ?_ _ | refine .drew ?_) | ((with_reducible refine .setCell ?_ ?_ _); rotate_left; focus (first | (left; simp; done) | (right; simp; (first | done | omega)))) | with_reducible (first | assumption | exact .refl _ _ | refine .trans0 ?_ ‹_›))))) (by decide) (by decide)).mono ?_; rw [shown_is]; rintro e w7 ⟨rfl, TO⟩; dsimp only; obtain ⟨G7, F7', hs7, F7, m3, m4, m5⟩ := TO; have hl7 := ((hl3.frm0 F36).frm0 (by repeat (first | with_reducible (first | refine .alloc ?_ _ | refine .drewN ?_ _ | refine .drew ?_) | ((with_reducible refine .setCell ?_ ?_ _); rotate_left; focus (first | (left; simp; done) | (right; simp; (first | done | omega)))) | with_reducible (first | assumption | exact .refl _ _ | refine .trans0 ?_ ‹_›)))).frm F7 hlb3; have F17 : Frm [] w w7 := ((F13.trans0 F36).alloc _).trans F7 (fun b hb => by rcases k5 b hb with h | h; (rw [List.mem_singleton.1 h]; exact .inr F1.size); exact .inr (by have := F1.size; have := F2.size; omega)); have hlb7 : lb ∉ G7 := (fun h => by rcases m5 _ h with h | h; exact hlb3 h; (have := F36.size; have := hl3.lt; simp at h; omega)))
    | (go_at_call 16; refine (term_atom _ _ (by decide)).mono ?_; rintro e w8 ⟨rfl, F8⟩)
    | (go_at_call 15; refine (seal_put F7' (atom ⟨#[97]⟩) _ 1 _ (atom_v _ _ (by decide)) (by unfold I64; omega) (fun b hb => by have := hs7.lt _ hb; have := F8.size; omega)).mono ?_; rintro e w9 ⟨⟨v9, rfl, hv9⟩, F9⟩; obtain ⟨A9, cap9, rfl⟩ := hv9.form; have F79 : Frm [] w7 w9 := F8.trans0 F9)
    | (go_at_call 7; refine (built_Call G7 F7' _ lb Lat.nine st1' ⟨#[61, 61]⟩ [(atom ⟨#[97]⟩).put 1, atom ⟨#[97]⟩] _ 2 _ ((hl7.frm0 F79).frm0 (by repeat (first | with_reducible (first | refine .alloc ?_ _ | refine .drewN ?_ _ | refine .drew ?_) | ((with_reducible refine .setCell ?_ ?_ _); rotate_left; focus (first | (left; simp; done) | (right; simp; (first | done | omega)))) | with_reducible (first | assumption | exact .refl _ _ | refine .trans0 ?_ ‹_›)))) hlb7 ((hs7.keep F79).keep (by repeat (first | with_reducible (first | refine .alloc ?_ _ | refine .drewN ?_ _ | refine .drew ?_) | ((with_reducible refine .setCell ?_ ?_ _); rotate_left; focus (first | (left; simp; done) | (right; simp; (first | done | omega)))) | with_reducible (first | assumption | exact .refl _ _ | refine .trans0 ?_ ‹_›)))) (krow2 (alloc_heap_new _ _) (fun h => by have := hs7.lt _ h; have := F79.size; have := F8.size; omega) (hv9.keep (by repeat (first | with_reducible (first | refine .alloc ?_ _ | refine .drewN ?_ _ | refine .drew ?_) | ((with_reducible refine .setCell ?_ ?_ _); rotate_left; focus (first | (left; simp; done) | (right; simp; (first | done | omega)))) | with_reducible (first | assumption | exact .refl _ _ | refine .trans0 ?_ ‹_›)))) (atom_v _ _ (by decide))) (by decide) (by decide)).mono ?_; rw [shown_same]; rintro e w11 ⟨rfl, TO2⟩; dsimp only; obtain ⟨G11, F11', hs11, F11, n3, n4, n5⟩ := TO2; have F1b : Frm [] w w11 := ((F17.trans0 F79).trans0 (by repeat (first | with_reducible (first | refine .alloc ?_ _ | refine .drewN ?_ _ | refine .drew ?_) | ((with_reducible refine .setCell ?_ ?_ _); rotate_left; focus (first | (left; simp; done) | (right; simp; (first | done | omega)))) | with_reducible (first | assumption | exact .refl _ _ | refine .trans0 ?_ ‹_›)))).trans F11 (fun b hb => by rcases m5 b hb with h | h; (rcases k5 b h with h | h; (rw [List.mem_singleton.1 h]; exact .inr F1.size); exact .inr (by have := F1.size; have := F2.size; omega)); exact .inr (by have := F13.size; have := F36.size; simp at h; omega)))
    | (go_at_call 18; refine (store_walk G11 F11' _ st1' (Term.var 0) _ _ (hs11.keep (by repeat (first | with_reducible (first | refine .alloc ?_ _ | refine .drewN ?_ _ | refine .drew ?_) | ((with_reducible refine .setCell ?_ ?_ _); rotate_left; focus (first | (left; simp; done) | (right; simp; (first | done | omega)))) | with_reducible (first | assumption | exact .refl _ _ | refine .trans0 ?_ ‹_›)))) (var_v _ _ (by unfold I64; omega))).mono ?_; rintro e w12 ⟨⟨v12, rfl, hv12⟩, F12⟩; obtain ⟨A12, cap12, rfl⟩ := hv12.form)
    | (go_at_call 17; refine (term_Same _ (Term.num 3) F11' _ _ _ (hv12.keep (by repeat (first | with_reducible (first | refine .alloc ?_ _ | refine .drewN ?_ _ | refine .drew ?_) | ((with_reducible refine .setCell ?_ ?_ _); rotate_left; focus (first | (left; simp; done) | (right; simp; (first | done | omega)))) | with_reducible (first | assumption | exact .refl _ _ | refine .trans0 ?_ ‹_›)))) (num_v _ _ (by unfold I64; omega))).mono ?_; rintro e w13 ⟨rfl, F13b⟩))
  go_ret
  exact ⟨ret_bool (by kernel_rfl), (by repeat (first | with_reducible (first | refine .alloc ?_ _ | refine .drewN ?_ _ | refine .drew ?_) | ((with_reducible refine .setCell ?_ ?_ _); rotate_left; focus (first | (left; simp; done) | (right; simp; (first | done | omega)))) | with_reducible (first | assumption | exact .refl _ _ | refine .trans0 ?_ ‹_›)))⟩
end Go.Proofs.Ytkiofaojokofbaa
namespace Go.Proofs.Ytkiofaojokofbaa
open Go.RowKit

theorem TermV.newer {W w' : World} {F : List Nat} {t : Term} {v : Value} (h : TermV [] W t v) (b : Below W.heap.size W w') (hF : ∀ b ∈ F, W.heap.size ≤ b) : TermV F w' t v :=
  TermV.same [] F W w' (fun x _ hx hm => by have := hF x hm; omega) (fun x _ hx => b.block x hx) t v h
theorem KidsV.newer {W w' : World} {F : List Nat} {ts : List Term} {A : Option Addr} {i : Nat} (h : KidsV [] W ts A i) (b : Below W.heap.size W w') (hF : ∀ b ∈ F, W.heap.size ≤ b) : KidsV F w' ts A i :=
  KidsV.same [] F W w' (fun x _ hx hm => by have := hF x hm; omega) (fun x _ hx => b.block x hx) ts A i h
end Go.Proofs.Ytkiofaojokofbaa
