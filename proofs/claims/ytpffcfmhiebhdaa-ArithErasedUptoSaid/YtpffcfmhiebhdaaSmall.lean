/- Small functions that the laws call: Test, Num, Clone, Make, chain. -/
import Derived.Test.YtpffcfmhiebhdaaArithD
import Derived.Test.YtpffcfmhiebhdaaAcc
import Derived.WalkSpells
import Derived.WalkLawsBesides
import Derived.Deep.QuietTactic
import Derived.BigQuiet
import Derived.Deep.DeepCutAuto
import Derived.Deep.RegionHeld3
import Derived.Lib.Hide
import Derived.Handy
namespace Go.Proofs.Ytpffcfmhiebhdaa
open Go.RowKit

def Arith.test (s : ByteArray) (a b : Int) : Bool × Bool :=
  if nm s == [60] then (decide (a < b), true)
  else if nm s == [62] then (decide (b < a), true)
  else if nm s == [61, 60] then (decide (a ≤ b), true)
  else if nm s == [62, 61] then (decide (b ≤ a), true)
  else if nm s == [61, 58, 61] then (a == b, true)
  else if nm s == [61, 92, 61] then (a != b, true)
  else (false, false)

theorem arith_test (s : ByteArray) (a b : Int) (w : World) :
    Calls Try.prog 16 #[.string s, .int .i64 a, .int .i64 b] w fun e w' => e = .returned (.tuple #[.bool (Arith.test s a b).1, .bool (Arith.test s a b).2]) ∧ w = w' := by
  generalize hr : Arith.test s a b = r
  obtain ⟨x, y⟩ := r
  have HR := Lib.hid hr
  clear hr
  go_enter Try.func16, Try.ntmps16
  go_wp2
  all_goals go_ret2
  all_goals
    refine ⟨?_, rfl⟩
    have h := HR.out
    clear HR
    simp only [nm_eq] at *
    simp_all [Arith.test]

theorem term_num (n : Int) (w : World) : Calls Try.prog 13 #[.int .i64 n] w fun e w' => e = .returned (.agg #[.int .i64 2, .int .i64 n, .string ⟨#[]⟩, .slice none 0 0]) ∧ Frm [] w w' := by
  go_enter Try.func13, Try.ntmps13
  go_wp2
  generalize hW : World.alloc _ _ = W
  have hb : W.heap[w.heap.size]? = some (.cells #[.int .i64 2, .int .i64 n, .string ⟨#[]⟩, .slice none 0 0] 35 (0, 0)) := by subst hW; exact (by repeat (first | rw [heap_alloc_at] | rw [heap_size_alloc] | rfl | rw [if_pos (by omega)] | rw [if_neg (by omega)]))
  have FW : Frm [] w W := by subst hW; exact (by repeat (first | (with_reducible refine Frm.alloc ?_ _) | (with_reducible refine Frm.drewN ?_ _) | (with_reducible refine Frm.drew ?_) | ((with_reducible refine Frm.setCell ?_ ?_ _); rotate_left; (focus (first | (left; simp; done) | (right; simp; done) | (right; simp; omega)))) | with_reducible assumption | with_reducible exact Frm.refl _ _ | (with_reducible refine Frm.trans0 ?_ ‹_›)))
  clear hW
  obtain ⟨r0, r1, r2, r3, r4, r5⟩ := blk4 hb
  refine bodyPost_ret (v := .agg #[.int .i64 2, .int .i64 n, .string ⟨#[]⟩, .slice none 0 0]) (by simp [results, Try.results13, go_sem, r0, r1, r2, r3]) rfl ?_
  exact ⟨rfl, FW⟩

theorem KidsV.news {F : List Nat} {w : World} {b off : Nat} : ∀ (ts : List Term) (i : Nat), KidsV F w ts (some ⟨b, off, none⟩) i → ∃ news : List Value, news.length = ts.length * 4 ∧
    (∀ j u, news[j]? = some u → w.cell? ⟨b, off + i * 4 + j, none⟩ = some u) ∧ (∀ u ∈ news, u.oneCell') ∧
    (∀ j t, ts[j]? = some t → ∃ c0 c1 c2 c3, news[j * 4]? = some c0 ∧ news[j * 4 + 1]? = some c1 ∧ news[j * 4 + 2]? = some c2 ∧ news[j * 4 + 3]? = some c3 ∧ TermV F w t (.agg #[c0, c1, c2, c3]))
  | [], _, _ => ⟨[], rfl, fun j u h => by simp at h, fun u h => by simp at h, fun j t h => by simp at h⟩
  | t :: ts, i, h => by
    simp only [KidsV] at h
    obtain ⟨⟨b', off', c0, c1, c2, c3, hA, hb, e0, e1, e2, e3, ht⟩, hr⟩ := h
    cases hA
    obtain ⟨news, n1, n2, n3, n4⟩ := KidsV.news ts (i + 1) hr
    refine ⟨c0 :: c1 :: c2 :: c3 :: news, by simp [n1]; omega, fun j u hj => ?_, fun u hu => ?_, fun j x hj => ?_⟩
    · match j, hj with
      | 0, hj => cases hj; exact e0
      | 1, hj => cases hj; exact e1
      | 2, hj => cases hj; exact e2
      | 3, hj => cases hj; exact e3
      | j + 4, hj =>
        have := n2 j u (by simpa using hj)
        rw [show off + i * 4 + (j + 4) = off + (i + 1) * 4 + j by omega]; exact this
    · obtain ⟨k, n, s, us⟩ := t
      have ht' := ht
      simp only [TermV] at ht'
      obtain ⟨A, cap, hv, _⟩ := ht'
      simp only [Value.agg.injEq, Array.mk.injEq, List.cons.injEq, and_true] at hv
      obtain ⟨rfl, rfl, rfl, rfl⟩ := hv
      simp only [List.mem_cons] at hu
      rcases hu with rfl | rfl | rfl | rfl | hu
      · simp [Value.oneCell']
      · simp [Value.oneCell']
      · simp [Value.oneCell']
      · simp [Value.oneCell']
      · exact n3 u hu
    · match j, hj with
      | 0, hj => cases hj; exact ⟨c0, c1, c2, c3, rfl, rfl, rfl, rfl, ht⟩
      | j + 1, hj =>
        obtain ⟨d0, d1, d2, d3, f0, f1, f2, f3, hx⟩ := n4 j x (by simpa using hj)
        refine ⟨d0, d1, d2, d3, ?_, ?_, ?_, ?_, hx⟩
        · rw [show (j + 1) * 4 = j * 4 + 4 by omega]; simpa using f0
        · rw [show (j + 1) * 4 + 1 = j * 4 + 1 + 4 by omega]; simpa using f1
        · rw [show (j + 1) * 4 + 2 = j * 4 + 2 + 4 by omega]; simpa using f2
        · rw [show (j + 1) * 4 + 3 = j * 4 + 3 + 4 by omega]; simpa using f3

theorem slices_clone (F : List Nat) (b off : Nat) (ts : List Term) (cap : Nat) (w : World) (h : KidsV F w ts (some ⟨b, off, none⟩) 0) (hF : ∀ b, b ∈ F → b < w.heap.size) (hn : ts.length ≤ 1048576) :
    Calls Try.prog 31 #[.slice (some ⟨b, off, none⟩) ts.length cap] w fun e w' =>
      (∃ A' cap', e = .returned (.slice A' ts.length cap') ∧ ts.length ≤ cap' ∧ cap' ≤ 9223372036854775807 ∧ KidsV F w' ts A' 0) ∧ Frm [] w w' := by
  have hnil : ∀ w : World, (binOp BinOp.eql 33 (.slice (some ⟨b, off, none⟩) ts.length cap) (.slice none 0 0)).run Try.prog w = .ok (.bool false) w := fun _ => by kernel_rfl
  obtain ⟨i0, hi, hz0, hz1, hz2⟩ := info_parts Try.infoTerm
  obtain ⟨news, n1, n2, n3, n4⟩ := KidsV.news ts 0 h
  simp only [Nat.zero_mul, Nat.add_zero] at n2
  have hown : ∀ W : World, W.heap[w.heap.size]? = some (.cells #[] 35 (0, 0)) → W.ownsRow w.heap.size 35 4 (.slice (some ⟨w.heap.size, 0, none⟩) 0 0) 0 [] := fun W hW =>
    ⟨rfl, .inr ⟨w.heap.size, 0, #[], rfl, Nat.le_refl _, hW, Nat.le_refl _, by decide, rfl, rfl⟩⟩
  have cl1 : ∀ (o : Obj) (j : Nat) (u : Value), news[j]? = some u → (w.alloc o).cell? (Addr.add ⟨b, off, none⟩ j) = some u := fun o j u hj => by
    have h1 := n2 j u hj
    have h2 : b < w.heap.size := World.block_lt_of_cell? w _ h1
    have h3 := (((Frm.refl [] w).alloc o).cell (b := b) (o := off + j) (s := none) h2 (by simp)).trans h1
    have h4 : Addr.add ⟨b, off, none⟩ j = ⟨b, off + j, none⟩ := by cases j <;> simp [Addr.add]
    rw [h4]; exact h3
  go_enter Try.func31, Try.ntmps31
  go_wp2_with (at_builtin; go_must (refine wpList_append_own_at _ rfl _ _ 33 rfl w.heap.size 35 i0 _ 4 56 Try.underlying33 hi hz0 hz1 hz2 rfl (by decide) (.slice (some ⟨w.heap.size, 0, none⟩) 0 0) 0 [] rfl (hown _ (alloc_heap_new _ _)) ⟨b, off, none⟩ ts.length cap news rfl n1 ?c1 ?c2 ?c3 ?c4 ?c5 ?_); (case c1 => exact cl1 _); (case c2 => exact n3); (case c3 => simp [maxLen]; omega); (case c4 => omega); (case c5 => simp); intro v w3 ho hg _ hat)
  have FW : Frm [] w w3 := ((Frm.refl [] w).alloc _).grown hg (fun k hk => .inr (by simp [Value.ownBlock] at hk; omega))
  have hob : ∀ b, b ∈ v.ownBlock.toList → w.heap.size ≤ b := fun x hx => by
    rcases hat with hat | hat <;> (rw [hat] at hx; simp [Value.ownBlock] at hx; omega)
  have hO : OwnTerms F w3 w.heap.size v ts news := by
    refine ⟨by simpa using ho, n1, fun j t hj => ?_⟩
    obtain ⟨c0, c1, c2, c3, e0, e1, e2, e3, ht⟩ := n4 j t hj
    refine ⟨c0, c1, c2, c3, e0, e1, e2, e3, TermV.same F _ w w3 (fun x hx hlt hx' => ?_) (fun x _ hlt => FW.block x hlt (by simp)) t _ ht⟩
    rcases List.mem_append.1 hx' with hx' | hx'
    · have := hob x hx'; omega
    · exact hx hx'
  obtain ⟨A', cap', rfl, hc1, hc2, hk⟩ := hO.kids hF
  go_ret
  exact ⟨⟨A', cap', rfl, hc1, hc2, hk⟩, FW⟩

theorem slices_clone_nil (w : World) :
    Calls Try.prog 31 #[.slice none 0 0] w fun e w' => e = .returned (.slice none 0 0) ∧ w = w' := by
  have hnil : ∀ w : World, (binOp BinOp.eql 33 (.slice none 0 0) (.slice none 0 0)).run Try.prog w = .ok (.bool true) w := fun _ => by kernel_rfl
  go_enter Try.func31, Try.ntmps31
  go_wp2
  go_ret
  exact ⟨rfl, rfl⟩

/-- A name with parts. -/
theorem term_make (F : List Nat) (s : ByteArray) (A : Option Addr) (ts : List Term) (cap : Nat) (w : World) (hk : KidsV F w ts A 0) (hA : (A = none ∧ cap = 0) ∨ ∃ b off, A = some ⟨b, off, none⟩) (hF : ∀ b, b ∈ F → b < w.heap.size) (hn : ts.length ≤ 1048576) (hs : s.size ≤ 1048576) :
    Calls Try.prog 15 #[.string s, .slice A ts.length cap] w fun e w' => (∃ v, e = .returned v ∧ TermV F w' (.mk 3 0 s ts) v) ∧ Frm [] w w' := by
  have hcl : ∀ w1 : World, Frm [] w w1 → w.heap.size < w1.heap.size → Calls Try.prog 31 #[.slice A ts.length cap] w1 fun e w' =>
      (∃ A' cap', e = .returned (.slice A' ts.length cap') ∧ ts.length ≤ cap' ∧ cap' ≤ 9223372036854775807 ∧ KidsV (w.heap.size :: F) w' ts A' 0) ∧ Frm [] w1 w' := by
    intro w1 F1 hlt
    have hk1 := (hk.away (F' := w.heap.size :: F) (new_one (Nat.le_refl _))).keep F1
    rcases hA with ⟨rfl, rfl⟩ | ⟨b, off, rfl⟩
    · have : ts = [] := by
        cases ts with
        | nil => rfl
        | cons t ts => simp [KidsV] at hk
      subst this
      refine (slices_clone_nil w1).mono ?_
      rintro e w' ⟨rfl, rfl⟩
      exact ⟨⟨none, 0, rfl, by simp, by simp, by simp [KidsV]⟩, Frm.refl _ _⟩
    · exact slices_clone _ b off ts cap w1 hk1 (lt_one hF hlt (Nat.le_of_lt hlt)) hn
  go_enter Try.func15, Try.ntmps15
  go_wp2_with (go_at_call 31; refine (hcl _ (by repeat (first | (with_reducible refine Frm.alloc ?_ _) | (with_reducible refine Frm.drewN ?_ _) | (with_reducible refine Frm.drew ?_) | ((with_reducible refine Frm.setCell ?_ ?_ _); rotate_left; (focus (first | (left; simp; done) | (right; simp; done) | (right; simp; omega)))) | with_reducible assumption | with_reducible exact Frm.refl _ _ | (with_reducible refine Frm.trans0 ?_ ‹_›))) (by simp)).mono ?_; rintro e w1 ⟨⟨A', cap', rfl, hc1, hc2, hk'⟩, F1⟩; obtain ⟨r0, r1, r2, r3, r4, r5⟩ := blk4 (F1.at0 (alloc_heap_new _ _)))
  have hb := F1.at0 (alloc_heap_new w _)
  have F2 : Frm [] w w1 := ((Frm.refl [] w).alloc _).trans0 F1
  generalize hW : World.setCell _ _ (.slice A' ts.length cap') = W
  have hbW : W.heap[w.heap.size]? = some (.cells #[.int .i64 3, .int .i64 0, .string s, .slice A' ts.length cap'] 35 (0, 0)) := by subst hW; exact box_store4 hb _ _ _ _
  have FW : Frm [w.heap.size] w1 W := by subst hW; exact (by repeat (first | (with_reducible refine Frm.alloc ?_ _) | (with_reducible refine Frm.drewN ?_ _) | (with_reducible refine Frm.drew ?_) | ((with_reducible refine Frm.setCell ?_ ?_ _); rotate_left; (focus (first | (left; simp; done) | (right; simp; done) | (right; simp; omega)))) | with_reducible assumption | with_reducible exact Frm.refl _ _ | (with_reducible refine Frm.trans0 ?_ ‹_›)))
  clear hW
  have F3 : Frm [] w W := F2.trans FW (by simp)
  obtain ⟨s0, s1, s2, s3, s4, s5⟩ := blk4 hbW
  refine bodyPost_ret (v := .agg #[.int .i64 3, .int .i64 0, .string s, .slice A' ts.length cap']) (by simp [results, Try.results15, go_sem, s0, s1, s2, s3]) rfl ?_
  refine ⟨⟨_, rfl, TermV.mk' (by unfold I64; omega) (by unfold I64; omega) hs hn hc1 hc2 ((hk'.frm FW (by simp)).away (fun b hb => .inl (by simp [hb])))⟩, F3⟩
end Go.Proofs.Ytpffcfmhiebhdaa
