/- The reference's Size, and few. -/
import Derived.Test.YtpffcfmhiebhdaaLawEv
import Derived.WalkSpells
import Derived.WalkLawsBesides
import Derived.Deep.QuietTactic
import Derived.BigQuiet
import Derived.Deep.DeepCutAuto
import Derived.Deep.RegionHeld3
import Derived.Lib.Hide
import Derived.Handy
namespace Go.Proofs.Ytpffcfmhiebhdaa
open Go.RowKit

theorem sizes_append (ts us : List Term) : Term.sizes (ts ++ us) = Term.sizes ts + Term.sizes us := by
  induction ts with
  | nil => simp [Term.sizes]
  | cons t ts ih => simp only [List.cons_append, Term.sizes, ih]; omega
theorem sizes_snoc {ts : List Term} {j : Nat} (h : j < ts.length) : Term.sizes (ts.take (j + 1)) = Term.sizes (ts.take j) + ts[j].size := by
  rw [take_succ_get h, sizes_append]; simp [Term.sizes]
theorem sizes_take (ts : List Term) (j : Nat) : Term.sizes (ts.take j) ≤ Term.sizes ts := by
  have h := sizes_append (ts.take j) (ts.drop j)
  rw [List.take_append_drop] at h
  omega

theorem ref_size : ∀ (t : Term) (F : List Nat) (v : Value) (w : World), TermV F w t v → t.size ≤ 1048576 →
    Calls Try.prog 32 #[v] w fun e w' => e = .returned (.int .i64 t.size) ∧ Frm [] w w' := by
  intro t
  induction t using Term.induct with
  | h k n s ts ih =>
    intro F v w h hsz
    have IH := Lib.hid ih
    clear ih
    simp only [TermV] at h
    obtain ⟨A, cap, rfl, _, _, _, hl1, hc, hc2, hk⟩ := h
    have H0 : Hid (Term.size (.mk k n s ts) = 1 + Term.sizes ts) := rfl
    rw [H0.out] at hsz
    go_enter Try.func32, Try.ntmps32
    go_wp2
    go_loopw [3, 4] (fun a i wr => ∃ j : Nat, j ≤ ts.length ∧ i = .int .i64 j ∧ Frm [] (w.alloc (.cells #[.int .i64 k, .int .i64 n, .string s, .slice A ts.length cap] 35)) wr ∧ a = .int .i64 ((1 + Term.sizes (ts.take j) : Nat) : Int)) (fun _ i _ => ts.length - (intOf i).toNat)
    case atStart => exact ⟨0, Nat.zero_le _, rfl, Frm.refl _ _, by simp [Term.sizes]⟩
    case round =>
      obtain ⟨j, hj, rfl, hF, rfl⟩ := hrel
      obtain ⟨r0, r1, r2, r3, r4, r5⟩ := blk4 (hF.at0 (alloc_heap_new w _))
      have hF0 : Frm [] w wr := ((Frm.refl [] w).alloc _).trans0 hF
      by_cases hlt : j < ts.length
      · obtain ⟨b', off, A', cap', rfl, hb1, hb2, e0, e1, e2, e3, hkid⟩ := (hk.keep hF0).kid j hlt
        have HT := Lib.hid (sizes_snoc hlt)
        have HM : Hid (ts[j] ∈ ts) := List.getElem_mem hlt
        have hle := sizes_take ts (j + 1)
        rw [HT.out] at hle
        generalize ts[j] = t at *
        have hpos : 1 + Term.sizes (ts.take j) + t.size ≤ 1048576 := by omega
        generalize Term.sizes (ts.take j) = acc at *
        go_wp2_with (go_at_call 32; refine (IH.out t HM.out F _ _ (hkid.keep (by repeat (first | (with_reducible refine Frm.alloc ?_ _) | (with_reducible refine Frm.drewN ?_ _) | (with_reducible refine Frm.drew ?_) | ((with_reducible refine Frm.setCell ?_ ?_ _); rotate_left; (focus (first | (left; simp; done) | (right; simp; done) | (right; simp; omega)))) | with_reducible assumption | with_reducible exact Frm.refl _ _ | (with_reducible refine Frm.trans0 ?_ ‹_›)))) (by omega)).mono ?_; rintro e w2 ⟨rfl, Fw2⟩; obtain ⟨hcw2, hfw2⟩ := Fw2.reads)
        go_roundw
        case rel =>
          exact ⟨j + 1, by omega, by go_num, hF.trans0 Fw2, by rw [HT.out]; go_num⟩
        case measure => simp [intOf]; omega
      · have : j = ts.length := by omega
        subst this
        go_wp2
        go_ret
        exact ⟨ret_int (by rw [H0.out, List.take_length]), hF0⟩
theorem law_few (F : List Nat) (t : Term) (v : Value) (w : World) (h : TermV F w t v) (hs : t.size ≤ 1048576) :
    Calls Try.prog 18 #[v] w fun e w' => e = .returned (.bool (decide (t.size ≤ 300))) ∧ Frm [] w w' := by
  obtain ⟨A, cap, rfl⟩ := h.form
  go_enter Try.func18, Try.ntmps18
  go_wp2_with (go_at_call 32; refine (ref_size t F _ _ (h.keep (by repeat (first | (with_reducible refine Frm.alloc ?_ _) | (with_reducible refine Frm.drewN ?_ _) | (with_reducible refine Frm.drew ?_) | ((with_reducible refine Frm.setCell ?_ ?_ _); rotate_left; (focus (first | (left; simp; done) | (right; simp; done) | (right; simp; omega)))) | with_reducible assumption | with_reducible exact Frm.refl _ _ | (with_reducible refine Frm.trans0 ?_ ‹_›)))) hs).mono ?_; rintro e w2 ⟨rfl, Fw2⟩; obtain ⟨hcw2, hfw2⟩ := Fw2.reads)
  go_ret
  exact ⟨ret_bool (decide_eq_decide.2 (by omega)), (by repeat (first | (with_reducible refine Frm.alloc ?_ _) | (with_reducible refine Frm.drewN ?_ _) | (with_reducible refine Frm.drew ?_) | ((with_reducible refine Frm.setCell ?_ ?_ _); rotate_left; (focus (first | (left; simp; done) | (right; simp; done) | (right; simp; omega)))) | with_reducible assumption | with_reducible exact Frm.refl _ _ | (with_reducible refine Frm.trans0 ?_ ‹_›)))⟩
end Go.Proofs.Ytpffcfmhiebhdaa
