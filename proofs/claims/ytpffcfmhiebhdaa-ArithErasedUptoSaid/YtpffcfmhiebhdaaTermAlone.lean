/- term.Deep, term.alone: what each call answers. -/
import Derived.Test.YtpffcfmhiebhdaaTermVars
import Derived.WalkSpells
import Derived.WalkLawsBesides
import Derived.Deep.QuietTactic
import Derived.BigQuiet
import Derived.Deep.DeepCutAuto
import Derived.Deep.RegionHeld3
import Derived.Lib.Hide
import Derived.Handy
namespace Go.Proofs.Ytpffcfmhiebhdaa
open Go.RowKit

namespace Term
theorem deeps_append (xs ys : List Term) : deeps (xs ++ ys) = max (deeps xs) (deeps ys) := by
  induction xs with
  | nil => simp [deeps]
  | cons x xs ih => simp only [List.cons_append, deeps, ih]; omega
theorem deeps_take {ts : List Term} {j : Nat} (h : j < ts.length) : deeps (ts.take (j + 1)) = max (deeps (ts.take j)) ts[j].deep := by
  rw [List.take_succ_eq_append_getElem h, deeps_append]; simp [deeps]
theorem deep_le : ∀ t : Term, t.deep ≤ t.size := by
  intro t
  induction t using Term.induct with
  | h k n s ts ih =>
    simp only [deep, size]
    have : deeps ts ≤ sizes ts := by
      clear k n s
      induction ts with
      | nil => simp [deeps]
      | cons x xs ih2 => have h1 := ih x (by simp); have h2 := ih2 (fun t ht => ih t (by simp [ht])); simp only [deeps, sizes]; omega
    omega
end Term

theorem term_deep : ∀ (t : Term) (F : List Nat) (v : Value) (w : World), TermV F w t v → t.size ≤ 1048576 →
    Calls Try.prog 34 #[v] w fun e w' => e = .returned (.int .i64 t.deep) ∧ Frm [] w w' := by
  intro t
  induction t using Term.induct with
  | h k n s ts ih =>
    intro F v w h hs
    have IH := Lib.hid ih
    clear ih
    simp only [TermV] at h
    obtain ⟨A, cap, rfl, _, _, _, hl1, hc, hc2, hk⟩ := h
    simp only [Term.size] at hs
    go_enter Try.func34, Try.ntmps34
    go_wp2
    go_loopw [3, 9] (fun a i wr => ∃ j : Nat, j ≤ ts.length ∧ i = .int .i64 j ∧ Frm [] w wr ∧ a = .int .i64 (Term.deeps (ts.take j))) (fun _ i _ => ts.length - (intOf i).toNat)
    case atStart => exact ⟨0, Nat.zero_le _, rfl, (by repeat (first | (with_reducible refine Frm.alloc ?_ _) | (with_reducible refine Frm.drewN ?_ _) | (with_reducible refine Frm.drew ?_) | ((with_reducible refine Frm.setCell ?_ ?_ _); rotate_left; (focus (first | (left; simp; done) | (right; simp; done) | (right; simp; omega)))) | with_reducible assumption | with_reducible exact Frm.refl _ _ | (with_reducible refine Frm.trans0 ?_ ‹_›))), rfl⟩
    case round =>
      obtain ⟨j, hj, rfl, hF, rfl⟩ := hrel
      by_cases hlt : j < ts.length
      · obtain ⟨b', off, A', cap', rfl, hb1, hb2, e0, e1, e2, e3, hkid⟩ := (hk.keep hF).kid j hlt
        have HM : Hid (ts[j] ∈ ts) := List.getElem_mem hlt
        have HS := Lib.hid (Term.deeps_take hlt)
        have hz : ts[j].size ≤ 1048576 := by have := Term.size_mem (List.getElem_mem hlt); omega
        have hdl := Term.deep_le ts[j]
        have hd1 : Term.deeps (ts.take j) ≤ 1048576 := by
          have h1 := Term.deep_le (.mk k n s (ts.take j))
          simp only [Term.deep, Term.size] at h1
          have := Term.sizes_take hlt
          omega
        generalize ts[j] = t at *
        generalize Term.deeps (ts.take j) = acc at *
        go_wp2_with (go_at_call 34; refine (IH.out t HM.out F _ _ (hkid.keep (by repeat (first | (with_reducible refine Frm.alloc ?_ _) | (with_reducible refine Frm.drewN ?_ _) | (with_reducible refine Frm.drew ?_) | ((with_reducible refine Frm.setCell ?_ ?_ _); rotate_left; (focus (first | (left; simp; done) | (right; simp; done) | (right; simp; omega)))) | with_reducible assumption | with_reducible exact Frm.refl _ _ | (with_reducible refine Frm.trans0 ?_ ‹_›)))) hz).mono ?_; rintro e w2 ⟨rfl, Fw2⟩; obtain ⟨hcw2, hfw2⟩ := Fw2.reads)
        go_roundw
        case rel =>
          exact ⟨j + 1, by omega, by go_num, (by repeat (first | (with_reducible refine Frm.alloc ?_ _) | (with_reducible refine Frm.drewN ?_ _) | (with_reducible refine Frm.drew ?_) | ((with_reducible refine Frm.setCell ?_ ?_ _); rotate_left; (focus (first | (left; simp; done) | (right; simp; done) | (right; simp; omega)))) | with_reducible assumption | with_reducible exact Frm.refl _ _ | (with_reducible refine Frm.trans0 ?_ ‹_›))), by rw [HS.out]; congr 1; omega⟩
        case measure => simp [intOf]; omega
      · have : j = ts.length := by omega
        subst this
        have hd1 : Term.deeps ts ≤ 1048576 := by
          have h1 := Term.deep_le (.mk k n s ts)
          simp only [Term.deep, Term.size] at h1
          omega
        simp only [List.take_length]
        have H0 : Hid ((Term.mk k n s ts).deep = 1 + Term.deeps ts) := by show _ = _; rfl
        generalize Term.deeps ts = acc at *
        go_wp2
        go_ret
        exact ⟨ret_int (by rw [H0.out]; simp), hF⟩

theorem term_Vars_len (F : List Nat) (T : Term) (v : Value) (w : World) (hv : TermV F w T v) (hs : T.size ≤ 1048576) :
    Calls Try.prog 47 #[v] w fun e w' => (∃ A cap, e = .returned (.slice A T.vars.length cap)) ∧ Frm [] w w' :=
  (term_Vars F T v w hv hs).mono fun e w' ⟨⟨r, h1, h2⟩, h3⟩ => by
    rcases h2.2 with ⟨rfl, h4⟩ | ⟨g, cap, cur, rfl, _⟩
    · exact ⟨⟨none, 0, by rw [h1, h4]⟩, h3⟩
    · exact ⟨⟨_, _, h1⟩, h3⟩

theorem empty_beq (s : ByteArray) : (s == ByteArray.empty) = decide (s.toList = []) := by
  rw [ByteArray.toList_eq]
  show (s.data == #[]) = _
  by_cases h : s.data.toList = []
  · have : s.data = #[] := Array.toList_inj.1 h
    rw [this]; rfl
  · rw [decide_eq_false h, beq_eq_false_iff_ne]
    intro e
    rw [e] at h
    exact h rfl
theorem alone_var (levels n : Int) (s : ByteArray) (ts : List Term) : Term.alone levels (.mk 1 n s ts) = (decide (0 ≤ n) && decide (n < 4096) && decide (s.toList = []) && (ts.length == 0)) := by rw [← empty_beq]; rfl
theorem alone_int (levels n : Int) (s : ByteArray) (ts : List Term) : Term.alone levels (.mk 2 n s ts) = (decide (s.toList = []) && (ts.length == 0)) := by rw [← empty_beq]; rfl
theorem alone_fun (levels n : Int) (s : ByteArray) (ts : List Term) : Term.alone levels (.mk 3 n s ts) = ((n == 0) && decide (s.size ≤ 64) && decide (ts.length ≤ 8)) := rfl
theorem alone_seal1 (levels n : Int) (s : ByteArray) (t : Term) : Term.alone levels (.mk 4 n s [t]) = (decide (s.toList = []) && decide (0 ≤ n) && decide (n < levels) && (t.vars.length == 0)) := by rw [← empty_beq]; rfl
theorem alone_seal (levels n : Int) (s : ByteArray) (ts : List Term) (h : ts.length ≠ 1) : Term.alone levels (.mk 4 n s ts) = false := by
  match ts, h with
  | [], _ => simp [Term.alone, Term.kind, Term.n, Term.s, Term.kids]
  | [x], h => simp at h
  | x :: y :: r, _ => simp [Term.alone, Term.kind, Term.n, Term.s, Term.kids]
theorem alone_else (levels k n : Int) (s : ByteArray) (ts : List Term) (h1 : k ≠ 1) (h2 : k ≠ 2) (h3 : k ≠ 3) (h4 : k ≠ 4) : Term.alone levels (.mk k n s ts) = false := by
  simp [Term.alone, Term.kind, h1, h2, h3, h4]

set_option maxHeartbeats 1000000 in
theorem term_alone (F : List Nat) (t : Term) (v : Value) (levels : Int) (w : World) (h : TermV F w t v) (hs : t.size ≤ 1048576) (hl : I64 levels) :
    Calls Try.prog 36 #[v, .int .i64 levels] w fun e w' => e = .returned (.bool (t.alone levels)) ∧ Frm [] w w' := by
  obtain ⟨k, n, s, ts⟩ := t
  have hv := h
  simp only [TermV] at h
  obtain ⟨A, cap, rfl, ik, im, is, hl1, hc, hc2, hk⟩ := h
  obtain ⟨l1, l2⟩ := hl
  simp only [Term.size] at hs
  by_cases k1 : k = 1
  · subst k1
    go_enter Try.func36, Try.ntmps36
    go_wp2
    all_goals
      go_ret
      refine ⟨ret_bool ?_, (by repeat (first | (with_reducible refine Frm.alloc ?_ _) | (with_reducible refine Frm.drewN ?_ _) | (with_reducible refine Frm.drew ?_) | ((with_reducible refine Frm.setCell ?_ ?_ _); rotate_left; (focus (first | (left; simp; done) | (right; simp; done) | (right; simp; omega)))) | with_reducible assumption | with_reducible exact Frm.refl _ _ | (with_reducible refine Frm.trans0 ?_ ‹_›)))⟩
      rw [alone_var]
      rw [Bool.eq_iff_iff]; first | (simp_all; done) | (simp_all; omega)
  by_cases k2 : k = 2
  · subst k2
    go_enter Try.func36, Try.ntmps36
    go_wp2
    all_goals
      go_ret
      refine ⟨ret_bool ?_, (by repeat (first | (with_reducible refine Frm.alloc ?_ _) | (with_reducible refine Frm.drewN ?_ _) | (with_reducible refine Frm.drew ?_) | ((with_reducible refine Frm.setCell ?_ ?_ _); rotate_left; (focus (first | (left; simp; done) | (right; simp; done) | (right; simp; omega)))) | with_reducible assumption | with_reducible exact Frm.refl _ _ | (with_reducible refine Frm.trans0 ?_ ‹_›)))⟩
      rw [alone_int]
      rw [Bool.eq_iff_iff]; first | (simp_all; done) | (simp_all; omega)
  by_cases k3 : k = 3
  · subst k3
    go_enter Try.func36, Try.ntmps36
    go_wp2
    all_goals
      go_ret
      refine ⟨ret_bool ?_, (by repeat (first | (with_reducible refine Frm.alloc ?_ _) | (with_reducible refine Frm.drewN ?_ _) | (with_reducible refine Frm.drew ?_) | ((with_reducible refine Frm.setCell ?_ ?_ _); rotate_left; (focus (first | (left; simp; done) | (right; simp; done) | (right; simp; omega)))) | with_reducible assumption | with_reducible exact Frm.refl _ _ | (with_reducible refine Frm.trans0 ?_ ‹_›)))⟩
      rw [alone_fun]
      rw [Bool.eq_iff_iff]; first | (simp_all; done) | (simp_all; omega)
  by_cases k4 : k = 4
  · subst k4
    by_cases hts : ts.length = 1
    · obtain ⟨x, rfl⟩ := List.length_eq_one_iff.1 hts
      obtain ⟨b', off, A', cap', rfl, hb1, hb2, e0, e1, e2, e3, hkid⟩ := hk.kid 0 (by simp)
      simp only [List.getElem_cons_zero, Nat.zero_mul, Nat.add_zero] at e0 e1 e2 e3 hkid
      simp only [Term.sizes] at hs
      go_enter Try.func36, Try.ntmps36
      go_wp2_with (go_at_call 47; refine (term_Vars_len F x _ _ (hkid.keep (by repeat (first | (with_reducible refine Frm.alloc ?_ _) | (with_reducible refine Frm.drewN ?_ _) | (with_reducible refine Frm.drew ?_) | ((with_reducible refine Frm.setCell ?_ ?_ _); rotate_left; (focus (first | (left; simp; done) | (right; simp; done) | (right; simp; omega)))) | with_reducible assumption | with_reducible exact Frm.refl _ _ | (with_reducible refine Frm.trans0 ?_ ‹_›)))) (by omega)).mono ?_; rintro e w2 ⟨⟨A2, cap2, rfl⟩, F2⟩)
      all_goals
        go_ret
        refine ⟨ret_bool ?_, (by repeat (first | (with_reducible refine Frm.alloc ?_ _) | (with_reducible refine Frm.drewN ?_ _) | (with_reducible refine Frm.drew ?_) | ((with_reducible refine Frm.setCell ?_ ?_ _); rotate_left; (focus (first | (left; simp; done) | (right; simp; done) | (right; simp; omega)))) | with_reducible assumption | with_reducible exact Frm.refl _ _ | (with_reducible refine Frm.trans0 ?_ ‹_›)))⟩
        rw [alone_seal1]
        rw [Bool.eq_iff_iff]; first | (simp_all; done) | (simp_all; omega)
    · have hlb : ((ts.length : Int) == 1) = false := by rw [beq_eq_false_iff_ne]; omega
      go_enter Try.func36, Try.ntmps36
      go_wp2
      all_goals
        go_ret
        refine ⟨ret_bool ?_, (by repeat (first | (with_reducible refine Frm.alloc ?_ _) | (with_reducible refine Frm.drewN ?_ _) | (with_reducible refine Frm.drew ?_) | ((with_reducible refine Frm.setCell ?_ ?_ _); rotate_left; (focus (first | (left; simp; done) | (right; simp; done) | (right; simp; omega)))) | with_reducible assumption | with_reducible exact Frm.refl _ _ | (with_reducible refine Frm.trans0 ?_ ‹_›)))⟩
        rw [alone_seal _ _ _ _ hts]
  · go_enter Try.func36, Try.ntmps36
    go_wp2
    all_goals
      go_ret
      refine ⟨ret_bool ?_, (by repeat (first | (with_reducible refine Frm.alloc ?_ _) | (with_reducible refine Frm.drewN ?_ _) | (with_reducible refine Frm.drew ?_) | ((with_reducible refine Frm.setCell ?_ ?_ _); rotate_left; (focus (first | (left; simp; done) | (right; simp; done) | (right; simp; omega)))) | with_reducible assumption | with_reducible exact Frm.refl _ _ | (with_reducible refine Frm.trans0 ?_ ‹_›)))⟩
      rw [alone_else _ _ _ _ _ k1 k2 k3 k4]
end Go.Proofs.Ytpffcfmhiebhdaa
