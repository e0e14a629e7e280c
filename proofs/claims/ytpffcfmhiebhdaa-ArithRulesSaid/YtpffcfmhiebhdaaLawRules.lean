/- ArithRules. -/
import Derived.Test.YtpffcfmhiebhdaaLawEvs
import Derived.WalkSpells
import Derived.WalkLawsBesides
import Derived.Deep.QuietTactic
import Derived.BigQuiet
import Derived.Deep.DeepCutAuto
import Derived.Deep.RegionHeld3
import Derived.Lib.Hide
import Derived.Handy
namespace Go.Proofs.Ytpffcfmhiebhdaa
open Go.RowKit

theorem tmod_abs (x y : Int) (hy : y ≠ 0) : (x.tmod y).natAbs < y.natAbs := by
  rw [Int.natAbs_tmod]
  exact Nat.mod_lt _ (by omega)
theorem rem_facts (x y : Int) (hy : y ≠ 0) : (Arith.rem x y = 0 ∨ (decide (0 < Arith.rem x y) == decide (0 < y)) = true) ∧ (Arith.rem x y).natAbs < y.natAbs ∧ (x - Arith.rem x y).tmod y = 0 := by
  have h1 := tmod_abs x y hy
  have h2 : x.tmod y = x - y * x.tdiv y := Int.tmod_def x y
  unfold Arith.rem
  split
  · rename_i h
    simp only [Bool.and_eq_true, bne_iff_ne, ne_eq] at h
    obtain ⟨h3, h4⟩ := h
    refine ⟨?_, ?_, ?_⟩
    · right
      by_cases h5 : x.tmod y < 0 <;> by_cases h6 : y < 0 <;> simp [h5, h6] at h4
      · simp; constructor <;> intro _ <;> omega
      · simp; constructor <;> intro _ <;> omega
    · by_cases h5 : x.tmod y < 0 <;> by_cases h6 : y < 0 <;> simp [h5, h6] at h4 <;> omega
    · rw [show x - (x.tmod y + y) = y * (x.tdiv y - 1) by rw [h2, Int.mul_sub]; omega]
      exact Int.mul_tmod_right _ _
  · rename_i h
    refine ⟨?_, h1, ?_⟩
    · by_cases h0 : x.tmod y = 0
      · exact .inl h0
      · right
        by_cases h5 : x.tmod y < 0 <;> by_cases h6 : y < 0 <;> simp [h5, h6, h0] at h ⊢
        · constructor <;> intro _ <;> omega
        · constructor <;> intro _ <;> omega
    · rw [show x - x.tmod y = y * x.tdiv y by omega]
      exact Int.mul_tmod_right _ _
theorem tdiv_abs (x y : Int) : (x.tdiv y).natAbs ≤ x.natAbs := by
  rw [Int.natAbs_tdiv]; exact Nat.div_le_self _ _
theorem mul_rng (x y : Int) (h1 : -2147483648 ≤ x) (h2 : x ≤ 2147483647) (h3 : -2147483648 ≤ y) (h4 : y ≤ 2147483647) : -9223372036854775808 ≤ x * y ∧ x * y ≤ 9223372036854775807 := by
  have h : (x * y).natAbs ≤ 2147483648 * 2147483648 := by
    rw [Int.natAbs_mul]; exact Nat.mul_le_mul (by omega) (by omega)
  omega

theorem law_ArithRules (x y : Int) (w : World) (x1 : -2147483648 ≤ x) (x2 : x ≤ 2147483647) (y1 : -2147483648 ≤ y) (y2 : y ≤ 2147483647) :
    Calls Try.prog 3 #[.int .i32 x, .int .i32 y] w fun e w' => e = .returned (.bool true) ∧ Frm [] w w' := by
  have ix : I64 x := by unfold I64; omega
  have iy : I64 y := by unfold I64; omega
  obtain ⟨q1, q2⟩ := mul_rng x y x1 x2 y1 y2
  have T1 : Hid (evV ⟨#[43]⟩ x y = (x + y, 0, 0)) := by show _ = _; rw [ev_plus, Arith.plus, fit_ok (by unfold I64; omega)]
  have T2 : Hid (evV ⟨#[42]⟩ x y = (x * y, 0, 0)) := by show _ = _; rw [ev_times, Arith.times, fit_ok (by unfold I64; omega)]
  have T3 : Hid (evV ⟨#[45]⟩ x y = (x - y, 0, 0)) := by show _ = _; rw [ev_minus, fit_ok (by unfold I64; omega)]
  have k1 : True := trivial
  have k2 : True := trivial
  have k3 : True := trivial
  have k4 : True := trivial
  by_cases hy : y = 0
  · subst hy
    have T4 : Hid (evV ⟨#[109, 111, 100]⟩ x 0 = (0, 0, 10)) := by show _ = _; rw [ev_mod, Arith.mod, if_pos rfl]
    have T5 : Hid (evV ⟨#[47, 47]⟩ x 0 = (0, 0, 10)) := by show _ = _; rw [ev_over, Arith.over, if_pos rfl]
    go_enter Try.func3, Try.ntmps3
    go_wp2_with (first
      | (go_at_call 9; refine (law_shown _).mono ?_; rintro e w1 ⟨rfl, F1⟩)
      | (go_at_call 10; clear k1; refine (law_ev_is T1.out _ ix iy (by decide)).mono ?_; rintro e w2 ⟨rfl, F2⟩)
      | (go_at_call 10; clear k2; refine (law_ev_is T2.out _ ix iy (by decide)).mono ?_; rintro e w3 ⟨rfl, F3⟩)
      | (go_at_call 10; clear k3; refine (law_ev_is T3.out _ ix iy (by decide)).mono ?_; rintro e w4 ⟨rfl, F4⟩)
      | (go_at_call 10; clear k4; refine (law_ev_is T4.out _ ix iy (by decide)).mono ?_; rintro e w5 ⟨rfl, F5⟩)
      | (go_at_call 10; refine (law_ev_is T5.out _ ix iy (by decide)).mono ?_; rintro e w6 ⟨rfl, F6⟩))
    go_ret
    exact ⟨rfl, (by repeat (first | (with_reducible refine Frm.alloc ?_ _) | (with_reducible refine Frm.drewN ?_ _) | (with_reducible refine Frm.drew ?_) | ((with_reducible refine Frm.setCell ?_ ?_ _); rotate_left; (focus (first | (left; simp; done) | (right; simp; done) | (right; simp; omega)))) | with_reducible assumption | with_reducible exact Frm.refl _ _ | (with_reducible refine Frm.trans0 ?_ ‹_›)))⟩
  · have core : ∀ m q : Int, Arith.rem x y = m → x.tdiv y = q → Calls Try.prog 3 #[.int .i32 x, .int .i32 y] w fun e w' => e = .returned (.bool true) ∧ Frm [] w w' := by
      intro m q hm hq
      obtain ⟨r1, r2, r3⟩ := rem_facts x y hy
      have d1 := tdiv_abs x y
      rw [hm] at r1 r2 r3
      rw [hq] at d1
      have T4 : Hid (evV ⟨#[109, 111, 100]⟩ x y = (m, 0, 0)) := by show _ = _; rw [ev_mod, Arith.mod, if_neg hy, hm]
      have T5 : Hid (evV ⟨#[47, 47]⟩ x y = (q, 0, 0)) := by show _ = _; rw [ev_over, Arith.over, if_neg hy, hq, fit_ok (by unfold I64; omega)]
      have hq' : x.tdiv y = q := hq
      go_enter Try.func3, Try.ntmps3
      go_wp2_with (first
        | (go_at_call 9; refine (law_shown _).mono ?_; rintro e w1 ⟨rfl, F1⟩)
        | (go_at_call 10; clear k1; refine (law_ev_is T1.out _ ix iy (by decide)).mono ?_; rintro e w2 ⟨rfl, F2⟩)
        | (go_at_call 10; clear k2; refine (law_ev_is T2.out _ ix iy (by decide)).mono ?_; rintro e w3 ⟨rfl, F3⟩)
        | (go_at_call 10; clear k3; refine (law_ev_is T3.out _ ix iy (by decide)).mono ?_; rintro e w4 ⟨rfl, F4⟩)
        | (go_at_call 10; clear k4; refine (law_ev_is T4.out _ ix iy (by decide)).mono ?_; rintro e w5 ⟨rfl, F5⟩)
        | (go_at_call 10; refine (law_ev_is T5.out _ ix iy (by decide)).mono ?_; rintro e w6 ⟨rfl, F6⟩))
      all_goals first
        | (go_ret; exact ⟨rfl, (by repeat (first | (with_reducible refine Frm.alloc ?_ _) | (with_reducible refine Frm.drewN ?_ _) | (with_reducible refine Frm.drew ?_) | ((with_reducible refine Frm.setCell ?_ ?_ _); rotate_left; (focus (first | (left; simp; done) | (right; simp; done) | (right; simp; omega)))) | with_reducible assumption | with_reducible exact Frm.refl _ _ | (with_reducible refine Frm.trans0 ?_ ‹_›)))⟩)
        | (exfalso; have hm0 := ‹m = 0›; rw [hm0, Int.sub_zero] at r3; exact absurd r3 ‹_›)
        | (exfalso; rcases r1 with r1 | r1; exact absurd r1 ‹_›; exact absurd (by simpa using r1) ‹¬(0 < m ↔ 0 < y)›)
    exact core _ _ rfl rfl
end Go.Proofs.Ytpffcfmhiebhdaa
