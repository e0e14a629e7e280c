/- ArithEdges. -/
import Derived.Test.YtpffcfmhiebhdaaLawEvs
import Derived.WalkSpells
import Derived.WalkLawsBesides
import Derived.Deep.QuietTactic
import Derived.BigQuiet
import Derived.Deep.DeepCutAuto
import Derived.Deep.RegionHeld3
import Derived.Lib.Hide
import Derived.Handy
namespace Go.Proofs.Ytpffcfmhiebhdaa
open Go.RowKit

theorem law_ArithEdges (a : Int) (w : World) (ia : I64 a) :
    Calls Try.prog 4 #[.int .i64 a] w fun e w' => e = .returned (.bool true) ∧ Frm [] w w' := by
  have core : ∀ p e n h : Int, evV ⟨#[43]⟩ a a = (p, 0, e) → evV ⟨#[42]⟩ a 2 = (p, 0, e) → evV ⟨#[45]⟩ a a = (0, 0, 0) → evV ⟨#[42]⟩ a (-1) = (n, 0, h) → evV ⟨#[45]⟩ 0 a = (n, 0, h) →
      ((e == 0) == (decide (-4611686018427387904 ≤ a) && decide (a ≤ 4611686018427387903))) = true → ((h == 10) == (a == -9223372036854775808)) = true →
      Calls Try.prog 4 #[.int .i64 a] w fun e w' => e = .returned (.bool true) ∧ Frm [] w w' := by
    intro p e n h t1 t2 t3 t4 t5 hx hy
    have T1 := Lib.hid t1
    have T2 := Lib.hid t2
    have T3 := Lib.hid t3
    have T4 := Lib.hid t4
    have T5 := Lib.hid t5
    clear t1 t2 t3 t4 t5
    have k1 : True := trivial
    have k2 : True := trivial
    have k3 : True := trivial
    have k4 : True := trivial
    have i2 : I64 2 := by unfold I64; omega
    have i1 : I64 (-1) := by unfold I64; omega
    have i0 : I64 0 := by unfold I64; omega
    revert hx hy
    cases b1 : decide (-4611686018427387904 ≤ a) <;> cases b2 : decide (a ≤ 4611686018427387903) <;> cases b3 : (a == -9223372036854775808) <;> cases b4 : (e == 0) <;> cases b5 : (h == 10) <;> intro hx hy <;> first | (exfalso; revert hx; decide) | (exfalso; revert hy; decide) | skip
    all_goals clear hx hy
    all_goals
      go_enter Try.func4, Try.ntmps4
      go_wp2_with (first
        | (go_at_call 9; refine (law_shown _).mono ?_; rintro e w1 ⟨rfl, F1⟩)
        | (go_at_call 10; clear k1; refine (law_ev_is T1.out _ ia ia (by decide)).mono ?_; rintro e w2 ⟨rfl, F2⟩)
        | (go_at_call 10; clear k2; refine (law_ev_is T2.out _ ia i2 (by decide)).mono ?_; rintro e w3 ⟨rfl, F3⟩)
        | (go_at_call 10; clear k3; refine (law_ev_is T3.out _ ia ia (by decide)).mono ?_; rintro e w4 ⟨rfl, F4⟩)
        | (go_at_call 10; clear k4; refine (law_ev_is T4.out _ ia i1 (by decide)).mono ?_; rintro e w5 ⟨rfl, F5⟩)
        | (go_at_call 10; refine (law_ev_is T5.out _ i0 ia (by decide)).mono ?_; rintro e w6 ⟨rfl, F6⟩))
      go_ret
      exact ⟨rfl, (by repeat (first | (with_reducible refine Frm.alloc ?_ _) | (with_reducible refine Frm.drewN ?_ _) | (with_reducible refine Frm.drew ?_) | ((with_reducible refine Frm.setCell ?_ ?_ _); rotate_left; (focus (first | (left; simp; done) | (right; simp; done) | (right; simp; omega)))) | with_reducible assumption | with_reducible exact Frm.refl _ _ | (with_reducible refine Frm.trans0 ?_ ‹_›)))⟩
  obtain ⟨a1, a2⟩ := ia
  have z : evV ⟨#[45]⟩ a a = (0, 0, 0) := by rw [ev_minus, Int.sub_self, fit_ok (by unfold I64; omega)]
  by_cases hm : a = -9223372036854775808
  · subst hm
    exact core 0 10 0 10 (by kernel_rfl) (by kernel_rfl) (by kernel_rfl) (by kernel_rfl) (by kernel_rfl) (by decide) (by decide)
  · have hn : (a == -9223372036854775808) = false := by simpa using hm
    have u1 : evV ⟨#[42]⟩ a (-1) = (-a, 0, 0) := by rw [ev_times, Arith.times, show a * -1 = -a by omega, fit_ok (by unfold I64; omega)]
    have u2 : evV ⟨#[45]⟩ 0 a = (-a, 0, 0) := by rw [ev_minus, show 0 - a = -a by omega, fit_ok (by unfold I64; omega)]
    by_cases hf : -4611686018427387904 ≤ a ∧ a ≤ 4611686018427387903
    · refine core (a + a) 0 (-a) 0 ?_ ?_ z u1 u2 ?_ ?_
      · rw [ev_plus, Arith.plus, fit_ok (by unfold I64; omega)]
      · rw [ev_times, Arith.times, show a * 2 = a + a by omega, fit_ok (by unfold I64; omega)]
      · rw [decide_eq_true hf.1, decide_eq_true hf.2]; rfl
      · rw [hn]; rfl
    · refine core 0 10 (-a) 0 ?_ ?_ z u1 u2 ?_ ?_
      · rw [ev_plus, Arith.plus, fit_no (by unfold I64; omega)]
      · rw [ev_times, Arith.times, show a * 2 = a + a by omega, fit_no (by unfold I64; omega)]
      · have : (decide (-4611686018427387904 ≤ a) && decide (a ≤ 4611686018427387903)) = false := by
          rw [← Bool.decide_and]; exact decide_eq_false hf
        rw [this]; rfl
      · rw [hn]; rfl
end Go.Proofs.Ytpffcfmhiebhdaa
