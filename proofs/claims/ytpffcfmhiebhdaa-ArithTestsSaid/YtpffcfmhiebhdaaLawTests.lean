/- ArithTests. -/
import Derived.Test.YtpffcfmhiebhdaaLawEv
import Derived.WalkSpells
import Derived.WalkLawsBesides
import Derived.Deep.QuietTactic
import Derived.BigQuiet
import Derived.Deep.DeepCutAuto
import Derived.Deep.RegionHeld3
import Derived.Lib.Hide
import Derived.Handy
namespace Go.Proofs.Ytpffcfmhiebhdaa
open Go.RowKit

theorem arith_test_is {s : ByteArray} {a b : Int} {x y : Bool} (h : Arith.test s a b = (x, y)) (w : World) :
    Calls Try.prog 16 #[.string s, .int .i64 a, .int .i64 b] w fun e w' => e = .returned (.tuple #[.bool x, .bool y]) ∧ w = w' := by
  have k := arith_test s a b w
  rw [h] at k
  exact k
section
variable (a b : Int)
theorem test_lt : Arith.test ⟨#[60]⟩ a b = (decide (a < b), true) := by kernel_rfl
theorem test_gt : Arith.test ⟨#[62]⟩ a b = (decide (b < a), true) := by kernel_rfl
theorem test_eq : Arith.test ⟨#[61, 58, 61]⟩ a b = (a == b, true) := by kernel_rfl
theorem test_le : Arith.test ⟨#[61, 60]⟩ a b = (decide (a ≤ b), true) := by kernel_rfl
theorem test_ge : Arith.test ⟨#[62, 61]⟩ a b = (decide (b ≤ a), true) := by kernel_rfl
theorem test_ne : Arith.test ⟨#[61, 92, 61]⟩ a b = (a != b, true) := by kernel_rfl
end
theorem test_known (s : ByteArray) (a b : Int) : (Arith.test s a b).2 = false → (Arith.test s a b).1 = false := by
  unfold Arith.test
  repeat' split
  all_goals simp

theorem law_ArithTests (a b : Int) (op : ByteArray) (w : World) :
    Calls Try.prog 6 #[.int .i64 a, .int .i64 b, .string op] w fun e w' => e = .returned (.bool true) ∧ Frm [] w w' := by
  have core : ∀ x1 x2 x3 x4 x5 x6 x7 x8 : Bool, decide (a < b) = x1 → Arith.test ⟨#[60]⟩ a b = (x1, true) → Arith.test ⟨#[62]⟩ a b = (x2, true) → Arith.test ⟨#[61, 58, 61]⟩ a b = (x3, true) → Arith.test ⟨#[61, 60]⟩ a b = (x4, true) →
      Arith.test ⟨#[62, 61]⟩ a b = (x5, true) → Arith.test ⟨#[61, 92, 61]⟩ a b = (x6, true) → Arith.test op a b = (x7, x8) →
      ((x1 && !x2 && !x3 || x2 && !x1 && !x3 || x3 && !x1 && !x2) && x4 == !x2 && x5 == !x1 && x6 == !x3 && (x8 || !x7)) = true →
      Calls Try.prog 6 #[.int .i64 a, .int .i64 b, .string op] w fun e w' => e = .returned (.bool true) ∧ Frm [] w w' := by
    intro x1 x2 x3 x4 x5 x6 x7 x8 h0 h1 h2 h3 h4 h5 h6 h7 hx
    have H1 := Lib.hid h1
    have H2 := Lib.hid h2
    have H3 := Lib.hid h3
    have H4 := Lib.hid h4
    have H5 := Lib.hid h5
    have H6 := Lib.hid h6
    have H7 := Lib.hid h7
    clear h1 h2 h3 h4 h5 h6 h7
    have k1 : True := trivial
    have k2 : True := trivial
    have k3 : True := trivial
    have k4 : True := trivial
    have k5 : True := trivial
    have k6 : True := trivial
    revert h0 hx
    cases x1 <;> cases x2 <;> cases x3 <;> cases x4 <;> cases x5 <;> cases x6 <;> cases x7 <;> cases x8 <;> intro h0 hx <;> first | (exfalso; revert hx; decide) | skip
    all_goals
      clear hx
      go_enter Try.func6, Try.ntmps6
      go_wp2_with (first
        | (go_at_call 9; refine (law_shown _).mono ?_; rintro e w1 ⟨rfl, F1⟩)
        | (go_at_call 16; clear k1; refine (arith_test_is H1.out _).mono ?_; rintro e w2 ⟨rfl, rfl⟩)
        | (go_at_call 16; clear k2; refine (arith_test_is H2.out _).mono ?_; rintro e w2 ⟨rfl, rfl⟩)
        | (go_at_call 16; clear k3; refine (arith_test_is H3.out _).mono ?_; rintro e w2 ⟨rfl, rfl⟩)
        | (go_at_call 16; clear k4; refine (arith_test_is H4.out _).mono ?_; rintro e w2 ⟨rfl, rfl⟩)
        | (go_at_call 16; clear k5; refine (arith_test_is H5.out _).mono ?_; rintro e w2 ⟨rfl, rfl⟩)
        | (go_at_call 16; clear k6; refine (arith_test_is H6.out _).mono ?_; rintro e w2 ⟨rfl, rfl⟩)
        | (go_at_call 16; refine (arith_test_is H7.out _).mono ?_; rintro e w2 ⟨rfl, rfl⟩))
    all_goals
      go_ret
      exact ⟨rfl, (by repeat (first | (with_reducible refine Frm.alloc ?_ _) | (with_reducible refine Frm.drewN ?_ _) | (with_reducible refine Frm.drew ?_) | ((with_reducible refine Frm.setCell ?_ ?_ _); rotate_left; (focus (first | (left; simp; done) | (right; simp; done) | (right; simp; omega)))) | with_reducible assumption | with_reducible exact Frm.refl _ _ | (with_reducible refine Frm.trans0 ?_ ‹_›)))⟩
  refine core _ _ _ _ _ _ (Arith.test op a b).1 (Arith.test op a b).2 rfl (test_lt a b) (test_gt a b) (test_eq a b) (test_le a b) (test_ge a b) (test_ne a b) rfl ?_
  have e8 : ((Arith.test op a b).2 || !(Arith.test op a b).1) = true := by
    cases h2 : (Arith.test op a b).2
    · simp [test_known op a b h2]
    · rfl
  rw [e8]
  rcases Int.lt_trichotomy a b with h | h | h
  · rw [decide_eq_true h, decide_eq_false (show ¬ b < a by omega), decide_eq_true (show a ≤ b by omega), decide_eq_false (show ¬ b ≤ a by omega), bne, show (a == b) = false by simp; omega]; rfl
  · rw [decide_eq_false (show ¬ a < b by omega), decide_eq_false (show ¬ b < a by omega), decide_eq_true (show a ≤ b by omega), decide_eq_true (show b ≤ a by omega), bne, show (a == b) = true by simp [h]]; rfl
  · rw [decide_eq_false (show ¬ a < b by omega), decide_eq_true h, decide_eq_false (show ¬ a ≤ b by omega), decide_eq_true (show b ≤ a by omega), bne, show (a == b) = false by simp; omega]; rfl
end Go.Proofs.Ytpffcfmhiebhdaa
