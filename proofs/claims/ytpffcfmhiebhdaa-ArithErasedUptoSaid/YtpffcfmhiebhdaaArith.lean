/- The layer arith: its operations on numbers. -/
import Derived.Test.YtpffcfmhiebhdaaStore
import Derived.Test.YtpffcfmhiebhdaaAriths
import Derived.WalkSpells
import Derived.WalkLawsBesides
import Derived.Deep.QuietTactic
import Derived.BigQuiet
import Derived.Deep.DeepCutAuto
import Derived.Deep.RegionHeld3
import Derived.Lib.Hide
import Derived.Handy
namespace Go.Proofs.Ytpffcfmhiebhdaa
open Go.RowKit

def pan (c : Int) : List PanicEntry := [{ v := .iface 23 (.int .i64 c), recovered := false }]
def ending : Except Int Int → Ending
  | .ok n => .returned (.int .i64 n)
  | .error c => .panicked (pan c)

theorem end_ok {n m : Int} (h1 : -9223372036854775808 ≤ n) (h2 : n ≤ 9223372036854775807) (h : m = n) : Ending.returned (.int .i64 m) = ending (Arith.fit n) := by
  rw [Arith.fit, if_pos ⟨h1, h2⟩, h]; rfl
theorem end_err {n : Int} (h : n < -9223372036854775808 ∨ 9223372036854775807 < n) : Ending.panicked (pan 10) = ending (Arith.fit n) := by
  rw [Arith.fit, if_neg (by omega)]; rfl

theorem arith_known (s : ByteArray) (m : Int) (w : World) :
    Calls Try.prog 42 #[.string s, .int .i64 m] w fun e w' => e = .returned (.bool (Arith.known s m)) ∧ w = w' := by
  have H : Hid (∀ b, Arith.known s m = b ↔ Arith.known s m = b) := fun _ => Iff.rfl
  clear H
  generalize hb : Arith.known s m = b
  have HB := Lib.hid hb
  clear hb
  go_enter Try.func42, Try.ntmps42
  go_wp2
  all_goals
    go_ret
    refine ⟨ret_bool ?_, rfl⟩
    rw [← HB.out]
    clear HB
    simp only [nm_eq] at *
    simp_all [Arith.known]

theorem wrap64_over {n : Int} (h1 : 9223372036854775807 < n) (h2 : n ≤ 18446744073709551614) : wrap64 n < 0 := by unfold wrap64; omega
theorem wrap64_under {n : Int} (h1 : n < -9223372036854775808) (h2 : -18446744073709551616 ≤ n) : 0 ≤ wrap64 n := by unfold wrap64; omega

theorem arith_plus (a b : Int) (w : World) (ha : I64 a) (hb : I64 b) :
    Calls Try.prog 50 #[.int .i64 a, .int .i64 b] w fun e w' => e = ending (Arith.plus a b) ∧ w = w' := by
  obtain ⟨a1, a2⟩ := ha
  obtain ⟨b1, b2⟩ := hb
  by_cases hhi : 9223372036854775807 < a + b
  · have ha0 : 0 ≤ a := by omega
    have hb0 : 0 ≤ b := by omega
    have hw := wrap64_over hhi (by omega)
    have HE : Hid (Ending.panicked (pan 10) = ending (Arith.plus a b)) := end_err (.inr hhi)
    have d1 : decide (0 ≤ a) = true := decide_eq_true ha0
    have d2 : decide (0 ≤ b) = true := decide_eq_true hb0
    have d3 : decide (0 ≤ wrap64 (a + b)) = false := decide_eq_false (by omega)
    clear hhi
    go_enter Try.func50, Try.ntmps50
    go_wp2
    exact ⟨rfl, HE.out, rfl⟩
  · by_cases hlo : a + b < -9223372036854775808
    · have ha0 : a < 0 := by omega
      have hb0 : b < 0 := by omega
      have hw := wrap64_under hlo (by omega)
      have HE : Hid (Ending.panicked (pan 10) = ending (Arith.plus a b)) := end_err (.inl hlo)
      have d1 : decide (0 ≤ a) = false := decide_eq_false (by omega)
      have d2 : decide (0 ≤ b) = false := decide_eq_false (by omega)
      have d3 : decide (0 ≤ wrap64 (a + b)) = true := decide_eq_true hw
      clear hlo hhi
      go_enter Try.func50, Try.ntmps50
      go_wp2
      exact ⟨rfl, HE.out, rfl⟩
    · have h1 : -9223372036854775808 ≤ a + b := by omega
      have h2 : a + b ≤ 9223372036854775807 := by omega
      clear hlo hhi
      cases d1 : decide (0 ≤ a) <;> cases d2 : decide (0 ≤ b) <;> cases d3 : decide (0 ≤ a + b)
      all_goals
        try (exfalso; simp only [decide_eq_true_eq, decide_eq_false_iff_not] at d1 d2 d3; omega)
      all_goals
        go_enter Try.func50, Try.ntmps50
        go_wp2
        go_ret
        exact ⟨end_ok h1 h2 rfl, rfl⟩

theorem arith_minus (a : Int) (w : World) (ha : I64 a) :
    Calls Try.prog 44 #[.int .i64 a] w fun e w' => e = ending (Arith.minus a) ∧ w = w' := by
  obtain ⟨a1, a2⟩ := ha
  cases h : (a == -9223372036854775808)
  · have h1 : a ≠ -9223372036854775808 := by simpa using h
    have h2 : -9223372036854775807 ≤ a := by omega
    clear h1 a1
    go_enter Try.func44, Try.ntmps44
    go_wp2
    go_ret
    exact ⟨end_ok (by omega) (by omega) rfl, rfl⟩
  · have HE : Hid (Ending.panicked (pan 10) = ending (Arith.minus a)) := end_err (.inr (by rw [beq_iff_eq] at h; omega))
    go_enter Try.func44, Try.ntmps44
    go_wp2
    exact ⟨rfl, HE.out, rfl⟩

theorem wrap_u64_neg {a : Int} (h1 : -9223372036854775808 ≤ a) (h2 : a < 0) : IntKind.u64.wrap (-IntKind.u64.wrap a) = (a.natAbs : Int) := by
  simp only [IntKind.wrap_u64]; omega
theorem wrap_u64_pos {a : Int} (h1 : 0 ≤ a) : (a.natAbs : Int) = a := by omega

theorem arith_size (a : Int) (w : World) (ha : I64 a) :
    Calls Try.prog 56 #[.int .i64 a] w fun e w' => e = .returned (.int .u64 a.natAbs) ∧ w = w' := by
  obtain ⟨a1, a2⟩ := ha
  by_cases h : a < 0
  · have HE := Lib.hid (wrap_u64_neg a1 h)
    go_enter Try.func56, Try.ntmps56
    go_wp2
    go_ret
    exact ⟨ret_int HE.out, rfl⟩
  · have h0 : 0 ≤ a := by omega
    have HE := Lib.hid (wrap_u64_pos h0)
    go_enter Try.func56, Try.ntmps56
    go_wp2
    go_ret
    exact ⟨ret_int HE.out.symm, rfl⟩

theorem arith_over (a b : Int) (w : World) (ha : I64 a) (hb : I64 b) :
    Calls Try.prog 52 #[.int .i64 a, .int .i64 b] w fun e w' => e = ending (Arith.over a b) ∧ w = w' := by
  obtain ⟨a1, a2⟩ := ha
  obtain ⟨b1, b2⟩ := hb
  cases h1 : (b == 0)
  · have hb0 : b ≠ 0 := by simpa using h1
    have HO : Hid (Arith.over a b = Arith.fit (a.tdiv b)) := if_neg hb0
    by_cases hm : a = -9223372036854775808 ∧ b = -1
    · obtain ⟨rfl, rfl⟩ := hm
      clear hb0 h1
      go_enter Try.func52, Try.ntmps52
      go_wp2
      exact ⟨rfl, by rw [HO.out]; rfl, rfl⟩
    · obtain ⟨r1, r2⟩ := Arith.tdiv_range a1 a2 hb0 hm
      have HM : Hid (¬ (a = -9223372036854775808 ∧ b = -1)) := hm
      clear hm
      cases h2 : (a == -9223372036854775808) <;> cases h3 : (b == -1)
      all_goals try (exfalso; rw [beq_iff_eq] at h2 h3; exact HM.out ⟨h2, h3⟩)
      all_goals
        go_enter Try.func52, Try.ntmps52
        go_wp2
        go_ret
        exact ⟨by rw [HO.out]; exact end_ok r1 r2 rfl, rfl⟩
  · have HO : Hid (Arith.over a b = .error 10) := if_pos (by simpa using h1)
    go_enter Try.func52, Try.ntmps52
    go_wp2
    exact ⟨rfl, by rw [HO.out]; rfl, rfl⟩

theorem arith_mod (a b : Int) (w : World) (ha : I64 a) (hb : I64 b) :
    Calls Try.prog 53 #[.int .i64 a, .int .i64 b] w fun e w' => e = ending (Arith.mod a b) ∧ w = w' := by
  obtain ⟨a1, a2⟩ := ha
  obtain ⟨b1, b2⟩ := hb
  cases h1 : (b == 0)
  · have hb0 : b ≠ 0 := by simpa using h1
    have HO : Hid (Arith.mod a b = .ok (Arith.rem a b)) := if_neg hb0
    cases h2 : (b == -1)
    · have HR : Hid (Arith.rem a b = if (a.tmod b != 0) && (decide (a.tmod b < 0) != decide (b < 0)) then a.tmod b + b else a.tmod b) := rfl
      obtain ⟨r1, r2⟩ := Arith.tmod_range (a := a) hb0
      have r3 : -9223372036854775808 ≤ a.tmod b := by omega
      have r4 : a.tmod b ≤ 9223372036854775807 := by omega
      clear r1 r2
      cases h3 : (a.tmod b != 0) <;> cases h4 : decide (a.tmod b < 0) <;> cases h5 : decide (b < 0)
      all_goals
        have g4 := h4
        have g5 := h5
        simp only [decide_eq_true_eq, decide_eq_false_iff_not] at g4 g5
        go_enter Try.func53, Try.ntmps53
        go_wp2
        go_ret
        exact ⟨by rw [HO.out, HR.out, h3, h4, h5]; rfl, rfl⟩
    · have HR : Hid (Arith.rem a b = 0) := by
        have : b = -1 := by simpa using h2
        subst this; exact Arith.rem_neg_one a
      clear hb0
      go_enter Try.func53, Try.ntmps53
      go_wp2
      go_ret
      exact ⟨by rw [HO.out, HR.out]; rfl, rfl⟩
  · have HO : Hid (Arith.mod a b = .error 10) := if_pos (by simpa using h1)
    go_enter Try.func53, Try.ntmps53
    go_wp2
    exact ⟨rfl, by rw [HO.out]; rfl, rfl⟩
end Go.Proofs.Ytpffcfmhiebhdaa
