/- Arithmetic as data: what each operation answers, or the number of its error. -/
import Derived.Test.YtpffcfmhiebhdaaStores
namespace Go.Proofs.Ytpffcfmhiebhdaa
open Go.RowKit
/-- A name's bytes. -/
def nm (s : ByteArray) : List UInt8 := s.data.toList
theorem nm_eq (s : ByteArray) : s.toList = nm s := ByteArray.toList_eq s
namespace Arith
def known (s : ByteArray) (m : Int) : Bool :=
  if nm s == [45] then m == 1 || m == 2
  else if nm s == [43] || nm s == [42] || nm s == [47, 47] || nm s == [109, 111, 100] then m == 2
  else if nm s == [97, 98, 115] then m == 1
  else false
def fit (n : Int) : Except Int Int := if -9223372036854775808 ≤ n ∧ n ≤ 9223372036854775807 then .ok n else .error 10
def plus (a b : Int) : Except Int Int := fit (a + b)
def minus (a : Int) : Except Int Int := fit (-a)
def times (a b : Int) : Except Int Int := fit (a * b)
def over (a b : Int) : Except Int Int := if b = 0 then .error 10 else fit (a.tdiv b)
def rem (a b : Int) : Int := if (a.tmod b != 0) && (decide (a.tmod b < 0) != decide (b < 0)) then a.tmod b + b else a.tmod b
def mod (a b : Int) : Except Int Int := if b = 0 then .error 10 else .ok (rem a b)
theorem tdiv_range {a b : Int} (h1 : -9223372036854775808 ≤ a) (h2 : a ≤ 9223372036854775807) (hb : b ≠ 0) (hm : ¬ (a = -9223372036854775808 ∧ b = -1)) :
    -9223372036854775808 ≤ a.tdiv b ∧ a.tdiv b ≤ 9223372036854775807 := by
  have h3 : (a.tdiv b).natAbs = a.natAbs / b.natAbs := Int.natAbs_tdiv a b
  have h4 : a.natAbs / b.natAbs ≤ a.natAbs := Nat.div_le_self _ _
  by_cases h5 : a = -9223372036854775808
  · by_cases h6 : b = 1
    · subst h6; rw [Int.tdiv_one]; omega
    · have h7 : 2 ≤ b.natAbs := by omega
      have h8 : a.natAbs / b.natAbs ≤ a.natAbs / 2 := Nat.div_le_div_left h7 (by omega)
      omega
  · omega
theorem tmod_range {a b : Int} (hb : b ≠ 0) : -(b.natAbs : Int) < a.tmod b ∧ a.tmod b < b.natAbs := by
  have h1 : (a.tmod b).natAbs = a.natAbs % b.natAbs := Int.natAbs_tmod a b
  have h2 : a.natAbs % b.natAbs < b.natAbs := Nat.mod_lt _ (by omega)
  omega
theorem rem_neg_one (a : Int) : rem a (-1) = 0 := by simp [rem, Int.tmod_neg, Int.tmod_one]
theorem mul_abs (a b : Int) : a * b = if (decide (a < 0) != decide (b < 0)) then -((a.natAbs * b.natAbs : Nat) : Int) else ((a.natAbs * b.natAbs : Nat) : Int) := by
  rcases Int.natAbs_eq a with ha | ha <;> rcases Int.natAbs_eq b with hb | hb
  all_goals
    generalize a.natAbs = x at *
    generalize b.natAbs = y at *
    subst ha hb
    simp only [Int.natCast_mul]
    split
    all_goals
      rename_i h
      simp only [bne_iff_ne, ne_eq, decide_eq_decide] at h
      first
        | (simp [Int.neg_mul, Int.mul_neg]; done)
        | (have hx : x = 0 ∨ y = 0 := by omega
           rcases hx with rfl | rfl <;> simp)
theorem times_err {a b : Int} {hi lo : Nat} (h : a.natAbs * b.natAbs = hi * 18446744073709551616 + lo)
    (e : hi ≠ 0 ∨ 9223372036854775808 < lo ∨ (lo = 9223372036854775808 ∧ (decide (a < 0) != decide (b < 0)) = false)) : times a b = .error 10 := by
  unfold times fit
  rw [if_neg]
  rw [mul_abs, h]
  cases hs : (decide (a < 0) != decide (b < 0))
  · simp only [Bool.false_eq_true, if_false]; omega
  · simp only [if_true]
    rcases e with e | e | e
    · omega
    · omega
    · rw [hs] at e; exact absurd e.2 (by decide)
theorem times_neg {a b : Int} {hi lo : Nat} (h : a.natAbs * b.natAbs = hi * 18446744073709551616 + lo) (h1 : hi = 0) (h2 : lo ≤ 9223372036854775808) (hs : (decide (a < 0) != decide (b < 0)) = true) : times a b = .ok (-lo) := by
  unfold times fit
  have : a * b = -lo := by rw [mul_abs, h, hs]; simp only [if_true]; omega
  rw [this, if_pos (by omega)]
theorem times_pos {a b : Int} {hi lo : Nat} (h : a.natAbs * b.natAbs = hi * 18446744073709551616 + lo) (h1 : hi = 0) (h2 : lo < 9223372036854775808) (hs : (decide (a < 0) != decide (b < 0)) = false) : times a b = .ok lo := by
  unfold times fit
  have : a * b = lo := by rw [mul_abs, h, hs]; simp only [Bool.false_eq_true, if_false]; omega
  rw [this, if_pos (by omega)]
end Arith
end Go.Proofs.Ytpffcfmhiebhdaa
