/- The layer arith: the product; what two numbers make. -/
import Derived.Test.YtpffcfmhiebhdaaArith
import Derived.Test.YtpffcfmhiebhdaaShelf
import Derived.WalkSpells
import Derived.WalkLawsBesides
import Derived.Deep.QuietTactic
import Derived.BigQuiet
import Derived.Deep.DeepCutAuto
import Derived.Deep.RegionHeld3
import Derived.Lib.Hide
import Derived.Handy
namespace Go.Proofs.Ytpffcfmhiebhdaa
open Go.RowKit

theorem wrap_neg_lo {lo : Nat} (h : lo ≤ 9223372036854775808) : wrap64 (IntKind.u64.wrap (-(lo : Int))) = -(lo : Int) := by
  simp only [IntKind.wrap_u64, wrap64]; omega
theorem wrap_lo {lo : Nat} (h : lo < 9223372036854775808) : wrap64 (lo : Int) = lo := by unfold wrap64; omega

set_option maxHeartbeats 1000000 in
theorem arith_times (a b : Int) (w : World) (ha : I64 a) (hb : I64 b) :
    Calls Try.prog 51 #[.int .i64 a, .int .i64 b] w fun e w' => e = ending (Arith.times a b) ∧ w = w' := by
  have hx : a.natAbs < 18446744073709551616 := by obtain ⟨a1, a2⟩ := ha; omega
  have hy : b.natAbs < 18446744073709551616 := by obtain ⟨b1, b2⟩ := hb; omega
  have HM := Lib.hid (fun w => Try.bits_Mul64 a.natAbs b.natAbs hx hy w)
  have hlo : a.natAbs * b.natAbs % 18446744073709551616 < 18446744073709551616 := Nat.mod_lt _ (by omega)
  have HE : Hid (a.natAbs * b.natAbs = (a.natAbs * b.natAbs / 18446744073709551616) * 18446744073709551616 + a.natAbs * b.natAbs % 18446744073709551616) := by
    show _ = _; omega
  generalize a.natAbs * b.natAbs / 18446744073709551616 = hi at *
  generalize a.natAbs * b.natAbs % 18446744073709551616 = lo at *
  have HLO : Hid (lo < 18446744073709551616) := hlo
  have hlo1 : 0 ≤ (lo : Int) := by omega
  clear hx hy hlo
  have HA := Lib.hid ha
  have HB := Lib.hid hb
  clear ha hb
  cases c1 : ((hi : Int) != 0) <;> cases c2 : decide ((9223372036854775808 : Int) < (lo : Int)) <;> cases c3 : ((lo : Int) == 9223372036854775808) <;> cases c4 : decide (a < 0) <;> cases c5 : decide (b < 0)
  all_goals try (exfalso; simp only [beq_iff_eq, decide_eq_true_eq] at c2 c3; omega)
  all_goals
    go_enter Try.func51, Try.ntmps51
    go_wp2_with (first
      | (go_at_call_of 56 (Value.int .i64 a); refine (arith_size a _ HA.out).mono ?_; rintro e w' ⟨rfl, rfl⟩)
      | (go_at_call_of 56 (Value.int .i64 b); refine (arith_size b _ HB.out).mono ?_; rintro e w' ⟨rfl, rfl⟩)
      | (go_at_call 55; refine (HM.out _).mono ?_; rintro e w' ⟨rfl, rfl⟩))
    first
      | (refine ⟨rfl, ?_, rfl⟩
         rw [Arith.times_err HE.out]
         · rfl
         · rw [c4, c5]
           simp only [bne_iff_ne, ne_eq, bne_eq_false_iff_eq, beq_iff_eq, beq_eq_false_iff_ne, decide_eq_true_eq, decide_eq_false_iff_not] at c1 c2 c3
           simp
           omega)
      | (go_ret
         refine ⟨?_, rfl⟩
         have g2 : lo < 9223372036854775808 := by
           have := HLO.out
           simp only [beq_eq_false_iff_ne, ne_eq, decide_eq_false_iff_not] at c2 c3
           omega
         rw [Arith.times_pos HE.out (by simpa using c1) g2 (by rw [c4, c5]; rfl)]
         exact ret_int (wrap_lo g2))
      | (go_ret
         refine ⟨?_, rfl⟩
         have g2 : lo ≤ 9223372036854775808 := by
           simp only [decide_eq_false_iff_not] at c2
           omega
         rw [Arith.times_neg HE.out (by simpa using c1) g2 (by rw [c4, c5]; rfl)]
         exact ret_int (wrap_neg_lo g2))

def Arith.two (s : ByteArray) (a b : Int) : Except Int Int :=
  if nm s == [43] then Arith.plus a b
  else if nm s == [45] then Arith.fit (a - b)
  else if nm s == [42] then Arith.times a b
  else if nm s == [47, 47] then Arith.over a b
  else Arith.mod a b

theorem Arith.fit_i64 {n m : Int} (h : Arith.fit n = .ok m) : m = n ∧ I64 m := by
  unfold Arith.fit at h
  split at h
  · rename_i hr
    simp only [Except.ok.injEq] at h
    subst h; exact ⟨rfl, hr⟩
  · cases h

theorem Arith.two_i64 {s : ByteArray} {a b m : Int} (hb : I64 b) (h : Arith.two s a b = .ok m) : I64 m := by
  unfold Arith.two at h
  split at h
  · exact (Arith.fit_i64 h).2
  split at h
  · exact (Arith.fit_i64 h).2
  split at h
  · exact (Arith.fit_i64 h).2
  split at h
  · unfold Arith.over at h
    split at h
    · cases h
    · exact (Arith.fit_i64 h).2
  · unfold Arith.mod at h
    split at h
    · cases h
    · rename_i hb0
      simp only [Except.ok.injEq] at h
      subst h
      obtain ⟨r1, r2⟩ := Arith.tmod_range (a := a) hb0
      obtain ⟨b1, b2⟩ := hb
      unfold Arith.rem
      split
      · rename_i hc
        simp only [Bool.and_eq_true, bne_iff_ne, ne_eq, decide_eq_decide] at hc
        unfold I64; omega
      · unfold I64; omega

theorem arith_two (s : ByteArray) (a b : Int) (w : World) (ha : I64 a) (hb : I64 b) :
    Calls Try.prog 43 #[.string s, .int .i64 a, .int .i64 b] w fun e w' => e = ending (Arith.two s a b) ∧ w = w' := by
  have HA := Lib.hid ha
  have HB := Lib.hid hb
  have HS : Hid (Arith.two s a b = if nm s == [43] then Arith.plus a b else if nm s == [45] then Arith.fit (a - b) else if nm s == [42] then Arith.times a b else if nm s == [47, 47] then Arith.over a b else Arith.mod a b) := rfl
  obtain ⟨b1, b2⟩ := hb
  clear ha
  cases s1 : (s.toList == [43])
  · cases s2 : (s.toList == [45])
    · cases s3 : (s.toList == [42])
      · cases s4 : (s.toList == [47, 47])
        · have HS2 : Hid (Arith.two s a b = Arith.mod a b) := by
            show _ = _
            rw [HS.out, ← nm_eq, s1, s2, s3, s4]; rfl
          go_enter Try.func43, Try.ntmps43
          go_wp2_with ((go_at_call 53; refine (arith_mod a b _ HA.out HB.out).mono ?_; rintro e w' ⟨rfl, rfl⟩; generalize hr : Arith.mod a b = r; have HR := Lib.hid hr; clear hr; cases r <;> simp only [ending]))
          · exact ⟨rfl, by rw [HS2.out, HR.out]; rfl, rfl⟩
          · go_ret
            exact ⟨by rw [HS2.out, HR.out]; rfl, rfl⟩
        · have HS2 : Hid (Arith.two s a b = Arith.over a b) := by
            show _ = _
            rw [HS.out, ← nm_eq, s1, s2, s3, s4]; rfl
          go_enter Try.func43, Try.ntmps43
          go_wp2_with ((go_at_call 52; refine (arith_over a b _ HA.out HB.out).mono ?_; rintro e w' ⟨rfl, rfl⟩; generalize hr : Arith.over a b = r; have HR := Lib.hid hr; clear hr; cases r <;> simp only [ending]))
          · exact ⟨rfl, by rw [HS2.out, HR.out]; rfl, rfl⟩
          · go_ret
            exact ⟨by rw [HS2.out, HR.out]; rfl, rfl⟩
      · have HS2 : Hid (Arith.two s a b = Arith.times a b) := by
          show _ = _
          rw [HS.out, ← nm_eq, s1, s2, s3]; rfl
        go_enter Try.func43, Try.ntmps43
        go_wp2_with ((go_at_call 51; refine (arith_times a b _ HA.out HB.out).mono ?_; rintro e w' ⟨rfl, rfl⟩; generalize hr : Arith.times a b = r; have HR := Lib.hid hr; clear hr; cases r <;> simp only [ending]))
        · exact ⟨rfl, by rw [HS2.out, HR.out]; rfl, rfl⟩
        · go_ret
          exact ⟨by rw [HS2.out, HR.out]; rfl, rfl⟩
    · have HS2 : Hid (Arith.two s a b = Arith.fit (a - b)) := by
        show _ = _
        rw [HS.out, ← nm_eq, s1, s2]; rfl
      cases hm : (b == -9223372036854775808)
      · have b3 : -9223372036854775807 ≤ b := by
          have := beq_eq_false_iff_ne.1 hm; omega
        have HP : Hid (Arith.plus a (-b) = Arith.fit (a - b)) := by
          show Arith.fit (a + -b) = _
          rw [Int.sub_eq_add_neg]
        clear b1
        go_enter Try.func43, Try.ntmps43
        go_wp2_with ((go_at_call 50; refine (arith_plus a (-b) _ HA.out (by unfold I64; omega)).mono ?_; rintro e w' ⟨rfl, rfl⟩; generalize hr : Arith.plus a (-b) = r; have HR := Lib.hid hr; clear hr; cases r <;> simp only [ending]))
        · exact ⟨rfl, by rw [HS2.out.trans HP.out.symm, HR.out]; rfl, rfl⟩
        · go_ret
          exact ⟨by rw [HS2.out.trans HP.out.symm, HR.out]; rfl, rfl⟩
      · have hb' : b = -9223372036854775808 := beq_iff_eq.1 hm
        have HP : Hid (∀ x, Arith.plus a 1 = .ok x → I64 x ∧ Arith.plus x 9223372036854775807 = Arith.fit (a - b)) := by
          intro x hx
          obtain ⟨rfl, hx⟩ := Arith.fit_i64 hx
          refine ⟨hx, ?_⟩
          show Arith.fit _ = _
          rw [hb']; congr 1; omega
        have HQ : Hid (∀ x, Arith.plus a 1 = .error x → Arith.fit (a - b) = .error x) := by
          intro x hx
          have ha2 := HA.out
          unfold I64 at ha2
          unfold Arith.plus Arith.fit at hx
          split at hx
          · cases hx
          · simp only [Except.error.injEq] at hx
            subst hx
            exact if_neg (by omega)
        clear hb'
        generalize hr : Arith.plus a 1 = r at *
        have HR := Lib.hid hr
        clear hr
        go_enter Try.func43, Try.ntmps43
        go_wp2_with fail
        refine (arith_plus a 1 _ HA.out (by unfold I64; omega)).mono ?_
        rintro e w' ⟨rfl, rfl⟩
        rw [HR.out]
        cases r with
        | error c =>
          simp only [ending]
          exact ⟨rfl, by rw [HS2.out, HQ.out c rfl]; rfl, rfl⟩
        | ok x =>
          obtain ⟨hx, hp⟩ := HP.out x rfl
          simp only [ending]
          have HX := Lib.hid hx
          have HPP := Lib.hid hp
          clear hx hp
          go_wp2_with ((go_at_call 50; refine (arith_plus x 9223372036854775807 _ HX.out (by unfold I64; omega)).mono ?_; rintro e w' ⟨rfl, rfl⟩; generalize hr : Arith.plus x 9223372036854775807 = r; have HR := Lib.hid hr; clear hr; cases r <;> simp only [ending]))
          · exact ⟨rfl, by rw [HS2.out.trans HPP.out.symm, HR.out]; rfl, rfl⟩
          · go_ret
            exact ⟨by rw [HS2.out.trans HPP.out.symm, HR.out]; rfl, rfl⟩
  · have HS2 : Hid (Arith.two s a b = Arith.plus a b) := by
      show _ = _
      rw [HS.out, ← nm_eq, s1]; rfl
    go_enter Try.func43, Try.ntmps43
    go_wp2_with ((go_at_call 50; refine (arith_plus a b _ HA.out HB.out).mono ?_; rintro e w' ⟨rfl, rfl⟩; generalize hr : Arith.plus a b = r; have HR := Lib.hid hr; clear hr; cases r <;> simp only [ending]))
    · exact ⟨rfl, by rw [HS2.out, HR.out]; rfl, rfl⟩
    · go_ret
      exact ⟨by rw [HS2.out, HR.out]; rfl, rfl⟩
end Go.Proofs.Ytpffcfmhiebhdaa
