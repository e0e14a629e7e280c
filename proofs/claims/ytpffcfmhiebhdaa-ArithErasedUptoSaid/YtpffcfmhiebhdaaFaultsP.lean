/- ArithFaults in plain data. -/
import Derived.Test.YtpffcfmhiebhdaaNineP
import Derived.Test.YtpffcfmhiebhdaaArithB
namespace Go.Proofs.Ytpffcfmhiebhdaa
open Go.RowKit

theorem fit_code {n c : Int} (h : Arith.fit n = .error c) : c ≠ 0 := by
  unfold Arith.fit at h
  split at h
  · cases h
  · cases h; decide
theorem two_code {s : ByteArray} {a b c : Int} (h : Arith.two s a b = .error c) : c ≠ 0 := by
  unfold Arith.two at h
  repeat' split at h
  all_goals first
    | exact fit_code h
    | (unfold Arith.over at h; split at h; (cases h; decide); exact fit_code h)
    | (unfold Arith.mod at h; split at h; (cases h; decide); cases h)
theorem evalT_code (l : Lat) (st : PStore) : ∀ d m t a c, (evalT l st d m t a).1 = .error c → c ≠ 0
  | 0, m, t, a, c, h => by cases h; decide
  | d + 1, m, t, a, c, h => by
    by_cases hm : 2000 < m + 1
    · simp only [evalT, hm, if_true] at h; cases h; decide
    · rw [evalT_succ l st d m t a hm] at h
      generalize l.opened (st.walk t) = o at *
      generalize l.join a o.2 = a' at *
      unfold evalB at h
      split at h
      · cases h; decide
      split at h
      · cases h
      split at h
      · cases h; decide
      have k1 := evalT_code l st d (m + 1) (o.1.kids.getD 0 default) a'
      generalize evalT l st d (m + 1) (o.1.kids.getD 0 default) a' = r at *
      obtain ⟨x, la, ma⟩ := r
      cases x with
      | error c' => exact k1 c (by simpa using h)
      | ok v =>
        dsimp only at h
        split at h
        · have q1 := evalT_code l st d ma (o.1.kids.getD 1 default) la
          generalize evalT l st d ma (o.1.kids.getD 1 default) la = r at *
          obtain ⟨x, lc, mc⟩ := r
          cases x with
          | error c' => exact q1 c (by simpa using h)
          | ok v2 => exact two_code h
        · split at h
          · cases h
          · exact fit_code h
theorem nine_step {d m : Nat} {k n lev : Int} {s : ByteArray} {ts : List Term} (hl : In9 lev) (hm : ¬2000 < m + 1) (h : (Term.mk k n s ts).sealOf = false) :
    evalT Lat.nine .empty (d + 1) m (.mk k n s ts) lev = evalB (evalT Lat.nine .empty d) (m + 1) lev k n s ts := by
  have hw : PStore.empty.walk (.mk k n s ts) = .mk k n s ts := rfl
  rw [evalT_succ _ _ _ _ _ _ hm, hw, Lat.opened, h, nine_bottom]
  have : Lat.nine.join lev 0 = lev := by rw [nine_join hl ⟨by decide, by decide⟩]; have := hl.1; omega
  simp only [Bool.false_eq_true, if_false, this]
  rfl
def ansL (r : Except Int Int) (lev : Int) : Int × Int × Int := match r with | .ok a => (a, lev, 0) | .error c => (0, lev, c)
theorem ansL_lev (r : Except Int Int) (lev : Int) : (ansL r lev).2.1 = lev := by cases r <;> rfl
theorem evalS_nine {t : Term} {r : Except Int Int} {lev : Int} {m : Nat} (h : evalT Lat.nine .empty 2000 0 t 0 = (r, lev, m)) : evalS Lat.nine .empty t = ansL r lev := by
  rw [evalS, nine_bottom, h]
  cases r <;> rfl
theorem faults_three (s : ByteArray) (a b : Term) : (evalS Lat.nine .empty (.mk 3 0 s [a, b, a])).2.2 = 9 := by
  have h : evalT Lat.nine .empty (1999 + 1) 0 (.mk 3 0 s [a, b, a]) 0 = (.error 9, 0, 1) := by
    rw [nine_step ⟨by decide, by decide⟩ (by decide) rfl]
    refine evalB_no _ _ _ _ _ _ _ (by decide) (by decide) ?_
    rintro ⟨_, h⟩
    unfold Arith.known at h
    repeat' split at h
    all_goals simp at h
  rw [evalS_nine h]; rfl
theorem faults_sum (a b : Term) : (evalS Lat.nine .empty a).2.2 = 3 ∨ (evalS Lat.nine .empty (.mk 3 0 ⟨#[43]⟩ [a, b])).2.2 = 3 ∨
    ((evalS Lat.nine .empty a).2.2 ≠ 0 ∧ (evalS Lat.nine .empty (.mk 3 0 ⟨#[43]⟩ [a, b])).2.2 = (evalS Lat.nine .empty a).2.2 ∧ (evalS Lat.nine .empty (.mk 3 0 ⟨#[43]⟩ [a, b])).2.1 = (evalS Lat.nine .empty a).2.1) ∨
    ((evalS Lat.nine .empty a).2.2 = 0 ∧ ((evalS Lat.nine .empty b).2.2 = 0 ∨ (evalS Lat.nine .empty (.mk 3 0 ⟨#[43]⟩ [a, b])).2.2 = (evalS Lat.nine .empty b).2.2) ∧
      Lat.nine.leq (evalS Lat.nine .empty a).2.1 (evalS Lat.nine .empty (.mk 3 0 ⟨#[43]⟩ [a, b])).2.1 = true) := by
  have i0 : In9 0 := ⟨by decide, by decide⟩
  have hk : Arith.known ⟨#[43]⟩ (([a, b] : List Term).length : Int) = true := (by decide : Arith.known ⟨#[43]⟩ ((2 : Nat) : Int) = true)
  have hst := nine_step (d := 1999) (m := 0) (k := 3) (n := 0) (s := ⟨#[43]⟩) (ts := [a, b]) i0 (by decide) rfl
  rcases evalT_shift Lat.nine .empty 1999 1 a 0 2000 0 (by decide) (by decide) with h1 | ⟨r, lev, k, e1, e2⟩
  · right; left
    cases hr : evalT Lat.nine .empty 1999 1 a 0 with
    | mk x y =>
      rw [hr] at h1
      dsimp only at h1
      subst h1
      rw [evalS_nine (hst.trans (evalB_err _ _ _ _ _ _ hk hr))]; rfl
  · rw [evalS_nine e1]
    cases r with
    | error c =>
      right; right; left
      rw [evalS_nine (hst.trans (evalB_err _ _ _ _ _ _ hk e2))]
      exact ⟨evalT_code _ _ _ _ _ _ c (by rw [e1]), rfl, rfl⟩
    | ok v =>
      have hl := evalT_level .empty nine_opened 2000 0 a 0 i0
      rw [e1] at hl
      rcases evalT_shift Lat.nine .empty 1999 (k + (1 - 0)) b lev 2000 0 (by omega) (by decide) with h1 | ⟨r2, lev2, k2, f1, f2⟩
      · right; left
        cases hr : evalT Lat.nine .empty 1999 (k + (1 - 0)) b lev with
        | mk x y =>
          rw [hr] at h1
          dsimp only at h1
          subst h1
          rw [evalS_nine (hst.trans (evalB_err2 _ _ _ _ _ _ hk rfl e2 hr))]; rfl
      · right; right; right
        have hb := (evalT_lev Lat.nine .empty 2000 0 b lev 0).1
        rw [f1] at hb
        have hl2 := evalT_level .empty nine_opened 2000 0 b lev hl.1
        rw [f1] at hl2
        cases hbb : evalT Lat.nine .empty 2000 0 b 0 with
        | mk x y =>
          rw [hbb] at hb
          dsimp only at hb
          subst hb
          rw [evalS_nine hbb]
          refine ⟨rfl, ?_, ?_⟩
          · cases r2 with
            | error c => right; rw [evalS_nine (hst.trans (evalB_err2 _ _ _ _ _ _ hk rfl e2 f2))]; rfl
            | ok w => left; rfl
          · cases r2 with
            | error c => rw [evalS_nine (hst.trans (evalB_err2 _ _ _ _ _ _ hk rfl e2 f2))]; rw [ansL_lev, ansL_lev, nine_leq hl.1 hl2.1]; exact decide_eq_true hl2.2
            | ok w =>
              rw [evalS_nine (hst.trans (evalB_two _ _ _ _ _ _ hk rfl e2 f2))]
              rw [ansL_lev, ansL_lev]
              rw [nine_leq hl.1 hl2.1]; exact decide_eq_true hl2.2
end Go.Proofs.Ytpffcfmhiebhdaa
