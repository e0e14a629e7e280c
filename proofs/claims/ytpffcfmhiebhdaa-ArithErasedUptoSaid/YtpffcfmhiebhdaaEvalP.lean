/- Plain laws of evalT: the level handed in plays no part in the value; the count may be shifted. -/
import Derived.Test.YtpffcfmhiebhdaaArithC
namespace Go.Proofs.Ytpffcfmhiebhdaa
open Go.RowKit

/-- The value and the count don't depend on the level. -/
theorem evalT_lev (l : Lat) (st : PStore) : ∀ d m t a b, (evalT l st d m t a).1 = (evalT l st d m t b).1 ∧ (evalT l st d m t a).2.2 = (evalT l st d m t b).2.2
  | 0, m, t, a, b => ⟨rfl, rfl⟩
  | d + 1, m, t, a, b => by
    by_cases h : 2000 < m + 1
    · simp [evalT, h]
    · rw [evalT_succ l st d m t a h, evalT_succ l st d m t b h]
      generalize l.opened (st.walk t) = o
      generalize l.join a o.2 = a'
      generalize l.join b o.2 = b'
      unfold evalB
      split
      · exact ⟨rfl, rfl⟩
      split
      · exact ⟨rfl, rfl⟩
      split
      · exact ⟨rfl, rfl⟩
      have h1 := evalT_lev l st d (m + 1) (o.1.kids.getD 0 default) a' b'
      generalize evalT l st d (m + 1) (o.1.kids.getD 0 default) a' = r at *
      generalize evalT l st d (m + 1) (o.1.kids.getD 0 default) b' = q at *
      obtain ⟨x, la, ma⟩ := r
      obtain ⟨y, lb, mb⟩ := q
      dsimp only at h1
      obtain ⟨rfl, rfl⟩ := h1
      cases x with
      | error c => exact ⟨rfl, rfl⟩
      | ok v =>
        dsimp only
        split
        · have h2 := evalT_lev l st d ma (o.1.kids.getD 1 default) la lb
          generalize evalT l st d ma (o.1.kids.getD 1 default) la = r at *
          generalize evalT l st d ma (o.1.kids.getD 1 default) lb = q at *
          obtain ⟨x, lc, mc⟩ := r
          obtain ⟨y, ld, md⟩ := q
          dsimp only at h2
          obtain ⟨rfl, rfl⟩ := h2
          cases x <;> exact ⟨rfl, rfl⟩
        · split <;> exact ⟨rfl, rfl⟩
theorem evalT_up (l : Lat) (st : PStore) : ∀ d m t a, m ≤ (evalT l st d m t a).2.2
  | 0, m, t, a => Nat.le_succ m
  | d + 1, m, t, a => by
    by_cases h : 2000 < m + 1
    · simp [evalT, h]
    · rw [evalT_succ l st d m t a h]
      generalize l.opened (st.walk t) = o
      generalize l.join a o.2 = a'
      unfold evalB
      split
      · exact Nat.le_succ m
      split
      · exact Nat.le_succ m
      split
      · exact Nat.le_succ m
      have h1 := evalT_up l st d (m + 1) (o.1.kids.getD 0 default) a'
      generalize evalT l st d (m + 1) (o.1.kids.getD 0 default) a' = r at *
      obtain ⟨x, la, ma⟩ := r
      dsimp only at h1
      cases x with
      | error c => dsimp only; omega
      | ok v =>
        dsimp only
        split
        · have h2 := evalT_up l st d ma (o.1.kids.getD 1 default) la
          generalize evalT l st d ma (o.1.kids.getD 1 default) la = r at *
          obtain ⟨x, lc, mc⟩ := r
          dsimp only at h2
          cases x <;> (dsimp only; omega)
        · split <;> (dsimp only; omega)
/-- With a higher count ahead: full, or the same. -/
theorem evalT_shift (l : Lat) (st : PStore) : ∀ d1 m1 t a d m, m ≤ m1 → 2000 ≤ d + m →
    (evalT l st d1 m1 t a).1 = .error 3 ∨ ∃ r lev k, evalT l st d m t a = (r, lev, k) ∧ evalT l st d1 m1 t a = (r, lev, k + (m1 - m))
  | 0, m1, t, a, d, m, _, _ => .inl rfl
  | d1 + 1, m1, t, a, d, m, hm, hd => by
    by_cases h : 2000 < m1 + 1
    · left; simp [evalT, h]
    · obtain ⟨d', rfl⟩ : ∃ d', d = d' + 1 := ⟨d - 1, by omega⟩
      rw [evalT_succ l st d1 m1 t a h, evalT_succ l st d' m t a (by omega)]
      generalize l.opened (st.walk t) = o
      generalize l.join a o.2 = a'
      unfold evalB
      split
      · exact .inr ⟨_, _, _, rfl, Prod.ext rfl (Prod.ext rfl (by dsimp only; omega))⟩
      split
      · exact .inr ⟨_, _, _, rfl, Prod.ext rfl (Prod.ext rfl (by dsimp only; omega))⟩
      split
      · exact .inr ⟨_, _, _, rfl, Prod.ext rfl (Prod.ext rfl (by dsimp only; omega))⟩
      have hup := evalT_up l st d' (m + 1) (o.1.kids.getD 0 default) a'
      rcases evalT_shift l st d1 (m1 + 1) (o.1.kids.getD 0 default) a' d' (m + 1) (by omega) (by omega) with h1 | ⟨r, lev, k, e1, e2⟩
      · left
        generalize evalT l st d1 (m1 + 1) (o.1.kids.getD 0 default) a' = r at *
        obtain ⟨x, la, ma⟩ := r
        dsimp only at h1
        subst h1
        rfl
      · rw [e1, e2]
        rw [e1] at hup
        dsimp only at hup
        cases r with
        | error c => exact .inr ⟨_, _, _, rfl, Prod.ext rfl (Prod.ext rfl (by dsimp only; omega))⟩
        | ok v =>
          dsimp only
          split
          · rcases evalT_shift l st d1 (k + (m1 + 1 - (m + 1))) (o.1.kids.getD 1 default) lev d' k (by omega) (by omega) with h2 | ⟨r2, lev2, k2, f1, f2⟩
            · left
              generalize evalT l st d1 (k + (m1 + 1 - (m + 1))) (o.1.kids.getD 1 default) lev = r at *
              obtain ⟨x, la, ma⟩ := r
              dsimp only at h2
              subst h2
              rfl
            · rw [f1, f2]
              cases r2 <;> exact .inr ⟨_, _, _, rfl, Prod.ext rfl (Prod.ext rfl (by dsimp only; omega))⟩
          · split <;> exact .inr ⟨_, _, _, rfl, Prod.ext rfl (Prod.ext rfl (by dsimp only; omega))⟩
end Go.Proofs.Ytpffcfmhiebhdaa
