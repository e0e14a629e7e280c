/- The lattice of nine levels in a row: what is joined is above its parts. -/
import Derived.Test.YtpffcfmhiebhdaaEvalP
import Derived.Test.YtpffcfmhiebhdaaChainP
namespace Go.Proofs.Ytpffcfmhiebhdaa
open Go.RowKit

def In9 (a : Int) : Prop := 0 ≤ a ∧ a < 9
theorem nine_all {P : Int → Int → Bool} (h : ((List.range 9).all fun i => (List.range 9).all fun j => P (i : Int) (j : Int)) = true) {a b : Int} (ha : In9 a) (hb : In9 b) : P a b = true := by
  obtain ⟨a1, a2⟩ := ha
  obtain ⟨b1, b2⟩ := hb
  rw [List.all_eq_true] at h
  have h1 := h a.toNat (List.mem_range.2 (by omega))
  rw [List.all_eq_true] at h1
  have h2 := h1 b.toNat (List.mem_range.2 (by omega))
  rwa [Int.toNat_of_nonneg a1, Int.toNat_of_nonneg b1] at h2
theorem nine_join {a b : Int} (ha : In9 a) (hb : In9 b) : Lat.nine.join a b = max a b := by
  have h := nine_all (P := fun a b => Lat.nine.join a b == max a b) (by kernel_rfl) ha hb
  simpa using h
theorem nine_leq {a b : Int} (ha : In9 a) (hb : In9 b) : Lat.nine.leq a b = decide (a ≤ b) := by
  have h := nine_all (P := fun a b => Lat.nine.leq a b == decide (a ≤ b)) (by kernel_rfl) ha hb
  simpa using h
theorem nine_bottom : Lat.nine.bottom = 0 := by kernel_rfl
theorem nine_top : Lat.nine.top = 8 := by kernel_rfl
theorem nine_level (n : Int) : In9 (Lat.nine.level n) := by
  unfold Lat.level
  split
  · rw [nine_top]; exact ⟨by decide, by decide⟩
  · rename_i h
    have h9 : ((Lat.nine.n : Nat) : Int) = 9 := rfl
    rw [h9] at h
    exact ⟨by omega, by omega⟩
theorem in9_max {a b : Int} (ha : In9 a) (hb : In9 b) : In9 (max a b) := by
  obtain ⟨a1, a2⟩ := ha
  obtain ⟨b1, b2⟩ := hb
  exact ⟨by omega, by omega⟩
theorem evalT_level (st : PStore) (ho : ∀ t, In9 (Lat.nine.opened t).2) : ∀ d m t a, In9 a → In9 (evalT Lat.nine st d m t a).2.1 ∧ a ≤ (evalT Lat.nine st d m t a).2.1
  | 0, m, t, a, ha => ⟨ha, Int.le_refl _⟩
  | d + 1, m, t, a, ha => by
    by_cases h : 2000 < m + 1
    · simp only [evalT, h, if_true]; exact ⟨ha, Int.le_refl _⟩
    · rw [evalT_succ _ st d m t a h]
      have h1 := ho (st.walk t)
      generalize Lat.nine.opened (st.walk t) = o at *
      rw [nine_join ha h1]
      have h2 := in9_max ha h1
      have h3 : a ≤ max a o.2 := by omega
      generalize max a o.2 = b at *
      unfold evalB
      split
      · exact ⟨h2, h3⟩
      split
      · exact ⟨h2, h3⟩
      split
      · exact ⟨h2, h3⟩
      have k1 := evalT_level st ho d (m + 1) (o.1.kids.getD 0 default) b h2
      generalize evalT Lat.nine st d (m + 1) (o.1.kids.getD 0 default) b = r at *
      obtain ⟨x, la, ma⟩ := r
      dsimp only at k1
      obtain ⟨k1, k2⟩ := k1
      cases x with
      | error c => exact ⟨k1, by dsimp only; omega⟩
      | ok v =>
        dsimp only
        split
        · have q1 := evalT_level st ho d ma (o.1.kids.getD 1 default) la k1
          generalize evalT Lat.nine st d ma (o.1.kids.getD 1 default) la = r at *
          obtain ⟨x, lc, mc⟩ := r
          dsimp only at q1
          obtain ⟨q1, q2⟩ := q1
          cases x <;> exact ⟨q1, by dsimp only; omega⟩
        · split <;> exact ⟨k1, by dsimp only; omega⟩
theorem nine_peel : ∀ (t : Term) (a : Int), In9 a → In9 (Lat.nine.peel a t).2 := by
  intro t
  induction t using Term.induct with
  | h k n s ts ih =>
    intro a ha
    cases hs : (Term.mk k n s ts).sealOf
    · rw [Lat.peel_else _ _ _ hs]; exact ha
    · obtain ⟨rfl, x, rfl⟩ := Term.sealOf_true hs
      rw [Lat.peel_seal, nine_join ha (nine_level n)]
      exact ih x (by simp) _ (in9_max ha (nine_level n))
theorem nine_opened (t : Term) : In9 (Lat.nine.opened t).2 := by
  have h0 : In9 Lat.nine.bottom := by rw [nine_bottom]; exact ⟨by decide, by decide⟩
  unfold Lat.opened
  split
  · exact nine_peel t _ h0
  · exact h0
end Go.Proofs.Ytpffcfmhiebhdaa
