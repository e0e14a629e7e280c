/- Bounds on what a lattice's functions answer. -/
import Derived.Test.YtpffcfmhiebhdaaTerms
namespace Go.Proofs.Ytpffcfmhiebhdaa
open Go.RowKit
namespace Lat
/-- A level, or -1. -/
def Rng (x : Int) : Prop := -1 ≤ x ∧ x < 16
theorem joinFrom_rng (l : Lat) (both : Nat) : ∀ d c, (c + d : Nat) ≤ 16 → Rng (l.joinFrom both d c)
  | 0, c, _ => ⟨by simp [joinFrom], by simp [joinFrom]⟩
  | d + 1, c, h => by
    unfold joinFrom
    split
    · exact ⟨by omega, by omega⟩
    · exact joinFrom_rng l both d (c + 1) (by omega)
theorem join_rng {l : Lat} (h : l.WF) (a b : Int) : Rng (l.join a b) := by
  unfold join
  split
  · exact joinFrom_rng l _ l.n 0 (by have := h.n16; omega)
  · exact ⟨by decide, by decide⟩
theorem bottomTo_rng (l : Lat) : ∀ k, k ≤ 16 → Rng (l.bottomTo k)
  | 0, _ => ⟨by simp [bottomTo], by simp [bottomTo]⟩
  | k + 1, h => by
    have ih := bottomTo_rng l k (by omega)
    have : l.bottomTo (k + 1) = l.bottomStep (l.bottomTo k) k := by simp [bottomTo, List.range_succ]
    rw [this]; unfold bottomStep
    split
    · exact ⟨by omega, by omega⟩
    · exact ih
theorem topTo_rng (l : Lat) : ∀ k, k ≤ 16 → Rng (l.topTo k)
  | 0, _ => ⟨by simp [topTo], by simp [topTo]⟩
  | k + 1, h => by
    have ih := topTo_rng l k (by omega)
    have : l.topTo (k + 1) = l.topStep (l.topTo k) k := by simp [topTo, List.range_succ]
    rw [this]; unfold topStep
    split
    · exact ⟨by omega, by omega⟩
    · exact ih
theorem bottom_rng {l : Lat} (h : l.WF) : Rng l.bottom := bottomTo_rng l l.n h.n16
theorem top_rng {l : Lat} (h : l.WF) : Rng l.top := topTo_rng l l.n h.n16
theorem level_rng {l : Lat} (h : l.WF) (n : Int) : Rng (l.level n) := by
  unfold level
  split
  · exact top_rng h
  · rename_i h1
    have := h.n16
    exact ⟨by omega, by omega⟩
theorem peel_rng {l : Lat} (h : l.WF) (t : Term) : ∀ a, Rng a → Rng (l.peel a t).2 := by
  induction t using Term.induct with
  | h k n s ts ih =>
    intro a ha
    unfold peel
    split
    · exact ih _ (by simp) _ (join_rng h _ _)
    · exact ha
theorem opened_rng {l : Lat} (h : l.WF) (t : Term) : Rng (l.opened t).2 := by
  unfold opened
  split
  · exact peel_rng h t _ (bottom_rng h)
  · exact bottom_rng h
theorem joinTs_rng {l : Lat} (h : l.WF) (ts : List Term) : ∀ a, Rng a → Rng (l.joinTs a ts) := by
  induction ts with
  | nil => intro a ha; exact ha
  | cons t ts ih => intro a _; exact ih _ (join_rng h _ _)
theorem joinT_rng {l : Lat} (h : l.WF) (t : Term) : Rng (l.joinT t) := by
  obtain ⟨k, n, s, ts⟩ := t
  unfold joinT
  refine joinTs_rng h ts _ ?_
  split
  · exact level_rng h n
  · exact bottom_rng h
end Lat
end Go.Proofs.Ytpffcfmhiebhdaa
