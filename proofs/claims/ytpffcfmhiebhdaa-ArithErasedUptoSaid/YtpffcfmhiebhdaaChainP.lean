/- The lattices that the laws make, worked out; what small terms come to. -/
import Derived.Test.YtpffcfmhiebhdaaChain
namespace Go.Proofs.Ytpffcfmhiebhdaa
open Go.RowKit

namespace Lat
def closeN : Nat → Lat → Option Lat
  | 0, _ => none
  | f + 1, l => match l.lackRow l.n 0 with
    | none => some l
    | some (a, b) => closeN f (l.fill a b)
theorem closeN_eq {l l' : Lat} (h : Closes l l') : ∀ f l'', closeN f l = some l'' → l'' = l' := by
  induction h with
  | done h =>
    intro f l'' hf
    cases f with
    | zero => cases hf
    | succ f => rw [closeN, h] at hf; cases hf; rfl
  | step h r ih =>
    intro f l'' hf
    cases f with
    | zero => cases hf
    | succ f => rw [closeN, h] at hf; exact ih f l'' hf
theorem Made.det {n : Int} {ps : List (Int × Int)} {r : Except Int Lat} {l1 l2 : Lat} (h : Made n ps r) (hn : 1 ≤ n ∧ n ≤ 16) (f : Nat) (hp : pairs ps (startTo n.toNat n.toNat) = some l1)
    (hc : closeN f l1 = some l2) (hg : l2.good = true) : r = .ok l2 := by
  cases h with
  | range h => omega
  | level _ p => rw [hp] at p; cases p
  | form _ p c g =>
    rw [hp] at p; cases p
    have := closeN_eq c f l2 hc
    subst this
    rw [hg] at g; cases g
  | ok _ p c g =>
    rw [hp] at p; cases p
    rw [closeN_eq c f l2 hc]
def one : Lat := ⟨1, [1, 0, 0, 0, 0, 0, 0, 0, 0, 0, 0, 0, 0, 0, 0, 0]⟩
def two : Lat := ⟨2, [3, 2, 0, 0, 0, 0, 0, 0, 0, 0, 0, 0, 0, 0, 0, 0]⟩
def nine : Lat := ⟨9, [511, 510, 508, 504, 496, 480, 448, 384, 256, 0, 0, 0, 0, 0, 0, 0]⟩
theorem made_one {r : Except Int Lat} (h : Made 1 [] r) : r = .ok one := h.det (l1 := one) (by decide) 2 (by decide) (by decide) (by decide)
theorem made_two {r : Except Int Lat} (h : Made 2 (chainL 1) r) : r = .ok two := h.det (l1 := two) (by decide) 2 (by decide) (by decide) (by decide)
theorem made_nine {r : Except Int Lat} (h : Made 9 (chainL 8) r) : r = .ok nine :=
  h.det (l1 := ⟨9, [3, 6, 12, 24, 48, 96, 192, 384, 256, 0, 0, 0, 0, 0, 0, 0]⟩) (by decide) 100 (by kernel_rfl) (by kernel_rfl) (by kernel_rfl)
end Lat
end Go.Proofs.Ytpffcfmhiebhdaa
