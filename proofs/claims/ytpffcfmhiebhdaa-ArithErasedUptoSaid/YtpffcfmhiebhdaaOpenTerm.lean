/- A Term argument opened, and put back; a string's length by the bound. -/
import Derived.Test.YtpffcfmhiebhdaaReadTerm
import Derived.ProofKit
import Derived.OpenShut
import Derived.Carry
namespace Go.Proofs.Ytpffcfmhiebhdaa
open Go.ChangeShapes Go.WideShapes Go.ChangeAt Go.RowKit

theorem Try.laidOut : laidOutB Try.prog = true := by kernel_rfl
theorem Try.termRec : Try.prog.readableRec 35 = true := by kernel_rfl
theorem Try.termRow : 35 < Try.prog.types.size := of_decide_eq_true (by kernel_rfl)

theorem trod_places {H : Type} {enc : TypeId × Value → H} {P : Program} {W : World} {base : Nat} {sp : Nat → Bool} {held : Bool} {t : TypeId} {v : Value} {d : DataW H} {ps : List MemPlace} (h : DataW.Trod enc P W base sp held t v d ps) : ∀ x ∈ ps, x.block < W.heap.size := by
  obtain ⟨n, h⟩ := h
  exact DataW.trod_lt n t _ _ h

theorem open_term {H : Type} {enc : TypeId × Value → H} {W : World} {base : Nat} {v : Value} {d : DataW H} {ps : List MemPlace} (hv : Value.okWide Try.prog W .any base 35 v)
    (h : DataW.Trod enc Try.prog W 0 (fun _ => true) true 35 v d ps) (hk : Rows.uptoBulk d ≤ 1048576) : ∃ t, TermV [] W t v ∧ t.size ≤ 1048576 := by
  obtain ⟨cs, rfl, hc⟩ := okWide_struct Try.underlying35 hv
  obtain ⟨n, h⟩ := h
  obtain ⟨t, c0, c1, c2, c3, e, ht, hs⟩ := read_term _ n _ d ps (Nat.le_refl _) hk h
  refine ⟨t, ?_, by omega⟩
  have e' : cs.toList = [c0, c1, c2, c3] := e
  rw [show cs = #[c0, c1, c2, c3] from Array.toList_inj.1 e']
  exact ht
theorem bulk_string {H : Type} (s : ByteArray) (h : Rows.uptoBulk (DataW.lit (H := H) (.string s.data.toList)) ≤ 1048576) : s.size ≤ 1048576 := by
  have : s.data.toList.length = s.size := by rw [Array.length_toList]; rfl
  simp only [Rows.uptoBulk] at h
  omega
end Go.Proofs.Ytpffcfmhiebhdaa
