/- BuiltUnknown: what is not known is told so, whatever its arguments are; what is known with some is not with others: the law answers true at every input of bulk at most 1048576. No other condition. -/
import Derived.Test.YtkiofaojokofbaaRows
import Derived.Test.YtkiofaojokofbaaRowUnknownA
import Derived.Test.YtkiofaojokofbaaBuiltJ
import Derived.ProofKit
import Derived.OpenShut
import Derived.JoinedCond
import Derived.Carry
namespace Go.Proofs.Ytkiofaojokofbaa
open Go.ChangeShapes Go.WideShapes Go.ChangeAt Go.RowKit
open Go.ChangeMaps (open_string shut_string)

theorem builtUnknown_own : ownKnob Try.prog.godebug = none := by kernel_rfl

set_option maxRecDepth 100000 in
theorem builtUnknown_lifted (os : Os) (started : os.Started) (H : Type) (enc : TypeId × Value → H) (F : Stop.Interp) :
    ReturnsInHanded {} Try.checked os 3 .any ((Rows.OpenSpec.upto Rows.builtUnknownSpec).pre6 enc Try.prog Try.f3 Rows.builtUnknownUptoRow.domain false) (((Rows.OpenSpec.upto Rows.builtUnknownSpec).at F).post enc Try.prog Try.f3 false true false false) := by
  refine returnsInHanded_of_cond (C := Try.checked) (s := Rows.OpenSpec.upto Rows.builtUnknownSpec) (k := Rows.uptoSmall) rfl builtUnknown_own started (by kernel_rfl) Try.func3
    (OpenSpec.witness (enc := enc) (C := Try.checked) (s := Rows.OpenSpec.upto Rows.builtUnknownSpec) (k := Rows.uptoSmall) rfl false ⟨#[], #[.string ⟨#[]⟩, .slice none 0 0], []⟩ 8 (by kernel_rfl) (by kernel_rfl) (by kernel_rfl)
      (x := ([.lit (.string []), .nil], [], [])) (by kernel_rfl) rfl (by kernel_rfl)) ?_
  intro W base args ds gs before hval0 hW _ hk _
  have hval : ∀ (j : Nat) t v, Try.f3.params[j]? = some t → args[j]? = some v → Value.okWide Try.prog W .any base t v := hval0
  have hW' := hW
  obtain ⟨p, q, hA0, hV, rfl, hfz, hnd⟩ := hW
  have hA : DataW.TrodAll enc Try.prog W 0 (fun _ => true) true Try.f3.params.toList args.toList ds p := hA0
  rw [Try.params3] at hA hval
  obtain ⟨v0, vs0, d0, ds0, p0, q0, hargs, rfl, rfl, h0, r0⟩ := trodAll_cons hA
  obtain ⟨v1, vs1, d1, ds1, p1, q1, rfl, rfl, rfl, h1, r1⟩ := trodAll_cons r0
  obtain ⟨rfl, rfl, rfl⟩ := trodAll_nil r1
  obtain rfl : args = #[v0, v1] := by cases args; simp_all
  have hkb : Rows.uptoBulkAll (([d0, d1] : List (DataW H)) ++ gs) ≤ 1048576 := of_decide_eq_true hk
  have hk0 : Rows.uptoBulk d0 ≤ 1048576 := Nat.le_trans (bulk_part (by simp)) hkb
  have hk1 : Rows.uptoBulk d1 ≤ 1048576 := Nat.le_trans (bulk_part (by simp)) hkb
  obtain ⟨rfl, rfl⟩ := trodVars_none hV
  obtain ⟨a0, rfl, rfl, rfl, w0⟩ := open_string Try.underlying9 (hval 0 9 v0 rfl rfl) h0
  have hlt1 : ∀ x ∈ p1, x.block < W.heap.size := trod_places h1
  obtain ⟨a1, b1, c1, rfl, m1, e1, s1⟩ := open_terms (hval 1 22 v1 rfl rfl) h1 hk1
  clear hA0 hval0
  simp only [List.append_nil] at hW'
  have z0 : a0.size ≤ 1048576 := by exact bulk_string (H := H) a0 hk0
  refine (law_BuiltUnknown a0 z0 b1 a1 c1 W e1 s1).mono fun e W' ⟨he, hg⟩ => ?_
  subst he
  exact ⟨_, rfl, _, _, _, _, _, _, hW', trodAll_mk1 (shut_bool Try.underlying4 _), (trodAll_cons_mk (shut_string Try.underlying9 w0) (trodAll_cons_mk (Below.trod Try.laidOut (t := 22) (by kernel_rfl) (of_decide_eq_true (by kernel_rfl)) h1 hg.below hlt1) trodAll_mk0)), rfl, hg.below.frame _, fun h => by cases h⟩

theorem builtUnknown_holds : Rows.BuiltUnknownUptoSaid :=
  OpenClaim.holds_of_cond 3 Try.f3 rfl rfl rfl rfl rfl rfl rfl ⟨rfl, rfl, rfl, rfl, rfl⟩ rfl rfl rfl rfl rfl (by kernel_rfl) Try.func3 (by kernel_rfl)
    (of_decide_eq_true (by kernel_rfl)) (by unfold Func.isWrapper; first | (rw [if_pos (by decide +kernel)]; kernel_rfl) | (rw [if_neg (by decide +kernel)]; exact ⟨rfl, rfl⟩))
    (fun os started H enc _ F => builtUnknown_lifted os started H enc F)
end Go.Proofs.Ytkiofaojokofbaa
