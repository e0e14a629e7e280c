/- BuiltErased: goals over terms that are erased hold just where they did, with the same errors; nothing is seen of them: the law answers true at every input of bulk at most 1048576. No other condition. -/
import Derived.Test.YtkiofaojokofbaaGreatRows
import Derived.Test.YtkiofaojokofbaaGreatRowBErasedC
import Derived.Test.YtkiofaojokofbaaGreatBuiltJ
import Derived.ProofKit
import Derived.OpenShut
import Derived.JoinedCond
import Derived.Carry
namespace Go.Proofs.YtkiofaojokofbaaGreat
open Go.ChangeShapes Go.WideShapes Go.ChangeAt Go.RowKit
open Go.ChangeMaps (open_string shut_string)

theorem builtErased_own : ownKnob Tryz.prog.godebug = none := by kernel_rfl

set_option maxRecDepth 100000 in
theorem builtErased_lifted (os : Os) (started : os.Started) (H : Type) (enc : TypeId × Value → H) (F : Stop.Interp) :
    ReturnsInHanded {} Tryz.checked os 6 .any ((Rows.OpenSpec.upto Rows.builtErasedSpec).pre6 enc Tryz.prog Tryz.f6 Rows.builtErasedUptoRow.domain false) (((Rows.OpenSpec.upto Rows.builtErasedSpec).at F).post enc Tryz.prog Tryz.f6 false true false false) := by
  refine returnsInHanded_of_cond (C := Tryz.checked) (s := Rows.OpenSpec.upto Rows.builtErasedSpec) (k := Rows.uptoSmall) rfl builtErased_own started (by kernel_rfl) Tryz.func6
    (OpenSpec.witness (enc := enc) (C := Tryz.checked) (s := Rows.OpenSpec.upto Rows.builtErasedSpec) (k := Rows.uptoSmall) rfl false ⟨#[], #[.string ⟨#[]⟩, .agg #[.int .i64 0, .int .i64 0, .string ⟨#[]⟩, .slice none 0 0], .agg #[.int .i64 0, .int .i64 0, .string ⟨#[]⟩, .slice none 0 0]], []⟩ 8 (by kernel_rfl) (by kernel_rfl) (by kernel_rfl)
      (x := ([.lit (.string []), .agg [.lit (.int .i64 0), .lit (.int .i64 0), .lit (.string []), .nil], .agg [.lit (.int .i64 0), .lit (.int .i64 0), .lit (.string []), .nil]], [], [])) (by kernel_rfl) rfl (by kernel_rfl)) ?_
  intro W base args ds gs before hval0 hW _ hk _
  have hval : ∀ (j : Nat) t v, Tryz.f6.params[j]? = some t → args[j]? = some v → Value.okWide Tryz.prog W .any base t v := hval0
  have hW' := hW
  obtain ⟨p, q, hA0, hV, rfl, hfz, hnd⟩ := hW
  have hA : DataW.TrodAll enc Tryz.prog W 0 (fun _ => true) true Tryz.f6.params.toList args.toList ds p := hA0
  rw [Tryz.params6] at hA hval
  obtain ⟨v0, vs0, d0, ds0, p0, q0, hargs, rfl, rfl, h0, r0⟩ := trodAll_cons hA
  obtain ⟨v1, vs1, d1, ds1, p1, q1, rfl, rfl, rfl, h1, r1⟩ := trodAll_cons r0
  obtain ⟨v2, vs2, d2, ds2, p2, q2, rfl, rfl, rfl, h2, r2⟩ := trodAll_cons r1
  obtain ⟨rfl, rfl, rfl⟩ := trodAll_nil r2
  obtain rfl : args = #[v0, v1, v2] := by cases args; simp_all
  have hkb : Rows.uptoBulkAll (([d0, d1, d2] : List (DataW H)) ++ gs) ≤ 1048576 := of_decide_eq_true hk
  have hk0 : Rows.uptoBulk d0 ≤ 1048576 := Nat.le_trans (bulk_part (by simp)) hkb
  have hk1 : Rows.uptoBulk d1 ≤ 1048576 := Nat.le_trans (bulk_part (by simp)) hkb
  have hk2 : Rows.uptoBulk d2 ≤ 1048576 := Nat.le_trans (bulk_part (by simp)) hkb
  obtain ⟨rfl, rfl⟩ := trodVars_none hV
  obtain ⟨a0, rfl, rfl, rfl, w0⟩ := open_string Tryz.underlying9 (hval 0 9 v0 rfl rfl) h0
  have hlt1 : ∀ x ∈ p1, x.block < W.heap.size := trod_places h1
  obtain ⟨a1, b1, s1⟩ := open_term (hval 1 25 v1 rfl rfl) h1 hk1
  have hlt2 : ∀ x ∈ p2, x.block < W.heap.size := trod_places h2
  obtain ⟨a2, b2, s2⟩ := open_term (hval 2 25 v2 rfl rfl) h2 hk2
  clear hA0 hval0
  simp only [List.append_nil] at hW'
  have z0 : a0.size ≤ 1048576 := by exact bulk_string (H := H) a0 hk0
  refine (law_BuiltErased a0 z0 a1 a2 v1 v2 W b1 s1 b2 s2).mono fun e W' ⟨he, hg⟩ => ?_
  subst he
  exact ⟨_, rfl, _, _, _, _, _, _, hW', trodAll_mk1 (shut_bool Tryz.underlying4 _), (trodAll_cons_mk (shut_string Tryz.underlying9 w0) (trodAll_cons_mk (Below.trod Tryz.laidOut Tryz.termRec Tryz.termRow h1 hg.below hlt1) (trodAll_cons_mk (Below.trod Tryz.laidOut Tryz.termRec Tryz.termRow h2 hg.below hlt2) trodAll_mk0))), rfl, hg.below.frame _, fun h => by cases h⟩

theorem builtErased_holds : Rows.BuiltErasedUptoSaid :=
  OpenClaim.holds_of_cond 6 Tryz.f6 rfl rfl rfl rfl rfl rfl rfl ⟨rfl, rfl, rfl, rfl, rfl⟩ rfl rfl rfl rfl rfl (by kernel_rfl) Tryz.func6 (by kernel_rfl)
    (of_decide_eq_true (by kernel_rfl)) (by unfold Func.isWrapper; first | (rw [if_pos (by decide +kernel)]; kernel_rfl) | (rw [if_neg (by decide +kernel)]; exact ⟨rfl, rfl⟩))
    (fun os started H enc _ F => builtErased_lifted os started H enc F)
end Go.Proofs.YtkiofaojokofbaaGreat
