/-
  NARROWER THAN 'FOR EVERY INPUT', by the rows' own cells (each row's printed sentence says how): ArithFaults: loops · ArithErased: loops.
  DERIVED. THE GIVEN ROWS OF THIS SEAT. 6 by the template 'for every input the law returns true; each argument reads behind the call as it read before'; 0 by the template 'total and deterministic' (their statements: YtpffcfmhiebhdaaTotals.lean).
  GIVEN WITH THE SEED: the statements are not yours to turn. If you find one false, say at which input.
  Laid BY PROGRAM, IN A SANDBOX (cutbox-rows.mjs): the forced cells as the released guide's own fill.sh prints them over the translation cf78bf1331e9ccc2… (all of the seat's roots in one cut). By AI agents, Wed Nov 11 2026. No macro, syntax, notation, axiom, sorry.
-/
import Derived.Test.YtpffcfmhiebhdaaChecked
import GoSem.Claim
import GoSem.ClaimJoined
import GoSem.ClaimMapViews
import Derived.JoinedTies
import Derived.KernelRfl
namespace Go.Proofs.Ytpffcfmhiebhdaa
/- THE CELL 'sum', in the pinned program and in every row, IS THE sha256 OF THE DUMP (.gsa) THAT YtpffcfmhiebhdaaProg.lean LOADS. Nothing in Lean hashes anything: it is a label: what it is worth is what the hold of that sum in a sandbox is worth. -/
noncomputable def Try.pinned : Pinned := { name := "ytpffcfmhiebhdaa", sum := "cf78bf1331e9ccc272997052c337186b2027ac941eb0e491741dafded7188df1", checked := Try.checked }
namespace Rows
def none {H : Type} : Left H := { results := [], args := [] }

/-- 'torcherelaw12.ArithRules': WHATEVER THE INPUT: true; the input reads as it did. -/
def arithRulesSpec : ChangeSpec := { name := "arithRules", fn := fun _ => fun
  | [d1, d2] => { results := [.lit (.bool true)], args := [d1, d2] }
  | _ => none }
def arithRulesRow : OpenClaim := { program := "ytpffcfmhiebhdaa", sum := "cf78bf1331e9ccc272997052c337186b2027ac941eb0e491741dafded7188df1", func := "torchere/torcherelaw12.ArithRules", spec := "arithRules", unfollowed := true, recurses := true, apart := false }
def ArithRulesSaid : Prop := arithRulesRow.holds Try.pinned (OpenSpec.ofChange arithRulesSpec)

/-- ITS FALSE NEIGHBOUR: 'it returns false'. Refute it at one input. -/
def arithRulesWrong : ChangeSpec := { name := "arithRules", fn := fun _ => fun
  | [d1, d2] => { results := [.lit (.bool false)], args := [d1, d2] }
  | _ => none }
def ArithRulesWrongFalsely : Prop := arithRulesRow.holds Try.pinned (OpenSpec.ofChange arithRulesWrong)

/-- 'torcherelaw12.ArithEdges': WHATEVER THE INPUT: true; the input reads as it did. -/
def arithEdgesSpec : ChangeSpec := { name := "arithEdges", fn := fun _ => fun
  | [d] => { results := [.lit (.bool true)], args := [d] }
  | _ => none }
def arithEdgesRow : OpenClaim := { program := "ytpffcfmhiebhdaa", sum := "cf78bf1331e9ccc272997052c337186b2027ac941eb0e491741dafded7188df1", func := "torchere/torcherelaw12.ArithEdges", spec := "arithEdges", unfollowed := true, recurses := true, apart := false }
def ArithEdgesSaid : Prop := arithEdgesRow.holds Try.pinned (OpenSpec.ofChange arithEdgesSpec)

/-- ITS FALSE NEIGHBOUR: 'it returns false'. Refute it at one input. -/
def arithEdgesWrong : ChangeSpec := { name := "arithEdges", fn := fun _ => fun
  | [d] => { results := [.lit (.bool false)], args := [d] }
  | _ => none }
def ArithEdgesWrongFalsely : Prop := arithEdgesRow.holds Try.pinned (OpenSpec.ofChange arithEdgesWrong)

/-- 'torcherelaw12.ArithTurns': WHATEVER THE INPUT: true; the input reads as it did. -/
def arithTurnsSpec : ChangeSpec := { name := "arithTurns", fn := fun _ => fun
  | [d] => { results := [.lit (.bool true)], args := [d] }
  | _ => none }
def arithTurnsRow : OpenClaim := { program := "ytpffcfmhiebhdaa", sum := "cf78bf1331e9ccc272997052c337186b2027ac941eb0e491741dafded7188df1", func := "torchere/torcherelaw12.ArithTurns", spec := "arithTurns", unfollowed := true, recurses := true, apart := false }
def ArithTurnsSaid : Prop := arithTurnsRow.holds Try.pinned (OpenSpec.ofChange arithTurnsSpec)

/-- ITS FALSE NEIGHBOUR: 'it returns false'. Refute it at one input. -/
def arithTurnsWrong : ChangeSpec := { name := "arithTurns", fn := fun _ => fun
  | [d] => { results := [.lit (.bool false)], args := [d] }
  | _ => none }
def ArithTurnsWrongFalsely : Prop := arithTurnsRow.holds Try.pinned (OpenSpec.ofChange arithTurnsWrong)

/-- 'torcherelaw12.ArithTests': WHATEVER THE INPUT: true; the input reads as it did. -/
def arithTestsSpec : ChangeSpec := { name := "arithTests", fn := fun _ => fun
  | [d1, d2, d3] => { results := [.lit (.bool true)], args := [d1, d2, d3] }
  | _ => none }
def arithTestsRow : OpenClaim := { program := "ytpffcfmhiebhdaa", sum := "cf78bf1331e9ccc272997052c337186b2027ac941eb0e491741dafded7188df1", func := "torchere/torcherelaw12.ArithTests", spec := "arithTests", unfollowed := true, recurses := true, apart := false }
def ArithTestsSaid : Prop := arithTestsRow.holds Try.pinned (OpenSpec.ofChange arithTestsSpec)

/-- ITS FALSE NEIGHBOUR: 'it returns false'. Refute it at one input. -/
def arithTestsWrong : ChangeSpec := { name := "arithTests", fn := fun _ => fun
  | [d1, d2, d3] => { results := [.lit (.bool false)], args := [d1, d2, d3] }
  | _ => none }
def ArithTestsWrongFalsely : Prop := arithTestsRow.holds Try.pinned (OpenSpec.ofChange arithTestsWrong)

/-- 'torcherelaw12.ArithFaults': WHATEVER THE INPUT: true; the input reads as it did. -/
def arithFaultsSpec : ChangeSpec := { name := "arithFaults", fn := fun _ => fun
  | [d1, d2, d3] => { results := [.lit (.bool true)], args := [d1, d2, d3] }
  | _ => none }
def arithFaultsRow : OpenClaim := { program := "ytpffcfmhiebhdaa", sum := "cf78bf1331e9ccc272997052c337186b2027ac941eb0e491741dafded7188df1", func := "torchere/torcherelaw12.ArithFaults", spec := "arithFaults", unfollowed := true, recurses := true, loops := true, apart := false }
def ArithFaultsSaid : Prop := arithFaultsRow.holds Try.pinned (OpenSpec.ofChange arithFaultsSpec)

/-- ITS FALSE NEIGHBOUR: 'it returns false'. Refute it at one input. -/
def arithFaultsWrong : ChangeSpec := { name := "arithFaults", fn := fun _ => fun
  | [d1, d2, d3] => { results := [.lit (.bool false)], args := [d1, d2, d3] }
  | _ => none }
def ArithFaultsWrongFalsely : Prop := arithFaultsRow.holds Try.pinned (OpenSpec.ofChange arithFaultsWrong)

/-- 'torcherelaw12.ArithErased': WHATEVER THE INPUT: true; the input reads as it did. -/
def arithErasedSpec : ChangeSpec := { name := "arithErased", fn := fun _ => fun
  | [d] => { results := [.lit (.bool true)], args := [d] }
  | _ => none }
def arithErasedRow : OpenClaim := { program := "ytpffcfmhiebhdaa", sum := "cf78bf1331e9ccc272997052c337186b2027ac941eb0e491741dafded7188df1", func := "torchere/torcherelaw12.ArithErased", spec := "arithErased", unfollowed := true, recurses := true, loops := true, apart := false }
def ArithErasedSaid : Prop := arithErasedRow.holds Try.pinned (OpenSpec.ofChange arithErasedSpec)

/-- ITS FALSE NEIGHBOUR: 'it returns false'. Refute it at one input. -/
def arithErasedWrong : ChangeSpec := { name := "arithErased", fn := fun _ => fun
  | [d] => { results := [.lit (.bool false)], args := [d] }
  | _ => none }
def ArithErasedWrongFalsely : Prop := arithErasedRow.holds Try.pinned (OpenSpec.ofChange arithErasedWrong)

/- THE SECOND FORM. 'bulk': how many values and letters a reading holds, each counted each time it is reached (what is shared counts as often as it is met; a slice's spare places count too). A statement '..UptoSaid' is the law's where the arguments, and the package variables that the reading takes, are together of bulk at most 1048576: NARROWER than '..Said'. Prove '..Said' where nothing that the law and all that it calls make is longer than what came in: it says more and counts as full. Else prove '..UptoSaid'. A law counts once. -/
mutual
def uptoBulk {H : Type} : DataW H → Nat
  | .lit (.string bytes) => bytes.length + 1
  | .lit _ => 1
  | .nil => 1
  | .ptr d => uptoBulk d + 1
  | .slice elems spare => uptoBulkAll elems + uptoBulkAll spare + 1
  | .agg parts => uptoBulkAll parts + 1
  | .iface _ d => uptoBulk d + 1
  | .map entries => uptoBulkEntries entries + 1
  | .held _ => 1
def uptoBulkAll {H : Type} : List (DataW H) → Nat
  | [] => 0
  | d :: r => uptoBulk d + uptoBulkAll r
def uptoBulkEntries {H : Type} : List (Lit × DataW H) → Nat
  | [] => 0
  | x :: r => uptoBulkEntry x + uptoBulkEntries r
def uptoBulkEntry {H : Type} : Lit × DataW H → Nat
  | (.string bytes, d) => bytes.length + uptoBulk d + 1
  | (_, d) => uptoBulk d + 1
 end
def uptoSmall : (H : Type) → List (DataW H) → Bool := fun _ ds => decide (uptoBulkAll ds ≤ 1048576)
def OpenSpec.upto (s : _root_.Go.ChangeSpec) : _root_.Go.OpenSpec := { _root_.Go.OpenSpec.ofChange s with cond := some uptoSmall }

/-- 'torcherelaw12.ArithRules', WHERE WHAT IT READS IS OF BULK AT MOST 1048576: true; the input reads as it did. -/
def arithRulesUptoRow : OpenClaim := { program := "ytpffcfmhiebhdaa", sum := "cf78bf1331e9ccc272997052c337186b2027ac941eb0e491741dafded7188df1", func := "torchere/torcherelaw12.ArithRules", spec := "arithRules", unfollowed := true, recurses := true, apart := false, narrowed := true }
def ArithRulesUptoSaid : Prop := arithRulesUptoRow.holds Try.pinned (OpenSpec.upto arithRulesSpec)

/-- 'torcherelaw12.ArithEdges', WHERE WHAT IT READS IS OF BULK AT MOST 1048576: true; the input reads as it did. -/
def arithEdgesUptoRow : OpenClaim := { program := "ytpffcfmhiebhdaa", sum := "cf78bf1331e9ccc272997052c337186b2027ac941eb0e491741dafded7188df1", func := "torchere/torcherelaw12.ArithEdges", spec := "arithEdges", unfollowed := true, recurses := true, apart := false, narrowed := true }
def ArithEdgesUptoSaid : Prop := arithEdgesUptoRow.holds Try.pinned (OpenSpec.upto arithEdgesSpec)

/-- 'torcherelaw12.ArithTurns', WHERE WHAT IT READS IS OF BULK AT MOST 1048576: true; the input reads as it did. -/
def arithTurnsUptoRow : OpenClaim := { program := "ytpffcfmhiebhdaa", sum := "cf78bf1331e9ccc272997052c337186b2027ac941eb0e491741dafded7188df1", func := "torchere/torcherelaw12.ArithTurns", spec := "arithTurns", unfollowed := true, recurses := true, apart := false, narrowed := true }
def ArithTurnsUptoSaid : Prop := arithTurnsUptoRow.holds Try.pinned (OpenSpec.upto arithTurnsSpec)

/-- 'torcherelaw12.ArithTests', WHERE WHAT IT READS IS OF BULK AT MOST 1048576: true; the input reads as it did. -/
def arithTestsUptoRow : OpenClaim := { program := "ytpffcfmhiebhdaa", sum := "cf78bf1331e9ccc272997052c337186b2027ac941eb0e491741dafded7188df1", func := "torchere/torcherelaw12.ArithTests", spec := "arithTests", unfollowed := true, recurses := true, apart := false, narrowed := true }
def ArithTestsUptoSaid : Prop := arithTestsUptoRow.holds Try.pinned (OpenSpec.upto arithTestsSpec)

/-- 'torcherelaw12.ArithFaults', WHERE WHAT IT READS IS OF BULK AT MOST 1048576: true; the input reads as it did. -/
def arithFaultsUptoRow : OpenClaim := { program := "ytpffcfmhiebhdaa", sum := "cf78bf1331e9ccc272997052c337186b2027ac941eb0e491741dafded7188df1", func := "torchere/torcherelaw12.ArithFaults", spec := "arithFaults", unfollowed := true, recurses := true, loops := true, apart := false, narrowed := true }
def ArithFaultsUptoSaid : Prop := arithFaultsUptoRow.holds Try.pinned (OpenSpec.upto arithFaultsSpec)

/-- 'torcherelaw12.ArithErased', WHERE WHAT IT READS IS OF BULK AT MOST 1048576: true; the input reads as it did. -/
def arithErasedUptoRow : OpenClaim := { program := "ytpffcfmhiebhdaa", sum := "cf78bf1331e9ccc272997052c337186b2027ac941eb0e491741dafded7188df1", func := "torchere/torcherelaw12.ArithErased", spec := "arithErased", unfollowed := true, recurses := true, loops := true, apart := false, narrowed := true }
def ArithErasedUptoSaid : Prop := arithErasedUptoRow.holds Try.pinned (OpenSpec.upto arithErasedSpec)

end Rows
end Go.Proofs.Ytpffcfmhiebhdaa
