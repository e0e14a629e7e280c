/-
  NARROWER THAN 'FOR EVERY INPUT', by the rows' own cells (each row's printed sentence says how): BuiltPairs: loops · BuiltErased: loops · BuiltKinds: loops · BuiltCopies: loops.
  DERIVED. THE GIVEN ROWS OF THIS SEAT. 6 by the template 'for every input the law returns true; each argument reads behind the call as it read before'; 0 by the template 'total and deterministic' (their statements: YtkiofaojokofbaaGreatTotals.lean).
  GIVEN WITH THE SEED: the statements are not yours to turn. If you find one false, say at which input.
  Laid BY PROGRAM, IN A SANDBOX (cutbox-rows.mjs): the forced cells as the released guide's own fill.sh prints them over the translation f93ec44928e3e6fb… (all of the seat's roots in one cut). By AI agents, Wed Nov 11 2026. No macro, syntax, notation, axiom, sorry.
-/
import Derived.Test.YtkiofaojokofbaaGreatChecked
import GoSem.Claim
import GoSem.ClaimJoined
import GoSem.ClaimMapViews
import Derived.JoinedTies
import Derived.KernelRfl
namespace Go.Proofs.YtkiofaojokofbaaGreat
/- THE CELL 'sum', in the pinned program and in every row, IS THE sha256 OF THE DUMP (.gsa) THAT YtkiofaojokofbaaGreatProg.lean LOADS. Nothing in Lean hashes anything: it is a label: what it is worth is what the hold of that sum in a sandbox is worth. -/
noncomputable def Tryz.pinned : Pinned := { name := "ytkiofaojokofbaagreat", sum := "f93ec44928e3e6fb23f1d1d232dc03e53b7c58728662e35e6cf8c1af2d4645f5", checked := Tryz.checked }
namespace Rows
def none {H : Type} : Left H := { results := [], args := [] }

/-- 'torcherelaw16.BuiltPairs': WHATEVER THE INPUT: true; the input reads as it did. -/
def builtPairsSpec : ChangeSpec := { name := "builtPairs", fn := fun _ => fun
  | [d1, d2, d3] => { results := [.lit (.bool true)], args := [d1, d2, d3] }
  | _ => none }
def builtPairsRow : OpenClaim := { program := "ytkiofaojokofbaagreat", sum := "f93ec44928e3e6fb23f1d1d232dc03e53b7c58728662e35e6cf8c1af2d4645f5", func := "torchere/torcherelaw16.BuiltPairs", spec := "builtPairs", unfollowed := true, recurses := true, loops := true, plainKeys := false, apart := false }
def BuiltPairsSaid : Prop := builtPairsRow.holds Tryz.pinned (OpenSpec.ofChange builtPairsSpec)

/-- ITS FALSE NEIGHBOUR: 'it returns false'. Refute it at one input. -/
def builtPairsWrong : ChangeSpec := { name := "builtPairs", fn := fun _ => fun
  | [d1, d2, d3] => { results := [.lit (.bool false)], args := [d1, d2, d3] }
  | _ => none }
def BuiltPairsWrongFalsely : Prop := builtPairsRow.holds Tryz.pinned (OpenSpec.ofChange builtPairsWrong)

/-- 'torcherelaw16.BuiltNumbers': WHATEVER THE INPUT: true; the input reads as it did. -/
def builtNumbersSpec : ChangeSpec := { name := "builtNumbers", fn := fun _ => fun
  | [d1, d2] => { results := [.lit (.bool true)], args := [d1, d2] }
  | _ => none }
def builtNumbersRow : OpenClaim := { program := "ytkiofaojokofbaagreat", sum := "f93ec44928e3e6fb23f1d1d232dc03e53b7c58728662e35e6cf8c1af2d4645f5", func := "torchere/torcherelaw16.BuiltNumbers", spec := "builtNumbers", unfollowed := true, recurses := true, plainKeys := false, apart := false }
def BuiltNumbersSaid : Prop := builtNumbersRow.holds Tryz.pinned (OpenSpec.ofChange builtNumbersSpec)

/-- ITS FALSE NEIGHBOUR: 'it returns false'. Refute it at one input. -/
def builtNumbersWrong : ChangeSpec := { name := "builtNumbers", fn := fun _ => fun
  | [d1, d2] => { results := [.lit (.bool false)], args := [d1, d2] }
  | _ => none }
def BuiltNumbersWrongFalsely : Prop := builtNumbersRow.holds Tryz.pinned (OpenSpec.ofChange builtNumbersWrong)

/-- 'torcherelaw16.BuiltSums': WHATEVER THE INPUT: true; the input reads as it did. -/
def builtSumsSpec : ChangeSpec := { name := "builtSums", fn := fun _ => fun
  | [d1, d2] => { results := [.lit (.bool true)], args := [d1, d2] }
  | _ => none }
def builtSumsRow : OpenClaim := { program := "ytkiofaojokofbaagreat", sum := "f93ec44928e3e6fb23f1d1d232dc03e53b7c58728662e35e6cf8c1af2d4645f5", func := "torchere/torcherelaw16.BuiltSums", spec := "builtSums", unfollowed := true, recurses := true, plainKeys := false, apart := false }
def BuiltSumsSaid : Prop := builtSumsRow.holds Tryz.pinned (OpenSpec.ofChange builtSumsSpec)

/-- ITS FALSE NEIGHBOUR: 'it returns false'. Refute it at one input. -/
def builtSumsWrong : ChangeSpec := { name := "builtSums", fn := fun _ => fun
  | [d1, d2] => { results := [.lit (.bool false)], args := [d1, d2] }
  | _ => none }
def BuiltSumsWrongFalsely : Prop := builtSumsRow.holds Tryz.pinned (OpenSpec.ofChange builtSumsWrong)

/-- 'torcherelaw16.BuiltErased': WHATEVER THE INPUT: true; the input reads as it did. -/
def builtErasedSpec : ChangeSpec := { name := "builtErased", fn := fun _ => fun
  | [d1, d2, d3] => { results := [.lit (.bool true)], args := [d1, d2, d3] }
  | _ => none }
def builtErasedRow : OpenClaim := { program := "ytkiofaojokofbaagreat", sum := "f93ec44928e3e6fb23f1d1d232dc03e53b7c58728662e35e6cf8c1af2d4645f5", func := "torchere/torcherelaw16.BuiltErased", spec := "builtErased", unfollowed := true, recurses := true, loops := true, plainKeys := false, apart := false }
def BuiltErasedSaid : Prop := builtErasedRow.holds Tryz.pinned (OpenSpec.ofChange builtErasedSpec)

/-- ITS FALSE NEIGHBOUR: 'it returns false'. Refute it at one input. -/
def builtErasedWrong : ChangeSpec := { name := "builtErased", fn := fun _ => fun
  | [d1, d2, d3] => { results := [.lit (.bool false)], args := [d1, d2, d3] }
  | _ => none }
def BuiltErasedWrongFalsely : Prop := builtErasedRow.holds Tryz.pinned (OpenSpec.ofChange builtErasedWrong)

/-- 'torcherelaw16.BuiltKinds': WHATEVER THE INPUT: true; the input reads as it did. -/
def builtKindsSpec : ChangeSpec := { name := "builtKinds", fn := fun _ => fun
  | [d1, d2] => { results := [.lit (.bool true)], args := [d1, d2] }
  | _ => none }
def builtKindsRow : OpenClaim := { program := "ytkiofaojokofbaagreat", sum := "f93ec44928e3e6fb23f1d1d232dc03e53b7c58728662e35e6cf8c1af2d4645f5", func := "torchere/torcherelaw16.BuiltKinds", spec := "builtKinds", unfollowed := true, recurses := true, loops := true, plainKeys := false, apart := false }
def BuiltKindsSaid : Prop := builtKindsRow.holds Tryz.pinned (OpenSpec.ofChange builtKindsSpec)

/-- ITS FALSE NEIGHBOUR: 'it returns false'. Refute it at one input. -/
def builtKindsWrong : ChangeSpec := { name := "builtKinds", fn := fun _ => fun
  | [d1, d2] => { results := [.lit (.bool false)], args := [d1, d2] }
  | _ => none }
def BuiltKindsWrongFalsely : Prop := builtKindsRow.holds Tryz.pinned (OpenSpec.ofChange builtKindsWrong)

/-- 'torcherelaw16.BuiltCopies': WHATEVER THE INPUT: true; the input reads as it did. -/
def builtCopiesSpec : ChangeSpec := { name := "builtCopies", fn := fun _ => fun
  | [d] => { results := [.lit (.bool true)], args := [d] }
  | _ => none }
def builtCopiesRow : OpenClaim := { program := "ytkiofaojokofbaagreat", sum := "f93ec44928e3e6fb23f1d1d232dc03e53b7c58728662e35e6cf8c1af2d4645f5", func := "torchere/torcherelaw16.BuiltCopies", spec := "builtCopies", unfollowed := true, recurses := true, loops := true, plainKeys := false, apart := false }
def BuiltCopiesSaid : Prop := builtCopiesRow.holds Tryz.pinned (OpenSpec.ofChange builtCopiesSpec)

/-- ITS FALSE NEIGHBOUR: 'it returns false'. Refute it at one input. -/
def builtCopiesWrong : ChangeSpec := { name := "builtCopies", fn := fun _ => fun
  | [d] => { results := [.lit (.bool false)], args := [d] }
  | _ => none }
def BuiltCopiesWrongFalsely : Prop := builtCopiesRow.holds Tryz.pinned (OpenSpec.ofChange builtCopiesWrong)

/- THE SECOND FORM. 'bulk': how many values and letters a reading holds, each counted each time it is reached (what is shared counts as often as it is met; a slice's spare places count too). A statement '..UptoSaid' is the law's where the arguments, and the package variables that the reading takes, are together of bulk at most 1048576: NARROWER than '..Said'. Prove '..Said' where nothing that the law and all that it calls make is longer than what came in: it says more and counts as full. Else prove '..UptoSaid'. A law counts once. -/
mutual
def uptoBulk {H : Type} : DataW H → Nat
  | .lit (.string bytes) => bytes.length + 1
  | .lit _ => 1
  | .nil => 1
  | .ptr d => uptoBulk d + 1
  | .slice elems spare => uptoBulkAll elems + uptoBulkAll spare + 1
  | .agg parts => uptoBulkAll parts + 1
  | .iface _ d => uptoBulk d + 1
  | .map entries => uptoBulkEntries entries + 1
  | .held _ => 1
def uptoBulkAll {H : Type} : List (DataW H) → Nat
  | [] => 0
  | d :: r => uptoBulk d + uptoBulkAll r
def uptoBulkEntries {H : Type} : List (Lit × DataW H) → Nat
  | [] => 0
  | x :: r => uptoBulkEntry x + uptoBulkEntries r
def uptoBulkEntry {H : Type} : Lit × DataW H → Nat
  | (.string bytes, d) => bytes.length + uptoBulk d + 1
  | (_, d) => uptoBulk d + 1
 end
def uptoSmall : (H : Type) → List (DataW H) → Bool := fun _ ds => decide (uptoBulkAll ds ≤ 1048576)
def OpenSpec.upto (s : _root_.Go.ChangeSpec) : _root_.Go.OpenSpec := { _root_.Go.OpenSpec.ofChange s with cond := some uptoSmall }

/-- 'torcherelaw16.BuiltPairs', WHERE WHAT IT READS IS OF BULK AT MOST 1048576: true; the input reads as it did. -/
def builtPairsUptoRow : OpenClaim := { program := "ytkiofaojokofbaagreat", sum := "f93ec44928e3e6fb23f1d1d232dc03e53b7c58728662e35e6cf8c1af2d4645f5", func := "torchere/torcherelaw16.BuiltPairs", spec := "builtPairs", unfollowed := true, recurses := true, loops := true, plainKeys := false, apart := false, narrowed := true }
def BuiltPairsUptoSaid : Prop := builtPairsUptoRow.holds Tryz.pinned (OpenSpec.upto builtPairsSpec)

/-- 'torcherelaw16.BuiltNumbers', WHERE WHAT IT READS IS OF BULK AT MOST 1048576: true; the input reads as it did. -/
def builtNumbersUptoRow : OpenClaim := { program := "ytkiofaojokofbaagreat", sum := "f93ec44928e3e6fb23f1d1d232dc03e53b7c58728662e35e6cf8c1af2d4645f5", func := "torchere/torcherelaw16.BuiltNumbers", spec := "builtNumbers", unfollowed := true, recurses := true, plainKeys := false, apart := false, narrowed := true }
def BuiltNumbersUptoSaid : Prop := builtNumbersUptoRow.holds Tryz.pinned (OpenSpec.upto builtNumbersSpec)

/-- 'torcherelaw16.BuiltSums', WHERE WHAT IT READS IS OF BULK AT MOST 1048576: true; the input reads as it did. -/
def builtSumsUptoRow : OpenClaim := { program := "ytkiofaojokofbaagreat", sum := "f93ec44928e3e6fb23f1d1d232dc03e53b7c58728662e35e6cf8c1af2d4645f5", func := "torchere/torcherelaw16.BuiltSums", spec := "builtSums", unfollowed := true, recurses := true, plainKeys := false, apart := false, narrowed := true }
def BuiltSumsUptoSaid : Prop := builtSumsUptoRow.holds Tryz.pinned (OpenSpec.upto builtSumsSpec)

/-- 'torcherelaw16.BuiltErased', WHERE WHAT IT READS IS OF BULK AT MOST 1048576: true; the input reads as it did. -/
def builtErasedUptoRow : OpenClaim := { program := "ytkiofaojokofbaagreat", sum := "f93ec44928e3e6fb23f1d1d232dc03e53b7c58728662e35e6cf8c1af2d4645f5", func := "torchere/torcherelaw16.BuiltErased", spec := "builtErased", unfollowed := true, recurses := true, loops := true, plainKeys := false, apart := false, narrowed := true }
def BuiltErasedUptoSaid : Prop := builtErasedUptoRow.holds Tryz.pinned (OpenSpec.upto builtErasedSpec)

/-- 'torcherelaw16.BuiltKinds', WHERE WHAT IT READS IS OF BULK AT MOST 1048576: true; the input reads as it did. -/
def builtKindsUptoRow : OpenClaim := { program := "ytkiofaojokofbaagreat", sum := "f93ec44928e3e6fb23f1d1d232dc03e53b7c58728662e35e6cf8c1af2d4645f5", func := "torchere/torcherelaw16.BuiltKinds", spec := "builtKinds", unfollowed := true, recurses := true, loops := true, plainKeys := false, apart := false, narrowed := true }
def BuiltKindsUptoSaid : Prop := builtKindsUptoRow.holds Tryz.pinned (OpenSpec.upto builtKindsSpec)

/-- 'torcherelaw16.BuiltCopies', WHERE WHAT IT READS IS OF BULK AT MOST 1048576: true; the input reads as it did. -/
def builtCopiesUptoRow : OpenClaim := { program := "ytkiofaojokofbaagreat", sum := "f93ec44928e3e6fb23f1d1d232dc03e53b7c58728662e35e6cf8c1af2d4645f5", func := "torchere/torcherelaw16.BuiltCopies", spec := "builtCopies", unfollowed := true, recurses := true, loops := true, plainKeys := false, apart := false, narrowed := true }
def BuiltCopiesUptoSaid : Prop := builtCopiesUptoRow.holds Tryz.pinned (OpenSpec.upto builtCopiesSpec)

end Rows
end Go.Proofs.YtkiofaojokofbaaGreat
