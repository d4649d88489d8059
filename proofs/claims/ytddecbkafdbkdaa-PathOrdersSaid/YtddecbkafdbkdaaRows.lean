/-
  No cell of these rows narrows 'for every input' (looked for: loops, veiled, ifaces, maps, wideKeys, modest, calm, conditions, laid).
  DERIVED. THE GIVEN ROWS OF THIS SEAT. 5 by the template 'for every input the law returns true; each argument reads behind the call as it read before'; 0 by the template 'total and deterministic' (their statements: YtddecbkafdbkdaaTotals.lean).
  GIVEN WITH THE SEED: the statements are not yours to turn. If you find one false, say at which input.
  Laid BY PROGRAM, IN A SANDBOX (cutbox-rows.mjs): the forced cells as the released guide's own fill.sh prints them over the translation 78ba5495a184f296… (all of the seat's roots in one cut). By AI agents, Wed Nov 11 2026. No macro, syntax, notation, axiom, sorry.
-/
import Derived.Test.YtddecbkafdbkdaaChecked
import GoSem.Claim
import GoSem.ClaimJoined
import GoSem.ClaimMapViews
import Derived.JoinedTies
import Derived.KernelRfl
namespace Go.Proofs.Ytddecbkafdbkdaa
/- THE CELL 'sum', in the pinned program and in every row, IS THE sha256 OF THE DUMP (.gsa) THAT YtddecbkafdbkdaaProg.lean LOADS. Nothing in Lean hashes anything: it is a label: what it is worth is what the hold of that sum in a sandbox is worth. -/
noncomputable def Try.pinned : Pinned := { name := "ytddecbkafdbkdaa", sum := "78ba5495a184f296baec97717841364dbdb2417b5ab8e62960886061f0b405fa", checked := Try.checked }
namespace Rows
def none {H : Type} : Left H := { results := [], args := [] }

/-- 'pantrylaw3.PathNames': WHATEVER THE INPUT: true; the input reads as it did. -/
def pathNamesSpec : ChangeSpec := { name := "pathNames", fn := fun _ => fun
  | [d] => { results := [.lit (.bool true)], args := [d] }
  | _ => none }
def pathNamesRow : OpenClaim := { program := "ytddecbkafdbkdaa", sum := "78ba5495a184f296baec97717841364dbdb2417b5ab8e62960886061f0b405fa", func := "pantry/pantrylaw3.PathNames", spec := "pathNames", apart := false }
def PathNamesSaid : Prop := pathNamesRow.holds Try.pinned (OpenSpec.ofChange pathNamesSpec)

/-- ITS FALSE NEIGHBOUR: 'it returns false'. Refute it at one input. -/
def pathNamesWrong : ChangeSpec := { name := "pathNames", fn := fun _ => fun
  | [d] => { results := [.lit (.bool false)], args := [d] }
  | _ => none }
def PathNamesWrongFalsely : Prop := pathNamesRow.holds Try.pinned (OpenSpec.ofChange pathNamesWrong)

/-- 'pantrylaw3.PathMakes': WHATEVER THE INPUT: true; the input reads as it did. -/
def pathMakesSpec : ChangeSpec := { name := "pathMakes", fn := fun _ => fun
  | [d1, d2, d3] => { results := [.lit (.bool true)], args := [d1, d2, d3] }
  | _ => none }
def pathMakesRow : OpenClaim := { program := "ytddecbkafdbkdaa", sum := "78ba5495a184f296baec97717841364dbdb2417b5ab8e62960886061f0b405fa", func := "pantry/pantrylaw3.PathMakes", spec := "pathMakes", inPlace := ["internal/bytealg.IndexByteString"], apart := false }
def PathMakesSaid : Prop := pathMakesRow.holds Try.pinned (OpenSpec.ofChange pathMakesSpec)

/-- ITS FALSE NEIGHBOUR: 'it returns false'. Refute it at one input. -/
def pathMakesWrong : ChangeSpec := { name := "pathMakes", fn := fun _ => fun
  | [d1, d2, d3] => { results := [.lit (.bool false)], args := [d1, d2, d3] }
  | _ => none }
def PathMakesWrongFalsely : Prop := pathMakesRow.holds Try.pinned (OpenSpec.ofChange pathMakesWrong)

/-- 'pantrylaw3.PathSplits': WHATEVER THE INPUT: true; the input reads as it did. -/
def pathSplitsSpec : ChangeSpec := { name := "pathSplits", fn := fun _ => fun
  | [d] => { results := [.lit (.bool true)], args := [d] }
  | _ => none }
def pathSplitsRow : OpenClaim := { program := "ytddecbkafdbkdaa", sum := "78ba5495a184f296baec97717841364dbdb2417b5ab8e62960886061f0b405fa", func := "pantry/pantrylaw3.PathSplits", spec := "pathSplits", inPlace := ["internal/bytealg.IndexByteString"], apart := false }
def PathSplitsSaid : Prop := pathSplitsRow.holds Try.pinned (OpenSpec.ofChange pathSplitsSpec)

/-- ITS FALSE NEIGHBOUR: 'it returns false'. Refute it at one input. -/
def pathSplitsWrong : ChangeSpec := { name := "pathSplits", fn := fun _ => fun
  | [d] => { results := [.lit (.bool false)], args := [d] }
  | _ => none }
def PathSplitsWrongFalsely : Prop := pathSplitsRow.holds Try.pinned (OpenSpec.ofChange pathSplitsWrong)

/-- 'pantrylaw3.PathOrders': WHATEVER THE INPUT: true; the input reads as it did. -/
def pathOrdersSpec : ChangeSpec := { name := "pathOrders", fn := fun _ => fun
  | [d1, d2, d3, d4] => { results := [.lit (.bool true)], args := [d1, d2, d3, d4] }
  | _ => none }
def pathOrdersRow : OpenClaim := { program := "ytddecbkafdbkdaa", sum := "78ba5495a184f296baec97717841364dbdb2417b5ab8e62960886061f0b405fa", func := "pantry/pantrylaw3.PathOrders", spec := "pathOrders", inPlace := ["internal/bytealg.IndexByteString", "internal/abi.NoEscape"], unfollowed := true, recurses := true, apart := false }
def PathOrdersSaid : Prop := pathOrdersRow.holds Try.pinned (OpenSpec.ofChange pathOrdersSpec)

/-- ITS FALSE NEIGHBOUR: 'it returns false'. Refute it at one input. -/
def pathOrdersWrong : ChangeSpec := { name := "pathOrders", fn := fun _ => fun
  | [d1, d2, d3, d4] => { results := [.lit (.bool false)], args := [d1, d2, d3, d4] }
  | _ => none }
def PathOrdersWrongFalsely : Prop := pathOrdersRow.holds Try.pinned (OpenSpec.ofChange pathOrdersWrong)

/-- 'pantrylaw3.PathSources': WHATEVER THE INPUT: true; the input reads as it did. -/
def pathSourcesSpec : ChangeSpec := { name := "pathSources", fn := fun _ => fun
  | [d1, d2, d3, d4] => { results := [.lit (.bool true)], args := [d1, d2, d3, d4] }
  | _ => none }
def pathSourcesRow : OpenClaim := { program := "ytddecbkafdbkdaa", sum := "78ba5495a184f296baec97717841364dbdb2417b5ab8e62960886061f0b405fa", func := "pantry/pantrylaw3.PathSources", spec := "pathSources", inPlace := ["internal/bytealg.IndexByteString", "internal/abi.NoEscape"], unfollowed := true, recurses := true, apart := false }
def PathSourcesSaid : Prop := pathSourcesRow.holds Try.pinned (OpenSpec.ofChange pathSourcesSpec)

/-- ITS FALSE NEIGHBOUR: 'it returns false'. Refute it at one input. -/
def pathSourcesWrong : ChangeSpec := { name := "pathSources", fn := fun _ => fun
  | [d1, d2, d3, d4] => { results := [.lit (.bool false)], args := [d1, d2, d3, d4] }
  | _ => none }
def PathSourcesWrongFalsely : Prop := pathSourcesRow.holds Try.pinned (OpenSpec.ofChange pathSourcesWrong)

/- THE SECOND FORM. 'bulk': how many values and letters a reading holds, each counted each time it is reached (what is shared counts as often as it is met; a slice's spare places count too). A statement '..UptoSaid' is the law's where the arguments, and the package variables that the reading takes, are together of bulk at most 1048576: NARROWER than '..Said'. Prove '..Said' where nothing that the law and all that it calls make is longer than what came in: it says more and counts as full. Else prove '..UptoSaid'. A law counts once. -/
mutual
def uptoBulk {H : Type} : DataW H → Nat
  | .lit (.string bytes) => bytes.length + 1
  | .lit _ => 1
  | .nil => 1
  | .ptr d => uptoBulk d + 1
  | .slice elems spare => uptoBulkAll elems + uptoBulkAll spare + 1
  | .agg parts => uptoBulkAll parts + 1
  | .iface _ d => uptoBulk d + 1
  | .map entries => uptoBulkEntries entries + 1
  | .held _ => 1
def uptoBulkAll {H : Type} : List (DataW H) → Nat
  | [] => 0
  | d :: r => uptoBulk d + uptoBulkAll r
def uptoBulkEntries {H : Type} : List (Lit × DataW H) → Nat
  | [] => 0
  | x :: r => uptoBulkEntry x + uptoBulkEntries r
def uptoBulkEntry {H : Type} : Lit × DataW H → Nat
  | (.string bytes, d) => bytes.length + uptoBulk d + 1
  | (_, d) => uptoBulk d + 1
 end
def uptoSmall : (H : Type) → List (DataW H) → Bool := fun _ ds => decide (uptoBulkAll ds ≤ 1048576)
def OpenSpec.upto (s : _root_.Go.ChangeSpec) : _root_.Go.OpenSpec := { _root_.Go.OpenSpec.ofChange s with cond := some uptoSmall }

/-- 'pantrylaw3.PathNames', WHERE WHAT IT READS IS OF BULK AT MOST 1048576: true; the input reads as it did. -/
def pathNamesUptoRow : OpenClaim := { program := "ytddecbkafdbkdaa", sum := "78ba5495a184f296baec97717841364dbdb2417b5ab8e62960886061f0b405fa", func := "pantry/pantrylaw3.PathNames", spec := "pathNames", apart := false, narrowed := true }
def PathNamesUptoSaid : Prop := pathNamesUptoRow.holds Try.pinned (OpenSpec.upto pathNamesSpec)

/-- 'pantrylaw3.PathMakes', WHERE WHAT IT READS IS OF BULK AT MOST 1048576: true; the input reads as it did. -/
def pathMakesUptoRow : OpenClaim := { program := "ytddecbkafdbkdaa", sum := "78ba5495a184f296baec97717841364dbdb2417b5ab8e62960886061f0b405fa", func := "pantry/pantrylaw3.PathMakes", spec := "pathMakes", inPlace := ["internal/bytealg.IndexByteString"], apart := false, narrowed := true }
def PathMakesUptoSaid : Prop := pathMakesUptoRow.holds Try.pinned (OpenSpec.upto pathMakesSpec)

/-- 'pantrylaw3.PathSplits', WHERE WHAT IT READS IS OF BULK AT MOST 1048576: true; the input reads as it did. -/
def pathSplitsUptoRow : OpenClaim := { program := "ytddecbkafdbkdaa", sum := "78ba5495a184f296baec97717841364dbdb2417b5ab8e62960886061f0b405fa", func := "pantry/pantrylaw3.PathSplits", spec := "pathSplits", inPlace := ["internal/bytealg.IndexByteString"], apart := false, narrowed := true }
def PathSplitsUptoSaid : Prop := pathSplitsUptoRow.holds Try.pinned (OpenSpec.upto pathSplitsSpec)

/-- 'pantrylaw3.PathOrders', WHERE WHAT IT READS IS OF BULK AT MOST 1048576: true; the input reads as it did. -/
def pathOrdersUptoRow : OpenClaim := { program := "ytddecbkafdbkdaa", sum := "78ba5495a184f296baec97717841364dbdb2417b5ab8e62960886061f0b405fa", func := "pantry/pantrylaw3.PathOrders", spec := "pathOrders", inPlace := ["internal/bytealg.IndexByteString", "internal/abi.NoEscape"], unfollowed := true, recurses := true, apart := false, narrowed := true }
def PathOrdersUptoSaid : Prop := pathOrdersUptoRow.holds Try.pinned (OpenSpec.upto pathOrdersSpec)

/-- 'pantrylaw3.PathSources', WHERE WHAT IT READS IS OF BULK AT MOST 1048576: true; the input reads as it did. -/
def pathSourcesUptoRow : OpenClaim := { program := "ytddecbkafdbkdaa", sum := "78ba5495a184f296baec97717841364dbdb2417b5ab8e62960886061f0b405fa", func := "pantry/pantrylaw3.PathSources", spec := "pathSources", inPlace := ["internal/bytealg.IndexByteString", "internal/abi.NoEscape"], unfollowed := true, recurses := true, apart := false, narrowed := true }
def PathSourcesUptoSaid : Prop := pathSourcesUptoRow.holds Try.pinned (OpenSpec.upto pathSourcesSpec)

end Rows
end Go.Proofs.Ytddecbkafdbkdaa
