/-
  NARROWER THAN 'FOR EVERY INPUT', by the rows' own cells (each row's printed sentence says how): ScanTrees: loops · ScanRewritesTrees: loops.
  DERIVED. THE GIVEN ROWS OF THIS SEAT. 6 by the template 'for every input the law returns true; each argument reads behind the call as it read before'; 0 by the template 'total and deterministic' (their statements: YtkafaodhppikfaaTotals.lean).
  GIVEN WITH THE SEED: the statements are not yours to turn. If you find one false, say at which input.
  Laid BY PROGRAM, IN A SANDBOX (cutbox-rows.mjs): the forced cells as the released guide's own fill.sh prints them over the translation 56868bae9b691430… (all of the seat's roots in one cut). By AI agents, Wed Nov 11 2026. No macro, syntax, notation, axiom, sorry.
-/
import Derived.Test.YtkafaodhppikfaaChecked
import GoSem.Claim
import GoSem.ClaimJoined
import GoSem.ClaimMapViews
import Derived.JoinedTies
import Derived.KernelRfl
namespace Go.Proofs.Ytkafaodhppikfaa
/- THE CELL 'sum', in the pinned program and in every row, IS THE sha256 OF THE DUMP (.gsa) THAT YtkafaodhppikfaaProg.lean LOADS. Nothing in Lean hashes anything: it is a label: what it is worth is what the hold of that sum in a sandbox is worth. -/
noncomputable def Try.pinned : Pinned := { name := "ytkafaodhppikfaa", sum := "56868bae9b691430177069b7c88296929a68339e98c3c16405cc55625fe2d3ba", checked := Try.checked }
namespace Rows
def none {H : Type} : Left H := { results := [], args := [] }

/-- 'pantrylaw6.ScanFinds': WHATEVER THE INPUT: true; the input reads as it did. -/
def scanFindsSpec : ChangeSpec := { name := "scanFinds", fn := fun _ => fun
  | [d1, d2] => { results := [.lit (.bool true)], args := [d1, d2] }
  | _ => none }
def scanFindsRow : OpenClaim := { program := "ytkafaodhppikfaa", sum := "56868bae9b691430177069b7c88296929a68339e98c3c16405cc55625fe2d3ba", func := "pantry/pantrylaw6.ScanFinds", spec := "scanFinds", inPlace := ["internal/bytealg.IndexByteString"], unfollowed := true, recurses := true, plainKeys := false, apart := false }
def ScanFindsSaid : Prop := scanFindsRow.holds Try.pinned (OpenSpec.ofChange scanFindsSpec)

/-- ITS FALSE NEIGHBOUR: 'it returns false'. Refute it at one input. -/
def scanFindsWrong : ChangeSpec := { name := "scanFinds", fn := fun _ => fun
  | [d1, d2] => { results := [.lit (.bool false)], args := [d1, d2] }
  | _ => none }
def ScanFindsWrongFalsely : Prop := scanFindsRow.holds Try.pinned (OpenSpec.ofChange scanFindsWrong)

/-- 'pantrylaw6.ScanAll': WHATEVER THE INPUT: true; the input reads as it did. -/
def scanAllSpec : ChangeSpec := { name := "scanAll", fn := fun _ => fun
  | [d1, d2] => { results := [.lit (.bool true)], args := [d1, d2] }
  | _ => none }
def scanAllRow : OpenClaim := { program := "ytkafaodhppikfaa", sum := "56868bae9b691430177069b7c88296929a68339e98c3c16405cc55625fe2d3ba", func := "pantry/pantrylaw6.ScanAll", spec := "scanAll", inPlace := ["internal/bytealg.IndexByteString"], unfollowed := true, recurses := true, plainKeys := false, apart := false }
def ScanAllSaid : Prop := scanAllRow.holds Try.pinned (OpenSpec.ofChange scanAllSpec)

/-- ITS FALSE NEIGHBOUR: 'it returns false'. Refute it at one input. -/
def scanAllWrong : ChangeSpec := { name := "scanAll", fn := fun _ => fun
  | [d1, d2] => { results := [.lit (.bool false)], args := [d1, d2] }
  | _ => none }
def ScanAllWrongFalsely : Prop := scanAllRow.holds Try.pinned (OpenSpec.ofChange scanAllWrong)

/-- 'pantrylaw6.ScanParts': WHATEVER THE INPUT: true; the input reads as it did. -/
def scanPartsSpec : ChangeSpec := { name := "scanParts", fn := fun _ => fun
  | [d1, d2, d3] => { results := [.lit (.bool true)], args := [d1, d2, d3] }
  | _ => none }
def scanPartsRow : OpenClaim := { program := "ytkafaodhppikfaa", sum := "56868bae9b691430177069b7c88296929a68339e98c3c16405cc55625fe2d3ba", func := "pantry/pantrylaw6.ScanParts", spec := "scanParts", inPlace := ["internal/bytealg.IndexByteString"], unfollowed := true, recurses := true, plainKeys := false, apart := false }
def ScanPartsSaid : Prop := scanPartsRow.holds Try.pinned (OpenSpec.ofChange scanPartsSpec)

/-- ITS FALSE NEIGHBOUR: 'it returns false'. Refute it at one input. -/
def scanPartsWrong : ChangeSpec := { name := "scanParts", fn := fun _ => fun
  | [d1, d2, d3] => { results := [.lit (.bool false)], args := [d1, d2, d3] }
  | _ => none }
def ScanPartsWrongFalsely : Prop := scanPartsRow.holds Try.pinned (OpenSpec.ofChange scanPartsWrong)

/-- 'pantrylaw6.ScanRewrites': WHATEVER THE INPUT: true; the input reads as it did. -/
def scanRewritesSpec : ChangeSpec := { name := "scanRewrites", fn := fun _ => fun
  | [d1, d2, d3] => { results := [.lit (.bool true)], args := [d1, d2, d3] }
  | _ => none }
def scanRewritesRow : OpenClaim := { program := "ytkafaodhppikfaa", sum := "56868bae9b691430177069b7c88296929a68339e98c3c16405cc55625fe2d3ba", func := "pantry/pantrylaw6.ScanRewrites", spec := "scanRewrites", inPlace := ["internal/bytealg.IndexByteString"], unfollowed := true, recurses := true, plainKeys := false, apart := false }
def ScanRewritesSaid : Prop := scanRewritesRow.holds Try.pinned (OpenSpec.ofChange scanRewritesSpec)

/-- ITS FALSE NEIGHBOUR: 'it returns false'. Refute it at one input. -/
def scanRewritesWrong : ChangeSpec := { name := "scanRewrites", fn := fun _ => fun
  | [d1, d2, d3] => { results := [.lit (.bool false)], args := [d1, d2, d3] }
  | _ => none }
def ScanRewritesWrongFalsely : Prop := scanRewritesRow.holds Try.pinned (OpenSpec.ofChange scanRewritesWrong)

/-- 'pantrylaw6.ScanTrees': WHATEVER THE INPUT: true; the input reads as it did. -/
def scanTreesSpec : ChangeSpec := { name := "scanTrees", fn := fun _ => fun
  | [d1, d2] => { results := [.lit (.bool true)], args := [d1, d2] }
  | _ => none }
def scanTreesRow : OpenClaim := { program := "ytkafaodhppikfaa", sum := "56868bae9b691430177069b7c88296929a68339e98c3c16405cc55625fe2d3ba", func := "pantry/pantrylaw6.ScanTrees", spec := "scanTrees", inPlace := ["internal/bytealg.IndexByteString"], unfollowed := true, recurses := true, loops := true, plainKeys := false, apart := false }
def ScanTreesSaid : Prop := scanTreesRow.holds Try.pinned (OpenSpec.ofChange scanTreesSpec)

/-- ITS FALSE NEIGHBOUR: 'it returns false'. Refute it at one input. -/
def scanTreesWrong : ChangeSpec := { name := "scanTrees", fn := fun _ => fun
  | [d1, d2] => { results := [.lit (.bool false)], args := [d1, d2] }
  | _ => none }
def ScanTreesWrongFalsely : Prop := scanTreesRow.holds Try.pinned (OpenSpec.ofChange scanTreesWrong)

/-- 'pantrylaw6.ScanRewritesTrees': WHATEVER THE INPUT: true; the input reads as it did. -/
def scanRewritesTreesSpec : ChangeSpec := { name := "scanRewritesTrees", fn := fun _ => fun
  | [d1, d2, d3] => { results := [.lit (.bool true)], args := [d1, d2, d3] }
  | _ => none }
def scanRewritesTreesRow : OpenClaim := { program := "ytkafaodhppikfaa", sum := "56868bae9b691430177069b7c88296929a68339e98c3c16405cc55625fe2d3ba", func := "pantry/pantrylaw6.ScanRewritesTrees", spec := "scanRewritesTrees", inPlace := ["internal/bytealg.IndexByteString"], unfollowed := true, recurses := true, loops := true, plainKeys := false, apart := false }
def ScanRewritesTreesSaid : Prop := scanRewritesTreesRow.holds Try.pinned (OpenSpec.ofChange scanRewritesTreesSpec)

/-- ITS FALSE NEIGHBOUR: 'it returns false'. Refute it at one input. -/
def scanRewritesTreesWrong : ChangeSpec := { name := "scanRewritesTrees", fn := fun _ => fun
  | [d1, d2, d3] => { results := [.lit (.bool false)], args := [d1, d2, d3] }
  | _ => none }
def ScanRewritesTreesWrongFalsely : Prop := scanRewritesTreesRow.holds Try.pinned (OpenSpec.ofChange scanRewritesTreesWrong)

/- THE SECOND FORM. 'bulk': how many values and letters a reading holds, each counted each time it is reached (what is shared counts as often as it is met; a slice's spare places count too). A statement '..UptoSaid' is the law's where the arguments, and the package variables that the reading takes, are together of bulk at most 1048576: NARROWER than '..Said'. Prove '..Said' where nothing that the law and all that it calls make is longer than what came in: it says more and counts as full. Else prove '..UptoSaid'. A law counts once. -/
mutual
def uptoBulk {H : Type} : DataW H → Nat
  | .lit (.string bytes) => bytes.length + 1
  | .lit _ => 1
  | .nil => 1
  | .ptr d => uptoBulk d + 1
  | .slice elems spare => uptoBulkAll elems + uptoBulkAll spare + 1
  | .agg parts => uptoBulkAll parts + 1
  | .iface _ d => uptoBulk d + 1
  | .map entries => uptoBulkEntries entries + 1
  | .held _ => 1
def uptoBulkAll {H : Type} : List (DataW H) → Nat
  | [] => 0
  | d :: r => uptoBulk d + uptoBulkAll r
def uptoBulkEntries {H : Type} : List (Lit × DataW H) → Nat
  | [] => 0
  | x :: r => uptoBulkEntry x + uptoBulkEntries r
def uptoBulkEntry {H : Type} : Lit × DataW H → Nat
  | (.string bytes, d) => bytes.length + uptoBulk d + 1
  | (_, d) => uptoBulk d + 1
 end
def uptoSmall : (H : Type) → List (DataW H) → Bool := fun _ ds => decide (uptoBulkAll ds ≤ 1048576)
def OpenSpec.upto (s : _root_.Go.ChangeSpec) : _root_.Go.OpenSpec := { _root_.Go.OpenSpec.ofChange s with cond := some uptoSmall }

/-- 'pantrylaw6.ScanFinds', WHERE WHAT IT READS IS OF BULK AT MOST 1048576: true; the input reads as it did. -/
def scanFindsUptoRow : OpenClaim := { program := "ytkafaodhppikfaa", sum := "56868bae9b691430177069b7c88296929a68339e98c3c16405cc55625fe2d3ba", func := "pantry/pantrylaw6.ScanFinds", spec := "scanFinds", inPlace := ["internal/bytealg.IndexByteString"], unfollowed := true, recurses := true, plainKeys := false, apart := false, narrowed := true }
def ScanFindsUptoSaid : Prop := scanFindsUptoRow.holds Try.pinned (OpenSpec.upto scanFindsSpec)

/-- 'pantrylaw6.ScanAll', WHERE WHAT IT READS IS OF BULK AT MOST 1048576: true; the input reads as it did. -/
def scanAllUptoRow : OpenClaim := { program := "ytkafaodhppikfaa", sum := "56868bae9b691430177069b7c88296929a68339e98c3c16405cc55625fe2d3ba", func := "pantry/pantrylaw6.ScanAll", spec := "scanAll", inPlace := ["internal/bytealg.IndexByteString"], unfollowed := true, recurses := true, plainKeys := false, apart := false, narrowed := true }
def ScanAllUptoSaid : Prop := scanAllUptoRow.holds Try.pinned (OpenSpec.upto scanAllSpec)

/-- 'pantrylaw6.ScanParts', WHERE WHAT IT READS IS OF BULK AT MOST 1048576: true; the input reads as it did. -/
def scanPartsUptoRow : OpenClaim := { program := "ytkafaodhppikfaa", sum := "56868bae9b691430177069b7c88296929a68339e98c3c16405cc55625fe2d3ba", func := "pantry/pantrylaw6.ScanParts", spec := "scanParts", inPlace := ["internal/bytealg.IndexByteString"], unfollowed := true, recurses := true, plainKeys := false, apart := false, narrowed := true }
def ScanPartsUptoSaid : Prop := scanPartsUptoRow.holds Try.pinned (OpenSpec.upto scanPartsSpec)

/-- 'pantrylaw6.ScanRewrites', WHERE WHAT IT READS IS OF BULK AT MOST 1048576: true; the input reads as it did. -/
def scanRewritesUptoRow : OpenClaim := { program := "ytkafaodhppikfaa", sum := "56868bae9b691430177069b7c88296929a68339e98c3c16405cc55625fe2d3ba", func := "pantry/pantrylaw6.ScanRewrites", spec := "scanRewrites", inPlace := ["internal/bytealg.IndexByteString"], unfollowed := true, recurses := true, plainKeys := false, apart := false, narrowed := true }
def ScanRewritesUptoSaid : Prop := scanRewritesUptoRow.holds Try.pinned (OpenSpec.upto scanRewritesSpec)

/-- 'pantrylaw6.ScanTrees', WHERE WHAT IT READS IS OF BULK AT MOST 1048576: true; the input reads as it did. -/
def scanTreesUptoRow : OpenClaim := { program := "ytkafaodhppikfaa", sum := "56868bae9b691430177069b7c88296929a68339e98c3c16405cc55625fe2d3ba", func := "pantry/pantrylaw6.ScanTrees", spec := "scanTrees", inPlace := ["internal/bytealg.IndexByteString"], unfollowed := true, recurses := true, loops := true, plainKeys := false, apart := false, narrowed := true }
def ScanTreesUptoSaid : Prop := scanTreesUptoRow.holds Try.pinned (OpenSpec.upto scanTreesSpec)

/-- 'pantrylaw6.ScanRewritesTrees', WHERE WHAT IT READS IS OF BULK AT MOST 1048576: true; the input reads as it did. -/
def scanRewritesTreesUptoRow : OpenClaim := { program := "ytkafaodhppikfaa", sum := "56868bae9b691430177069b7c88296929a68339e98c3c16405cc55625fe2d3ba", func := "pantry/pantrylaw6.ScanRewritesTrees", spec := "scanRewritesTrees", inPlace := ["internal/bytealg.IndexByteString"], unfollowed := true, recurses := true, loops := true, plainKeys := false, apart := false, narrowed := true }
def ScanRewritesTreesUptoSaid : Prop := scanRewritesTreesUptoRow.holds Try.pinned (OpenSpec.upto scanRewritesTreesSpec)

end Rows
end Go.Proofs.Ytkafaodhppikfaa
