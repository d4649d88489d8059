/-
  No cell of these rows narrows 'for every input' (looked for: loops, veiled, ifaces, maps, wideKeys, modest, calm, conditions, laid).
  DERIVED. THE GIVEN ROWS OF THIS SEAT. 6 by the template 'for every input the law returns true; each argument reads behind the call as it read before'; 0 by the template 'total and deterministic' (their statements: YtckpegkpdepokaaTotals.lean).
  GIVEN WITH THE SEED: the statements are not yours to turn. If you find one false, say at which input.
  Laid BY PROGRAM, IN A SANDBOX (cutbox-rows.mjs): the forced cells as the released guide's own fill.sh prints them over the translation add66a1c9709567f… (all of the seat's roots in one cut). By AI agents, Wed Nov 11 2026. No macro, syntax, notation, axiom, sorry.
-/
import Derived.Test.YtckpegkpdepokaaChecked
import GoSem.Claim
import GoSem.ClaimJoined
import GoSem.ClaimMapViews
import Derived.JoinedTies
import Derived.KernelRfl
namespace Go.Proofs.Ytckpegkpdepokaa
/- THE CELL 'sum', in the pinned program and in every row, IS THE sha256 OF THE DUMP (.gsa) THAT YtckpegkpdepokaaProg.lean LOADS. Nothing in Lean hashes anything: it is a label: what it is worth is what the hold of that sum in a sandbox is worth. -/
noncomputable def Try.pinned : Pinned := { name := "ytckpegkpdepokaa", sum := "add66a1c9709567f64912bc212a349dcac573c0e0b7c5ddf7abe66834ce20c8f", checked := Try.checked }
namespace Rows
def none {H : Type} : Left H := { results := [], args := [] }

/-- 'pantrylaw7.FsRoom': WHATEVER THE INPUT: true; the input reads as it did. -/
def fsRoomSpec : ChangeSpec := { name := "fsRoom", fn := fun _ => fun
  | [d1, d2] => { results := [.lit (.bool true)], args := [d1, d2] }
  | _ => none }
def fsRoomRow : OpenClaim := { program := "ytckpegkpdepokaa", sum := "add66a1c9709567f64912bc212a349dcac573c0e0b7c5ddf7abe66834ce20c8f", func := "pantry/pantrylaw7.FsRoom", spec := "fsRoom", inPlace := ["sync/atomic.LoadInt32", "sync/atomic.AddInt32"], unfollowed := true, recurses := true, apart := false }
def FsRoomSaid : Prop := fsRoomRow.holds Try.pinned (OpenSpec.ofChange fsRoomSpec)

/-- ITS FALSE NEIGHBOUR: 'it returns false'. Refute it at one input. -/
def fsRoomWrong : ChangeSpec := { name := "fsRoom", fn := fun _ => fun
  | [d1, d2] => { results := [.lit (.bool false)], args := [d1, d2] }
  | _ => none }
def FsRoomWrongFalsely : Prop := fsRoomRow.holds Try.pinned (OpenSpec.ofChange fsRoomWrong)

/-- 'pantrylaw7.FsLinks': WHATEVER THE INPUT: true; the input reads as it did. -/
def fsLinksSpec : ChangeSpec := { name := "fsLinks", fn := fun _ => fun
  | [d1, d2, d3] => { results := [.lit (.bool true)], args := [d1, d2, d3] }
  | _ => none }
def fsLinksRow : OpenClaim := { program := "ytckpegkpdepokaa", sum := "add66a1c9709567f64912bc212a349dcac573c0e0b7c5ddf7abe66834ce20c8f", func := "pantry/pantrylaw7.FsLinks", spec := "fsLinks", inPlace := ["sync/atomic.LoadInt32", "sync/atomic.AddInt32"], unfollowed := true, recurses := true, apart := false }
def FsLinksSaid : Prop := fsLinksRow.holds Try.pinned (OpenSpec.ofChange fsLinksSpec)

/-- ITS FALSE NEIGHBOUR: 'it returns false'. Refute it at one input. -/
def fsLinksWrong : ChangeSpec := { name := "fsLinks", fn := fun _ => fun
  | [d1, d2, d3] => { results := [.lit (.bool false)], args := [d1, d2, d3] }
  | _ => none }
def FsLinksWrongFalsely : Prop := fsLinksRow.holds Try.pinned (OpenSpec.ofChange fsLinksWrong)

/-- 'pantrylaw7.FsFuses': WHATEVER THE INPUT: true; the input reads as it did. -/
def fsFusesSpec : ChangeSpec := { name := "fsFuses", fn := fun _ => fun
  | [d1, d2] => { results := [.lit (.bool true)], args := [d1, d2] }
  | _ => none }
def fsFusesRow : OpenClaim := { program := "ytckpegkpdepokaa", sum := "add66a1c9709567f64912bc212a349dcac573c0e0b7c5ddf7abe66834ce20c8f", func := "pantry/pantrylaw7.FsFuses", spec := "fsFuses", inPlace := ["sync/atomic.LoadInt32", "sync/atomic.AddInt32"], unfollowed := true, recurses := true, apart := false }
def FsFusesSaid : Prop := fsFusesRow.holds Try.pinned (OpenSpec.ofChange fsFusesSpec)

/-- ITS FALSE NEIGHBOUR: 'it returns false'. Refute it at one input. -/
def fsFusesWrong : ChangeSpec := { name := "fsFuses", fn := fun _ => fun
  | [d1, d2] => { results := [.lit (.bool false)], args := [d1, d2] }
  | _ => none }
def FsFusesWrongFalsely : Prop := fsFusesRow.holds Try.pinned (OpenSpec.ofChange fsFusesWrong)

/-- 'pantrylaw7.FsKeeps': WHATEVER THE INPUT: true; the input reads as it did. -/
def fsKeepsSpec : ChangeSpec := { name := "fsKeeps", fn := fun _ => fun
  | [d1, d2, d3] => { results := [.lit (.bool true)], args := [d1, d2, d3] }
  | _ => none }
def fsKeepsRow : OpenClaim := { program := "ytckpegkpdepokaa", sum := "add66a1c9709567f64912bc212a349dcac573c0e0b7c5ddf7abe66834ce20c8f", func := "pantry/pantrylaw7.FsKeeps", spec := "fsKeeps", inPlace := ["sync/atomic.LoadInt32", "sync/atomic.AddInt32"], unfollowed := true, recurses := true, apart := false }
def FsKeepsSaid : Prop := fsKeepsRow.holds Try.pinned (OpenSpec.ofChange fsKeepsSpec)

/-- ITS FALSE NEIGHBOUR: 'it returns false'. Refute it at one input. -/
def fsKeepsWrong : ChangeSpec := { name := "fsKeeps", fn := fun _ => fun
  | [d1, d2, d3] => { results := [.lit (.bool false)], args := [d1, d2, d3] }
  | _ => none }
def FsKeepsWrongFalsely : Prop := fsKeepsRow.holds Try.pinned (OpenSpec.ofChange fsKeepsWrong)

/-- 'pantrylaw7.FsFirst': WHATEVER THE INPUT: true; the input reads as it did. -/
def fsFirstSpec : ChangeSpec := { name := "fsFirst", fn := fun _ => fun
  | [d1, d2] => { results := [.lit (.bool true)], args := [d1, d2] }
  | _ => none }
def fsFirstRow : OpenClaim := { program := "ytckpegkpdepokaa", sum := "add66a1c9709567f64912bc212a349dcac573c0e0b7c5ddf7abe66834ce20c8f", func := "pantry/pantrylaw7.FsFirst", spec := "fsFirst", inPlace := ["sync/atomic.LoadInt32", "sync/atomic.AddInt32"], unfollowed := true, recurses := true, apart := false }
def FsFirstSaid : Prop := fsFirstRow.holds Try.pinned (OpenSpec.ofChange fsFirstSpec)

/-- ITS FALSE NEIGHBOUR: 'it returns false'. Refute it at one input. -/
def fsFirstWrong : ChangeSpec := { name := "fsFirst", fn := fun _ => fun
  | [d1, d2] => { results := [.lit (.bool false)], args := [d1, d2] }
  | _ => none }
def FsFirstWrongFalsely : Prop := fsFirstRow.holds Try.pinned (OpenSpec.ofChange fsFirstWrong)

/-- 'pantrylaw7.FsOfNothing': WHATEVER THE INPUT: true; the input reads as it did. -/
def fsOfNothingSpec : ChangeSpec := { name := "fsOfNothing", fn := fun _ => fun
  | [d1, d2, d3] => { results := [.lit (.bool true)], args := [d1, d2, d3] }
  | _ => none }
def fsOfNothingRow : OpenClaim := { program := "ytckpegkpdepokaa", sum := "add66a1c9709567f64912bc212a349dcac573c0e0b7c5ddf7abe66834ce20c8f", func := "pantry/pantrylaw7.FsOfNothing", spec := "fsOfNothing", inPlace := ["sync/atomic.AddInt32", "sync/atomic.LoadInt32"], unfollowed := true, recurses := true, apart := false }
def FsOfNothingSaid : Prop := fsOfNothingRow.holds Try.pinned (OpenSpec.ofChange fsOfNothingSpec)

/-- ITS FALSE NEIGHBOUR: 'it returns false'. Refute it at one input. -/
def fsOfNothingWrong : ChangeSpec := { name := "fsOfNothing", fn := fun _ => fun
  | [d1, d2, d3] => { results := [.lit (.bool false)], args := [d1, d2, d3] }
  | _ => none }
def FsOfNothingWrongFalsely : Prop := fsOfNothingRow.holds Try.pinned (OpenSpec.ofChange fsOfNothingWrong)

/- THE SECOND FORM. 'bulk': how many values and letters a reading holds, each counted each time it is reached (what is shared counts as often as it is met; a slice's spare places count too). A statement '..UptoSaid' is the law's where the arguments, and the package variables that the reading takes, are together of bulk at most 1048576: NARROWER than '..Said'. Prove '..Said' where nothing that the law and all that it calls make is longer than what came in: it says more and counts as full. Else prove '..UptoSaid'. A law counts once. -/
mutual
def uptoBulk {H : Type} : DataW H → Nat
  | .lit (.string bytes) => bytes.length + 1
  | .lit _ => 1
  | .nil => 1
  | .ptr d => uptoBulk d + 1
  | .slice elems spare => uptoBulkAll elems + uptoBulkAll spare + 1
  | .agg parts => uptoBulkAll parts + 1
  | .iface _ d => uptoBulk d + 1
  | .map entries => uptoBulkEntries entries + 1
  | .held _ => 1
def uptoBulkAll {H : Type} : List (DataW H) → Nat
  | [] => 0
  | d :: r => uptoBulk d + uptoBulkAll r
def uptoBulkEntries {H : Type} : List (Lit × DataW H) → Nat
  | [] => 0
  | x :: r => uptoBulkEntry x + uptoBulkEntries r
def uptoBulkEntry {H : Type} : Lit × DataW H → Nat
  | (.string bytes, d) => bytes.length + uptoBulk d + 1
  | (_, d) => uptoBulk d + 1
 end
def uptoSmall : (H : Type) → List (DataW H) → Bool := fun _ ds => decide (uptoBulkAll ds ≤ 1048576)
def OpenSpec.upto (s : _root_.Go.ChangeSpec) : _root_.Go.OpenSpec := { _root_.Go.OpenSpec.ofChange s with cond := some uptoSmall }

/-- 'pantrylaw7.FsRoom', WHERE WHAT IT READS IS OF BULK AT MOST 1048576: true; the input reads as it did. -/
def fsRoomUptoRow : OpenClaim := { program := "ytckpegkpdepokaa", sum := "add66a1c9709567f64912bc212a349dcac573c0e0b7c5ddf7abe66834ce20c8f", func := "pantry/pantrylaw7.FsRoom", spec := "fsRoom", inPlace := ["sync/atomic.LoadInt32", "sync/atomic.AddInt32"], unfollowed := true, recurses := true, apart := false, narrowed := true }
def FsRoomUptoSaid : Prop := fsRoomUptoRow.holds Try.pinned (OpenSpec.upto fsRoomSpec)

/-- 'pantrylaw7.FsLinks', WHERE WHAT IT READS IS OF BULK AT MOST 1048576: true; the input reads as it did. -/
def fsLinksUptoRow : OpenClaim := { program := "ytckpegkpdepokaa", sum := "add66a1c9709567f64912bc212a349dcac573c0e0b7c5ddf7abe66834ce20c8f", func := "pantry/pantrylaw7.FsLinks", spec := "fsLinks", inPlace := ["sync/atomic.LoadInt32", "sync/atomic.AddInt32"], unfollowed := true, recurses := true, apart := false, narrowed := true }
def FsLinksUptoSaid : Prop := fsLinksUptoRow.holds Try.pinned (OpenSpec.upto fsLinksSpec)

/-- 'pantrylaw7.FsFuses', WHERE WHAT IT READS IS OF BULK AT MOST 1048576: true; the input reads as it did. -/
def fsFusesUptoRow : OpenClaim := { program := "ytckpegkpdepokaa", sum := "add66a1c9709567f64912bc212a349dcac573c0e0b7c5ddf7abe66834ce20c8f", func := "pantry/pantrylaw7.FsFuses", spec := "fsFuses", inPlace := ["sync/atomic.LoadInt32", "sync/atomic.AddInt32"], unfollowed := true, recurses := true, apart := false, narrowed := true }
def FsFusesUptoSaid : Prop := fsFusesUptoRow.holds Try.pinned (OpenSpec.upto fsFusesSpec)

/-- 'pantrylaw7.FsKeeps', WHERE WHAT IT READS IS OF BULK AT MOST 1048576: true; the input reads as it did. -/
def fsKeepsUptoRow : OpenClaim := { program := "ytckpegkpdepokaa", sum := "add66a1c9709567f64912bc212a349dcac573c0e0b7c5ddf7abe66834ce20c8f", func := "pantry/pantrylaw7.FsKeeps", spec := "fsKeeps", inPlace := ["sync/atomic.LoadInt32", "sync/atomic.AddInt32"], unfollowed := true, recurses := true, apart := false, narrowed := true }
def FsKeepsUptoSaid : Prop := fsKeepsUptoRow.holds Try.pinned (OpenSpec.upto fsKeepsSpec)

/-- 'pantrylaw7.FsFirst', WHERE WHAT IT READS IS OF BULK AT MOST 1048576: true; the input reads as it did. -/
def fsFirstUptoRow : OpenClaim := { program := "ytckpegkpdepokaa", sum := "add66a1c9709567f64912bc212a349dcac573c0e0b7c5ddf7abe66834ce20c8f", func := "pantry/pantrylaw7.FsFirst", spec := "fsFirst", inPlace := ["sync/atomic.LoadInt32", "sync/atomic.AddInt32"], unfollowed := true, recurses := true, apart := false, narrowed := true }
def FsFirstUptoSaid : Prop := fsFirstUptoRow.holds Try.pinned (OpenSpec.upto fsFirstSpec)

/-- 'pantrylaw7.FsOfNothing', WHERE WHAT IT READS IS OF BULK AT MOST 1048576: true; the input reads as it did. -/
def fsOfNothingUptoRow : OpenClaim := { program := "ytckpegkpdepokaa", sum := "add66a1c9709567f64912bc212a349dcac573c0e0b7c5ddf7abe66834ce20c8f", func := "pantry/pantrylaw7.FsOfNothing", spec := "fsOfNothing", inPlace := ["sync/atomic.AddInt32", "sync/atomic.LoadInt32"], unfollowed := true, recurses := true, apart := false, narrowed := true }
def FsOfNothingUptoSaid : Prop := fsOfNothingUptoRow.holds Try.pinned (OpenSpec.upto fsOfNothingSpec)

end Rows
end Go.Proofs.Ytckpegkpdepokaa
