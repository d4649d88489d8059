/-
  No cell of these rows narrows 'for every input' (looked for: loops, veiled, ifaces, maps, wideKeys, modest, calm, conditions, laid).
  DERIVED. THE GIVEN ROWS OF THIS SEAT. 6 by the template 'for every input the law returns true; each argument reads behind the call as it read before'; 0 by the template 'total and deterministic' (their statements: YtlgfpoelhjlifaaTotals.lean).
  GIVEN WITH THE SEED: the statements are not yours to turn. If you find one false, say at which input.
  Laid BY PROGRAM, IN A SANDBOX (cutbox-rows.mjs): the forced cells as the released guide's own fill.sh prints them over the translation 7431b3c73f576df0… (all of the seat's roots in one cut). By AI agents, Wed Nov 11 2026. No macro, syntax, notation, axiom, sorry.
-/
import Derived.Test.YtlgfpoelhjlifaaChecked
import GoSem.Claim
import GoSem.ClaimJoined
import GoSem.ClaimMapViews
import Derived.JoinedTies
import Derived.KernelRfl
namespace Go.Proofs.Ytlgfpoelhjlifaa
/- THE CELL 'sum', in the pinned program and in every row, IS THE sha256 OF THE DUMP (.gsa) THAT YtlgfpoelhjlifaaProg.lean LOADS. Nothing in Lean hashes anything: it is a label: what it is worth is what the hold of that sum in a sandbox is worth. -/
noncomputable def Try.pinned : Pinned := { name := "ytlgfpoelhjlifaa", sum := "7431b3c73f576df0566d1bc8a94c9ec16dbbc1b7e454d59febfc8c57878e265e", checked := Try.checked }
namespace Rows
def none {H : Type} : Left H := { results := [], args := [] }

/-- 'pantrylaw12.LocksWithin': WHATEVER THE INPUT: true; the input reads as it did. -/
def locksWithinSpec : ChangeSpec := { name := "locksWithin", fn := fun _ => fun
  | [d] => { results := [.lit (.bool true)], args := [d] }
  | _ => none }
def locksWithinRow : OpenClaim := { program := "ytlgfpoelhjlifaa", sum := "7431b3c73f576df0566d1bc8a94c9ec16dbbc1b7e454d59febfc8c57878e265e", func := "pantry/pantrylaw12.LocksWithin", spec := "locksWithin", inPlace := ["sync/atomic.AddInt64", "sync/atomic.LoadUint32", "(*internal/sync.Mutex).Lock", "internal/race.Disable", "sync/atomic.CompareAndSwapInt32", "internal/race.Enable", "internal/race.Acquire", "(*internal/sync.Mutex).lockSlow", "internal/sync.runtime_canSpin", "internal/sync.runtime_doSpin", "internal/sync.throw", "internal/sync.runtime_nanotime", "internal/sync.runtime_SemacquireMutex", "sync/atomic.AddInt32", "(*internal/sync.Mutex).Unlock", "internal/race.ReleaseMerge", "(*internal/sync.Mutex).unlockSlow", "internal/sync.fatal", "internal/sync.runtime_Semrelease", "sync/atomic.StoreUint32", "sync/atomic.LoadInt64"], unfollowed := true, recurses := true, plainKeys := false, apart := false }
def LocksWithinSaid : Prop := locksWithinRow.holds Try.pinned (OpenSpec.ofChange locksWithinSpec)

/-- ITS FALSE NEIGHBOUR: 'it returns false'. Refute it at one input. -/
def locksWithinWrong : ChangeSpec := { name := "locksWithin", fn := fun _ => fun
  | [d] => { results := [.lit (.bool false)], args := [d] }
  | _ => none }
def LocksWithinWrongFalsely : Prop := locksWithinRow.holds Try.pinned (OpenSpec.ofChange locksWithinWrong)

/-- 'pantrylaw12.LocksRun': WHATEVER THE INPUT: true; the input reads as it did. -/
def locksRunSpec : ChangeSpec := { name := "locksRun", fn := fun _ => fun
  | [d] => { results := [.lit (.bool true)], args := [d] }
  | _ => none }
def locksRunRow : OpenClaim := { program := "ytlgfpoelhjlifaa", sum := "7431b3c73f576df0566d1bc8a94c9ec16dbbc1b7e454d59febfc8c57878e265e", func := "pantry/pantrylaw12.LocksRun", spec := "locksRun", inPlace := ["sync/atomic.AddInt64", "sync/atomic.LoadUint32", "(*internal/sync.Mutex).Lock", "internal/race.Disable", "sync/atomic.CompareAndSwapInt32", "internal/race.Enable", "internal/race.Acquire", "(*internal/sync.Mutex).lockSlow", "internal/sync.runtime_canSpin", "internal/sync.runtime_doSpin", "internal/sync.throw", "internal/sync.runtime_nanotime", "internal/sync.runtime_SemacquireMutex", "sync/atomic.AddInt32", "(*internal/sync.Mutex).Unlock", "internal/race.ReleaseMerge", "(*internal/sync.Mutex).unlockSlow", "internal/sync.fatal", "internal/sync.runtime_Semrelease", "sync/atomic.StoreUint32", "sync/atomic.LoadInt64"], unfollowed := true, recurses := true, plainKeys := false, apart := false }
def LocksRunSaid : Prop := locksRunRow.holds Try.pinned (OpenSpec.ofChange locksRunSpec)

/-- ITS FALSE NEIGHBOUR: 'it returns false'. Refute it at one input. -/
def locksRunWrong : ChangeSpec := { name := "locksRun", fn := fun _ => fun
  | [d] => { results := [.lit (.bool false)], args := [d] }
  | _ => none }
def LocksRunWrongFalsely : Prop := locksRunRow.holds Try.pinned (OpenSpec.ofChange locksRunWrong)

/-- 'pantrylaw12.LocksPlay': WHATEVER THE INPUT: true; the input reads as it did. -/
def locksPlaySpec : ChangeSpec := { name := "locksPlay", fn := fun _ => fun
  | [d] => { results := [.lit (.bool true)], args := [d] }
  | _ => none }
def locksPlayRow : OpenClaim := { program := "ytlgfpoelhjlifaa", sum := "7431b3c73f576df0566d1bc8a94c9ec16dbbc1b7e454d59febfc8c57878e265e", func := "pantry/pantrylaw12.LocksPlay", spec := "locksPlay", unfollowed := true, recurses := true, plainKeys := false, apart := false }
def LocksPlaySaid : Prop := locksPlayRow.holds Try.pinned (OpenSpec.ofChange locksPlaySpec)

/-- ITS FALSE NEIGHBOUR: 'it returns false'. Refute it at one input. -/
def locksPlayWrong : ChangeSpec := { name := "locksPlay", fn := fun _ => fun
  | [d] => { results := [.lit (.bool false)], args := [d] }
  | _ => none }
def LocksPlayWrongFalsely : Prop := locksPlayRow.holds Try.pinned (OpenSpec.ofChange locksPlayWrong)

/-- 'pantrylaw12.LocksAlone': WHATEVER THE INPUT: true; the input reads as it did. -/
def locksAloneSpec : ChangeSpec := { name := "locksAlone", fn := fun _ => fun
  | [d] => { results := [.lit (.bool true)], args := [d] }
  | _ => none }
def locksAloneRow : OpenClaim := { program := "ytlgfpoelhjlifaa", sum := "7431b3c73f576df0566d1bc8a94c9ec16dbbc1b7e454d59febfc8c57878e265e", func := "pantry/pantrylaw12.LocksAlone", spec := "locksAlone", unfollowed := true, recurses := true, plainKeys := false, apart := false }
def LocksAloneSaid : Prop := locksAloneRow.holds Try.pinned (OpenSpec.ofChange locksAloneSpec)

/-- ITS FALSE NEIGHBOUR: 'it returns false'. Refute it at one input. -/
def locksAloneWrong : ChangeSpec := { name := "locksAlone", fn := fun _ => fun
  | [d] => { results := [.lit (.bool false)], args := [d] }
  | _ => none }
def LocksAloneWrongFalsely : Prop := locksAloneRow.holds Try.pinned (OpenSpec.ofChange locksAloneWrong)

/-- 'pantrylaw12.LocksEnd': WHATEVER THE INPUT: true; the input reads as it did. -/
def locksEndSpec : ChangeSpec := { name := "locksEnd", fn := fun _ => fun
  | [d1, d2] => { results := [.lit (.bool true)], args := [d1, d2] }
  | _ => none }
def locksEndRow : OpenClaim := { program := "ytlgfpoelhjlifaa", sum := "7431b3c73f576df0566d1bc8a94c9ec16dbbc1b7e454d59febfc8c57878e265e", func := "pantry/pantrylaw12.LocksEnd", spec := "locksEnd", unfollowed := true, recurses := true, plainKeys := false, apart := false }
def LocksEndSaid : Prop := locksEndRow.holds Try.pinned (OpenSpec.ofChange locksEndSpec)

/-- ITS FALSE NEIGHBOUR: 'it returns false'. Refute it at one input. -/
def locksEndWrong : ChangeSpec := { name := "locksEnd", fn := fun _ => fun
  | [d1, d2] => { results := [.lit (.bool false)], args := [d1, d2] }
  | _ => none }
def LocksEndWrongFalsely : Prop := locksEndRow.holds Try.pinned (OpenSpec.ofChange locksEndWrong)

/-- 'pantrylaw12.LocksOfNothing': WHATEVER THE INPUT: true; the input reads as it did. -/
def locksOfNothingSpec : ChangeSpec := { name := "locksOfNothing", fn := fun _ => fun
  | [d1, d2] => { results := [.lit (.bool true)], args := [d1, d2] }
  | _ => none }
def locksOfNothingRow : OpenClaim := { program := "ytlgfpoelhjlifaa", sum := "7431b3c73f576df0566d1bc8a94c9ec16dbbc1b7e454d59febfc8c57878e265e", func := "pantry/pantrylaw12.LocksOfNothing", spec := "locksOfNothing", inPlace := ["sync/atomic.AddInt64", "sync/atomic.LoadUint32", "(*internal/sync.Mutex).Lock", "internal/race.Disable", "sync/atomic.CompareAndSwapInt32", "internal/race.Enable", "internal/race.Acquire", "(*internal/sync.Mutex).lockSlow", "internal/sync.runtime_canSpin", "internal/sync.runtime_doSpin", "internal/sync.throw", "internal/sync.runtime_nanotime", "internal/sync.runtime_SemacquireMutex", "sync/atomic.AddInt32", "(*internal/sync.Mutex).Unlock", "internal/race.ReleaseMerge", "(*internal/sync.Mutex).unlockSlow", "internal/sync.fatal", "internal/sync.runtime_Semrelease", "sync/atomic.StoreUint32", "sync/atomic.LoadInt64"], unfollowed := true, recurses := true, plainKeys := false, apart := false }
def LocksOfNothingSaid : Prop := locksOfNothingRow.holds Try.pinned (OpenSpec.ofChange locksOfNothingSpec)

/-- ITS FALSE NEIGHBOUR: 'it returns false'. Refute it at one input. -/
def locksOfNothingWrong : ChangeSpec := { name := "locksOfNothing", fn := fun _ => fun
  | [d1, d2] => { results := [.lit (.bool false)], args := [d1, d2] }
  | _ => none }
def LocksOfNothingWrongFalsely : Prop := locksOfNothingRow.holds Try.pinned (OpenSpec.ofChange locksOfNothingWrong)

/- THE SECOND FORM. 'bulk': how many values and letters a reading holds, each counted each time it is reached (what is shared counts as often as it is met; a slice's spare places count too). A statement '..UptoSaid' is the law's where the arguments, and the package variables that the reading takes, are together of bulk at most 1048576: NARROWER than '..Said'. Prove '..Said' where nothing that the law and all that it calls make is longer than what came in: it says more and counts as full. Else prove '..UptoSaid'. A law counts once. -/
mutual
def uptoBulk {H : Type} : DataW H → Nat
  | .lit (.string bytes) => bytes.length + 1
  | .lit _ => 1
  | .nil => 1
  | .ptr d => uptoBulk d + 1
  | .slice elems spare => uptoBulkAll elems + uptoBulkAll spare + 1
  | .agg parts => uptoBulkAll parts + 1
  | .iface _ d => uptoBulk d + 1
  | .map entries => uptoBulkEntries entries + 1
  | .held _ => 1
def uptoBulkAll {H : Type} : List (DataW H) → Nat
  | [] => 0
  | d :: r => uptoBulk d + uptoBulkAll r
def uptoBulkEntries {H : Type} : List (Lit × DataW H) → Nat
  | [] => 0
  | x :: r => uptoBulkEntry x + uptoBulkEntries r
def uptoBulkEntry {H : Type} : Lit × DataW H → Nat
  | (.string bytes, d) => bytes.length + uptoBulk d + 1
  | (_, d) => uptoBulk d + 1
 end
def uptoSmall : (H : Type) → List (DataW H) → Bool := fun _ ds => decide (uptoBulkAll ds ≤ 1048576)
def OpenSpec.upto (s : _root_.Go.ChangeSpec) : _root_.Go.OpenSpec := { _root_.Go.OpenSpec.ofChange s with cond := some uptoSmall }

/-- 'pantrylaw12.LocksWithin', WHERE WHAT IT READS IS OF BULK AT MOST 1048576: true; the input reads as it did. -/
def locksWithinUptoRow : OpenClaim := { program := "ytlgfpoelhjlifaa", sum := "7431b3c73f576df0566d1bc8a94c9ec16dbbc1b7e454d59febfc8c57878e265e", func := "pantry/pantrylaw12.LocksWithin", spec := "locksWithin", inPlace := ["sync/atomic.AddInt64", "sync/atomic.LoadUint32", "(*internal/sync.Mutex).Lock", "internal/race.Disable", "sync/atomic.CompareAndSwapInt32", "internal/race.Enable", "internal/race.Acquire", "(*internal/sync.Mutex).lockSlow", "internal/sync.runtime_canSpin", "internal/sync.runtime_doSpin", "internal/sync.throw", "internal/sync.runtime_nanotime", "internal/sync.runtime_SemacquireMutex", "sync/atomic.AddInt32", "(*internal/sync.Mutex).Unlock", "internal/race.ReleaseMerge", "(*internal/sync.Mutex).unlockSlow", "internal/sync.fatal", "internal/sync.runtime_Semrelease", "sync/atomic.StoreUint32", "sync/atomic.LoadInt64"], unfollowed := true, recurses := true, plainKeys := false, apart := false, narrowed := true }
def LocksWithinUptoSaid : Prop := locksWithinUptoRow.holds Try.pinned (OpenSpec.upto locksWithinSpec)

/-- 'pantrylaw12.LocksRun', WHERE WHAT IT READS IS OF BULK AT MOST 1048576: true; the input reads as it did. -/
def locksRunUptoRow : OpenClaim := { program := "ytlgfpoelhjlifaa", sum := "7431b3c73f576df0566d1bc8a94c9ec16dbbc1b7e454d59febfc8c57878e265e", func := "pantry/pantrylaw12.LocksRun", spec := "locksRun", inPlace := ["sync/atomic.AddInt64", "sync/atomic.LoadUint32", "(*internal/sync.Mutex).Lock", "internal/race.Disable", "sync/atomic.CompareAndSwapInt32", "internal/race.Enable", "internal/race.Acquire", "(*internal/sync.Mutex).lockSlow", "internal/sync.runtime_canSpin", "internal/sync.runtime_doSpin", "internal/sync.throw", "internal/sync.runtime_nanotime", "internal/sync.runtime_SemacquireMutex", "sync/atomic.AddInt32", "(*internal/sync.Mutex).Unlock", "internal/race.ReleaseMerge", "(*internal/sync.Mutex).unlockSlow", "internal/sync.fatal", "internal/sync.runtime_Semrelease", "sync/atomic.StoreUint32", "sync/atomic.LoadInt64"], unfollowed := true, recurses := true, plainKeys := false, apart := false, narrowed := true }
def LocksRunUptoSaid : Prop := locksRunUptoRow.holds Try.pinned (OpenSpec.upto locksRunSpec)

/-- 'pantrylaw12.LocksPlay', WHERE WHAT IT READS IS OF BULK AT MOST 1048576: true; the input reads as it did. -/
def locksPlayUptoRow : OpenClaim := { program := "ytlgfpoelhjlifaa", sum := "7431b3c73f576df0566d1bc8a94c9ec16dbbc1b7e454d59febfc8c57878e265e", func := "pantry/pantrylaw12.LocksPlay", spec := "locksPlay", unfollowed := true, recurses := true, plainKeys := false, apart := false, narrowed := true }
def LocksPlayUptoSaid : Prop := locksPlayUptoRow.holds Try.pinned (OpenSpec.upto locksPlaySpec)

/-- 'pantrylaw12.LocksAlone', WHERE WHAT IT READS IS OF BULK AT MOST 1048576: true; the input reads as it did. -/
def locksAloneUptoRow : OpenClaim := { program := "ytlgfpoelhjlifaa", sum := "7431b3c73f576df0566d1bc8a94c9ec16dbbc1b7e454d59febfc8c57878e265e", func := "pantry/pantrylaw12.LocksAlone", spec := "locksAlone", unfollowed := true, recurses := true, plainKeys := false, apart := false, narrowed := true }
def LocksAloneUptoSaid : Prop := locksAloneUptoRow.holds Try.pinned (OpenSpec.upto locksAloneSpec)

/-- 'pantrylaw12.LocksEnd', WHERE WHAT IT READS IS OF BULK AT MOST 1048576: true; the input reads as it did. -/
def locksEndUptoRow : OpenClaim := { program := "ytlgfpoelhjlifaa", sum := "7431b3c73f576df0566d1bc8a94c9ec16dbbc1b7e454d59febfc8c57878e265e", func := "pantry/pantrylaw12.LocksEnd", spec := "locksEnd", unfollowed := true, recurses := true, plainKeys := false, apart := false, narrowed := true }
def LocksEndUptoSaid : Prop := locksEndUptoRow.holds Try.pinned (OpenSpec.upto locksEndSpec)

/-- 'pantrylaw12.LocksOfNothing', WHERE WHAT IT READS IS OF BULK AT MOST 1048576: true; the input reads as it did. -/
def locksOfNothingUptoRow : OpenClaim := { program := "ytlgfpoelhjlifaa", sum := "7431b3c73f576df0566d1bc8a94c9ec16dbbc1b7e454d59febfc8c57878e265e", func := "pantry/pantrylaw12.LocksOfNothing", spec := "locksOfNothing", inPlace := ["sync/atomic.AddInt64", "sync/atomic.LoadUint32", "(*internal/sync.Mutex).Lock", "internal/race.Disable", "sync/atomic.CompareAndSwapInt32", "internal/race.Enable", "internal/race.Acquire", "(*internal/sync.Mutex).lockSlow", "internal/sync.runtime_canSpin", "internal/sync.runtime_doSpin", "internal/sync.throw", "internal/sync.runtime_nanotime", "internal/sync.runtime_SemacquireMutex", "sync/atomic.AddInt32", "(*internal/sync.Mutex).Unlock", "internal/race.ReleaseMerge", "(*internal/sync.Mutex).unlockSlow", "internal/sync.fatal", "internal/sync.runtime_Semrelease", "sync/atomic.StoreUint32", "sync/atomic.LoadInt64"], unfollowed := true, recurses := true, plainKeys := false, apart := false, narrowed := true }
def LocksOfNothingUptoSaid : Prop := locksOfNothingUptoRow.holds Try.pinned (OpenSpec.upto locksOfNothingSpec)

end Rows
end Go.Proofs.Ytlgfpoelhjlifaa
