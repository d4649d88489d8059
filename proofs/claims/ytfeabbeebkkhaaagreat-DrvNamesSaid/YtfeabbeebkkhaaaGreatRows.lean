/-
  NARROWER THAN 'FOR EVERY INPUT', by the rows' own cells (each row's printed sentence says how): DrvAgain: maps · DrvNames: maps.
  DERIVED. THE GIVEN ROWS OF THIS SEAT. 8 by the template 'for every input the law returns true; each argument reads behind the call as it read before'; 0 by the template 'total and deterministic' (their statements: YtfeabbeebkkhaaaGreatTotals.lean).
  GIVEN WITH THE SEED: the statements are not yours to turn. If you find one false, say at which input.
  Laid BY PROGRAM, IN A SANDBOX (cutbox-rows.mjs): the forced cells as the released guide's own fill.sh prints them over the translation daa17917b17e87c5… (all of the seat's roots in one cut). By AI agents, Wed Nov 11 2026. No macro, syntax, notation, axiom, sorry.
-/
import Derived.Test.YtfeabbeebkkhaaaGreatChecked
import GoSem.Claim
import GoSem.ClaimJoined
import GoSem.ClaimMapViews
import Derived.JoinedTies
import Derived.KernelRfl
namespace Go.Proofs.YtfeabbeebkkhaaaGreat
/- THE CELL 'sum', in the pinned program and in every row, IS THE sha256 OF THE DUMP (.gsa) THAT YtfeabbeebkkhaaaGreatProg.lean LOADS. Nothing in Lean hashes anything: it is a label: what it is worth is what the hold of that sum in a sandbox is worth. -/
noncomputable def Tryz.pinned : Pinned := { name := "ytfeabbeebkkhaaagreat", sum := "daa17917b17e87c5bb7587ff77fedacef2ad609d35bb3296b9135f2761037191", checked := Tryz.checked }
namespace Rows
def none {H : Type} : Left H := { results := [], args := [] }

/-- 'pantrylaw14.DrvPrints': WHATEVER THE INPUT: true; the input reads as it did. -/
def drvPrintsSpec : ChangeSpec := { name := "drvPrints", fn := fun _ => fun
  | [d] => { results := [.lit (.bool true)], args := [d] }
  | _ => none }
def drvPrintsRow : OpenClaim := { program := "ytfeabbeebkkhaaagreat", sum := "daa17917b17e87c5bb7587ff77fedacef2ad609d35bb3296b9135f2761037191", func := "pantry/pantrylaw14.DrvPrints", spec := "drvPrints", inPlace := ["internal/bytealg.IndexByteString", "internal/abi.NoEscape", "sync/atomic.LoadUint32", "(*internal/sync.Mutex).Lock", "internal/race.Disable", "sync/atomic.CompareAndSwapInt32", "internal/race.Enable", "internal/race.Acquire", "(*internal/sync.Mutex).lockSlow", "internal/sync.runtime_canSpin", "internal/sync.runtime_doSpin", "internal/sync.throw", "internal/sync.runtime_nanotime", "internal/sync.runtime_SemacquireMutex", "sync/atomic.AddInt32", "(*internal/sync.Mutex).Unlock", "internal/race.ReleaseMerge", "(*internal/sync.Mutex).unlockSlow", "internal/sync.fatal", "internal/sync.runtime_Semrelease", "sync/atomic.StoreUint32"], unfollowed := true, recurses := true, apart := false }
def DrvPrintsSaid : Prop := drvPrintsRow.holds Tryz.pinned (OpenSpec.ofChange drvPrintsSpec)

/-- ITS FALSE NEIGHBOUR: 'it returns false'. Refute it at one input. -/
def drvPrintsWrong : ChangeSpec := { name := "drvPrints", fn := fun _ => fun
  | [d] => { results := [.lit (.bool false)], args := [d] }
  | _ => none }
def DrvPrintsWrongFalsely : Prop := drvPrintsRow.holds Tryz.pinned (OpenSpec.ofChange drvPrintsWrong)

/-- 'pantrylaw14.DrvParses': WHATEVER THE INPUT: true; the input reads as it did. -/
def drvParsesSpec : ChangeSpec := { name := "drvParses", fn := fun _ => fun
  | [d] => { results := [.lit (.bool true)], args := [d] }
  | _ => none }
def drvParsesRow : OpenClaim := { program := "ytfeabbeebkkhaaagreat", sum := "daa17917b17e87c5bb7587ff77fedacef2ad609d35bb3296b9135f2761037191", func := "pantry/pantrylaw14.DrvParses", spec := "drvParses", inPlace := ["internal/bytealg.IndexByteString", "internal/abi.NoEscape", "sync/atomic.LoadUint32", "(*internal/sync.Mutex).Lock", "internal/race.Disable", "sync/atomic.CompareAndSwapInt32", "internal/race.Enable", "internal/race.Acquire", "(*internal/sync.Mutex).lockSlow", "internal/sync.runtime_canSpin", "internal/sync.runtime_doSpin", "internal/sync.throw", "internal/sync.runtime_nanotime", "internal/sync.runtime_SemacquireMutex", "sync/atomic.AddInt32", "(*internal/sync.Mutex).Unlock", "internal/race.ReleaseMerge", "(*internal/sync.Mutex).unlockSlow", "internal/sync.fatal", "internal/sync.runtime_Semrelease", "sync/atomic.StoreUint32"], unfollowed := true, recurses := true, apart := false }
def DrvParsesSaid : Prop := drvParsesRow.holds Tryz.pinned (OpenSpec.ofChange drvParsesSpec)

/-- ITS FALSE NEIGHBOUR: 'it returns false'. Refute it at one input. -/
def drvParsesWrong : ChangeSpec := { name := "drvParses", fn := fun _ => fun
  | [d] => { results := [.lit (.bool false)], args := [d] }
  | _ => none }
def DrvParsesWrongFalsely : Prop := drvParsesRow.holds Tryz.pinned (OpenSpec.ofChange drvParsesWrong)

/-- 'pantrylaw14.DrvBack': WHATEVER THE INPUT: true; the input reads as it did. -/
def drvBackSpec : ChangeSpec := { name := "drvBack", fn := fun _ => fun
  | [d1, d2] => { results := [.lit (.bool true)], args := [d1, d2] }
  | _ => none }
def drvBackRow : OpenClaim := { program := "ytfeabbeebkkhaaagreat", sum := "daa17917b17e87c5bb7587ff77fedacef2ad609d35bb3296b9135f2761037191", func := "pantry/pantrylaw14.DrvBack", spec := "drvBack", inPlace := ["internal/bytealg.IndexByteString", "internal/abi.NoEscape", "sync/atomic.LoadUint32", "(*internal/sync.Mutex).Lock", "internal/race.Disable", "sync/atomic.CompareAndSwapInt32", "internal/race.Enable", "internal/race.Acquire", "(*internal/sync.Mutex).lockSlow", "internal/sync.runtime_canSpin", "internal/sync.runtime_doSpin", "internal/sync.throw", "internal/sync.runtime_nanotime", "internal/sync.runtime_SemacquireMutex", "sync/atomic.AddInt32", "(*internal/sync.Mutex).Unlock", "internal/race.ReleaseMerge", "(*internal/sync.Mutex).unlockSlow", "internal/sync.fatal", "internal/sync.runtime_Semrelease", "sync/atomic.StoreUint32"], unfollowed := true, recurses := true, apart := false }
def DrvBackSaid : Prop := drvBackRow.holds Tryz.pinned (OpenSpec.ofChange drvBackSpec)

/-- ITS FALSE NEIGHBOUR: 'it returns false'. Refute it at one input. -/
def drvBackWrong : ChangeSpec := { name := "drvBack", fn := fun _ => fun
  | [d1, d2] => { results := [.lit (.bool false)], args := [d1, d2] }
  | _ => none }
def DrvBackWrongFalsely : Prop := drvBackRow.holds Tryz.pinned (OpenSpec.ofChange drvBackWrong)

/-- 'pantrylaw14.DrvBytes': WHATEVER THE INPUT: true; the input reads as it did. -/
def drvBytesSpec : ChangeSpec := { name := "drvBytes", fn := fun _ => fun
  | [d1, d2] => { results := [.lit (.bool true)], args := [d1, d2] }
  | _ => none }
def drvBytesRow : OpenClaim := { program := "ytfeabbeebkkhaaagreat", sum := "daa17917b17e87c5bb7587ff77fedacef2ad609d35bb3296b9135f2761037191", func := "pantry/pantrylaw14.DrvBytes", spec := "drvBytes", inPlace := ["internal/bytealg.IndexByteString", "internal/abi.NoEscape", "sync/atomic.LoadUint32", "(*internal/sync.Mutex).Lock", "internal/race.Disable", "sync/atomic.CompareAndSwapInt32", "internal/race.Enable", "internal/race.Acquire", "(*internal/sync.Mutex).lockSlow", "internal/sync.runtime_canSpin", "internal/sync.runtime_doSpin", "internal/sync.throw", "internal/sync.runtime_nanotime", "internal/sync.runtime_SemacquireMutex", "sync/atomic.AddInt32", "(*internal/sync.Mutex).Unlock", "internal/race.ReleaseMerge", "(*internal/sync.Mutex).unlockSlow", "internal/sync.fatal", "internal/sync.runtime_Semrelease", "sync/atomic.StoreUint32"], unfollowed := true, recurses := true, apart := false }
def DrvBytesSaid : Prop := drvBytesRow.holds Tryz.pinned (OpenSpec.ofChange drvBytesSpec)

/-- ITS FALSE NEIGHBOUR: 'it returns false'. Refute it at one input. -/
def drvBytesWrong : ChangeSpec := { name := "drvBytes", fn := fun _ => fun
  | [d1, d2] => { results := [.lit (.bool false)], args := [d1, d2] }
  | _ => none }
def DrvBytesWrongFalsely : Prop := drvBytesRow.holds Tryz.pinned (OpenSpec.ofChange drvBytesWrong)

/-- 'pantrylaw14.DrvAgain': WHATEVER THE INPUT: true; the input reads as it did. -/
def drvAgainSpec : ChangeSpec := { name := "drvAgain", fn := fun _ => fun
  | [d1, d2] => { results := [.lit (.bool true)], args := [d1, d2] }
  | _ => none }
def drvAgainRow : OpenClaim := { program := "ytfeabbeebkkhaaagreat", sum := "daa17917b17e87c5bb7587ff77fedacef2ad609d35bb3296b9135f2761037191", func := "pantry/pantrylaw14.DrvAgain", spec := "drvAgain", inPlace := ["internal/bytealg.IndexByteString", "internal/abi.NoEscape", "sync/atomic.LoadUint32", "(*internal/sync.Mutex).Lock", "internal/race.Disable", "sync/atomic.CompareAndSwapInt32", "internal/race.Enable", "internal/race.Acquire", "(*internal/sync.Mutex).lockSlow", "internal/sync.runtime_canSpin", "internal/sync.runtime_doSpin", "internal/sync.throw", "internal/sync.runtime_nanotime", "internal/sync.runtime_SemacquireMutex", "sync/atomic.AddInt32", "(*internal/sync.Mutex).Unlock", "internal/race.ReleaseMerge", "(*internal/sync.Mutex).unlockSlow", "internal/sync.fatal", "internal/sync.runtime_Semrelease", "sync/atomic.StoreUint32"], unfollowed := true, recurses := true, maps := true, apart := false }
def DrvAgainSaid : Prop := drvAgainRow.holds Tryz.pinned (OpenSpec.ofChange drvAgainSpec)

/-- ITS FALSE NEIGHBOUR: 'it returns false'. Refute it at one input. -/
def drvAgainWrong : ChangeSpec := { name := "drvAgain", fn := fun _ => fun
  | [d1, d2] => { results := [.lit (.bool false)], args := [d1, d2] }
  | _ => none }
def DrvAgainWrongFalsely : Prop := drvAgainRow.holds Tryz.pinned (OpenSpec.ofChange drvAgainWrong)

/-- 'pantrylaw14.DrvFixed': WHATEVER THE INPUT: true; the input reads as it did. -/
def drvFixedSpec : ChangeSpec := { name := "drvFixed", fn := fun _ => fun
  | [d1, d2, d3] => { results := [.lit (.bool true)], args := [d1, d2, d3] }
  | _ => none }
def drvFixedRow : OpenClaim := { program := "ytfeabbeebkkhaaagreat", sum := "daa17917b17e87c5bb7587ff77fedacef2ad609d35bb3296b9135f2761037191", func := "pantry/pantrylaw14.DrvFixed", spec := "drvFixed", inPlace := ["internal/bytealg.IndexByteString", "internal/abi.NoEscape", "sync/atomic.LoadUint32", "(*internal/sync.Mutex).Lock", "internal/race.Disable", "sync/atomic.CompareAndSwapInt32", "internal/race.Enable", "internal/race.Acquire", "(*internal/sync.Mutex).lockSlow", "internal/sync.runtime_canSpin", "internal/sync.runtime_doSpin", "internal/sync.throw", "internal/sync.runtime_nanotime", "internal/sync.runtime_SemacquireMutex", "sync/atomic.AddInt32", "(*internal/sync.Mutex).Unlock", "internal/race.ReleaseMerge", "(*internal/sync.Mutex).unlockSlow", "internal/sync.fatal", "internal/sync.runtime_Semrelease", "sync/atomic.StoreUint32"], unfollowed := true, recurses := true, apart := false }
def DrvFixedSaid : Prop := drvFixedRow.holds Tryz.pinned (OpenSpec.ofChange drvFixedSpec)

/-- ITS FALSE NEIGHBOUR: 'it returns false'. Refute it at one input. -/
def drvFixedWrong : ChangeSpec := { name := "drvFixed", fn := fun _ => fun
  | [d1, d2, d3] => { results := [.lit (.bool false)], args := [d1, d2, d3] }
  | _ => none }
def DrvFixedWrongFalsely : Prop := drvFixedRow.holds Tryz.pinned (OpenSpec.ofChange drvFixedWrong)

/-- 'pantrylaw14.DrvRefs': WHATEVER THE INPUT: true; the input reads as it did. -/
def drvRefsSpec : ChangeSpec := { name := "drvRefs", fn := fun _ => fun
  | [d1, d2] => { results := [.lit (.bool true)], args := [d1, d2] }
  | _ => none }
def drvRefsRow : OpenClaim := { program := "ytfeabbeebkkhaaagreat", sum := "daa17917b17e87c5bb7587ff77fedacef2ad609d35bb3296b9135f2761037191", func := "pantry/pantrylaw14.DrvRefs", spec := "drvRefs", inPlace := ["internal/bytealg.IndexByteString", "internal/abi.NoEscape", "sync/atomic.LoadUint32", "(*internal/sync.Mutex).Lock", "internal/race.Disable", "sync/atomic.CompareAndSwapInt32", "internal/race.Enable", "internal/race.Acquire", "(*internal/sync.Mutex).lockSlow", "internal/sync.runtime_canSpin", "internal/sync.runtime_doSpin", "internal/sync.throw", "internal/sync.runtime_nanotime", "internal/sync.runtime_SemacquireMutex", "sync/atomic.AddInt32", "(*internal/sync.Mutex).Unlock", "internal/race.ReleaseMerge", "(*internal/sync.Mutex).unlockSlow", "internal/sync.fatal", "internal/sync.runtime_Semrelease", "sync/atomic.StoreUint32"], unfollowed := true, recurses := true, apart := false }
def DrvRefsSaid : Prop := drvRefsRow.holds Tryz.pinned (OpenSpec.ofChange drvRefsSpec)

/-- ITS FALSE NEIGHBOUR: 'it returns false'. Refute it at one input. -/
def drvRefsWrong : ChangeSpec := { name := "drvRefs", fn := fun _ => fun
  | [d1, d2] => { results := [.lit (.bool false)], args := [d1, d2] }
  | _ => none }
def DrvRefsWrongFalsely : Prop := drvRefsRow.holds Tryz.pinned (OpenSpec.ofChange drvRefsWrong)

/-- 'pantrylaw14.DrvNames': WHATEVER THE INPUT: true; the input reads as it did. -/
def drvNamesSpec : ChangeSpec := { name := "drvNames", fn := fun _ => fun
  | [d1, d2] => { results := [.lit (.bool true)], args := [d1, d2] }
  | _ => none }
def drvNamesRow : OpenClaim := { program := "ytfeabbeebkkhaaagreat", sum := "daa17917b17e87c5bb7587ff77fedacef2ad609d35bb3296b9135f2761037191", func := "pantry/pantrylaw14.DrvNames", spec := "drvNames", inPlace := ["internal/bytealg.IndexByteString", "internal/abi.NoEscape", "sync/atomic.LoadUint32", "(*internal/sync.Mutex).Lock", "internal/race.Disable", "sync/atomic.CompareAndSwapInt32", "internal/race.Enable", "internal/race.Acquire", "(*internal/sync.Mutex).lockSlow", "internal/sync.runtime_canSpin", "internal/sync.runtime_doSpin", "internal/sync.throw", "internal/sync.runtime_nanotime", "internal/sync.runtime_SemacquireMutex", "sync/atomic.AddInt32", "(*internal/sync.Mutex).Unlock", "internal/race.ReleaseMerge", "(*internal/sync.Mutex).unlockSlow", "internal/sync.fatal", "internal/sync.runtime_Semrelease", "sync/atomic.StoreUint32"], unfollowed := true, recurses := true, maps := true, apart := false }
def DrvNamesSaid : Prop := drvNamesRow.holds Tryz.pinned (OpenSpec.ofChange drvNamesSpec)

/-- ITS FALSE NEIGHBOUR: 'it returns false'. Refute it at one input. -/
def drvNamesWrong : ChangeSpec := { name := "drvNames", fn := fun _ => fun
  | [d1, d2] => { results := [.lit (.bool false)], args := [d1, d2] }
  | _ => none }
def DrvNamesWrongFalsely : Prop := drvNamesRow.holds Tryz.pinned (OpenSpec.ofChange drvNamesWrong)

/- THE SECOND FORM. 'bulk': how many values and letters a reading holds, each counted each time it is reached (what is shared counts as often as it is met; a slice's spare places count too). A statement '..UptoSaid' is the law's where the arguments, and the package variables that the reading takes, are together of bulk at most 1048576: NARROWER than '..Said'. Prove '..Said' where nothing that the law and all that it calls make is longer than what came in: it says more and counts as full. Else prove '..UptoSaid'. A law counts once. -/
mutual
def uptoBulk {H : Type} : DataW H → Nat
  | .lit (.string bytes) => bytes.length + 1
  | .lit _ => 1
  | .nil => 1
  | .ptr d => uptoBulk d + 1
  | .slice elems spare => uptoBulkAll elems + uptoBulkAll spare + 1
  | .agg parts => uptoBulkAll parts + 1
  | .iface _ d => uptoBulk d + 1
  | .map entries => uptoBulkEntries entries + 1
  | .held _ => 1
def uptoBulkAll {H : Type} : List (DataW H) → Nat
  | [] => 0
  | d :: r => uptoBulk d + uptoBulkAll r
def uptoBulkEntries {H : Type} : List (Lit × DataW H) → Nat
  | [] => 0
  | x :: r => uptoBulkEntry x + uptoBulkEntries r
def uptoBulkEntry {H : Type} : Lit × DataW H → Nat
  | (.string bytes, d) => bytes.length + uptoBulk d + 1
  | (_, d) => uptoBulk d + 1
 end
def uptoSmall : (H : Type) → List (DataW H) → Bool := fun _ ds => decide (uptoBulkAll ds ≤ 1048576)
def OpenSpec.upto (s : _root_.Go.ChangeSpec) : _root_.Go.OpenSpec := { _root_.Go.OpenSpec.ofChange s with cond := some uptoSmall }

/-- 'pantrylaw14.DrvPrints', WHERE WHAT IT READS IS OF BULK AT MOST 1048576: true; the input reads as it did. -/
def drvPrintsUptoRow : OpenClaim := { program := "ytfeabbeebkkhaaagreat", sum := "daa17917b17e87c5bb7587ff77fedacef2ad609d35bb3296b9135f2761037191", func := "pantry/pantrylaw14.DrvPrints", spec := "drvPrints", inPlace := ["internal/bytealg.IndexByteString", "internal/abi.NoEscape", "sync/atomic.LoadUint32", "(*internal/sync.Mutex).Lock", "internal/race.Disable", "sync/atomic.CompareAndSwapInt32", "internal/race.Enable", "internal/race.Acquire", "(*internal/sync.Mutex).lockSlow", "internal/sync.runtime_canSpin", "internal/sync.runtime_doSpin", "internal/sync.throw", "internal/sync.runtime_nanotime", "internal/sync.runtime_SemacquireMutex", "sync/atomic.AddInt32", "(*internal/sync.Mutex).Unlock", "internal/race.ReleaseMerge", "(*internal/sync.Mutex).unlockSlow", "internal/sync.fatal", "internal/sync.runtime_Semrelease", "sync/atomic.StoreUint32"], unfollowed := true, recurses := true, apart := false, narrowed := true }
def DrvPrintsUptoSaid : Prop := drvPrintsUptoRow.holds Tryz.pinned (OpenSpec.upto drvPrintsSpec)

/-- 'pantrylaw14.DrvParses', WHERE WHAT IT READS IS OF BULK AT MOST 1048576: true; the input reads as it did. -/
def drvParsesUptoRow : OpenClaim := { program := "ytfeabbeebkkhaaagreat", sum := "daa17917b17e87c5bb7587ff77fedacef2ad609d35bb3296b9135f2761037191", func := "pantry/pantrylaw14.DrvParses", spec := "drvParses", inPlace := ["internal/bytealg.IndexByteString", "internal/abi.NoEscape", "sync/atomic.LoadUint32", "(*internal/sync.Mutex).Lock", "internal/race.Disable", "sync/atomic.CompareAndSwapInt32", "internal/race.Enable", "internal/race.Acquire", "(*internal/sync.Mutex).lockSlow", "internal/sync.runtime_canSpin", "internal/sync.runtime_doSpin", "internal/sync.throw", "internal/sync.runtime_nanotime", "internal/sync.runtime_SemacquireMutex", "sync/atomic.AddInt32", "(*internal/sync.Mutex).Unlock", "internal/race.ReleaseMerge", "(*internal/sync.Mutex).unlockSlow", "internal/sync.fatal", "internal/sync.runtime_Semrelease", "sync/atomic.StoreUint32"], unfollowed := true, recurses := true, apart := false, narrowed := true }
def DrvParsesUptoSaid : Prop := drvParsesUptoRow.holds Tryz.pinned (OpenSpec.upto drvParsesSpec)

/-- 'pantrylaw14.DrvBack', WHERE WHAT IT READS IS OF BULK AT MOST 1048576: true; the input reads as it did. -/
def drvBackUptoRow : OpenClaim := { program := "ytfeabbeebkkhaaagreat", sum := "daa17917b17e87c5bb7587ff77fedacef2ad609d35bb3296b9135f2761037191", func := "pantry/pantrylaw14.DrvBack", spec := "drvBack", inPlace := ["internal/bytealg.IndexByteString", "internal/abi.NoEscape", "sync/atomic.LoadUint32", "(*internal/sync.Mutex).Lock", "internal/race.Disable", "sync/atomic.CompareAndSwapInt32", "internal/race.Enable", "internal/race.Acquire", "(*internal/sync.Mutex).lockSlow", "internal/sync.runtime_canSpin", "internal/sync.runtime_doSpin", "internal/sync.throw", "internal/sync.runtime_nanotime", "internal/sync.runtime_SemacquireMutex", "sync/atomic.AddInt32", "(*internal/sync.Mutex).Unlock", "internal/race.ReleaseMerge", "(*internal/sync.Mutex).unlockSlow", "internal/sync.fatal", "internal/sync.runtime_Semrelease", "sync/atomic.StoreUint32"], unfollowed := true, recurses := true, apart := false, narrowed := true }
def DrvBackUptoSaid : Prop := drvBackUptoRow.holds Tryz.pinned (OpenSpec.upto drvBackSpec)

/-- 'pantrylaw14.DrvBytes', WHERE WHAT IT READS IS OF BULK AT MOST 1048576: true; the input reads as it did. -/
def drvBytesUptoRow : OpenClaim := { program := "ytfeabbeebkkhaaagreat", sum := "daa17917b17e87c5bb7587ff77fedacef2ad609d35bb3296b9135f2761037191", func := "pantry/pantrylaw14.DrvBytes", spec := "drvBytes", inPlace := ["internal/bytealg.IndexByteString", "internal/abi.NoEscape", "sync/atomic.LoadUint32", "(*internal/sync.Mutex).Lock", "internal/race.Disable", "sync/atomic.CompareAndSwapInt32", "internal/race.Enable", "internal/race.Acquire", "(*internal/sync.Mutex).lockSlow", "internal/sync.runtime_canSpin", "internal/sync.runtime_doSpin", "internal/sync.throw", "internal/sync.runtime_nanotime", "internal/sync.runtime_SemacquireMutex", "sync/atomic.AddInt32", "(*internal/sync.Mutex).Unlock", "internal/race.ReleaseMerge", "(*internal/sync.Mutex).unlockSlow", "internal/sync.fatal", "internal/sync.runtime_Semrelease", "sync/atomic.StoreUint32"], unfollowed := true, recurses := true, apart := false, narrowed := true }
def DrvBytesUptoSaid : Prop := drvBytesUptoRow.holds Tryz.pinned (OpenSpec.upto drvBytesSpec)

/-- 'pantrylaw14.DrvAgain', WHERE WHAT IT READS IS OF BULK AT MOST 1048576: true; the input reads as it did. -/
def drvAgainUptoRow : OpenClaim := { program := "ytfeabbeebkkhaaagreat", sum := "daa17917b17e87c5bb7587ff77fedacef2ad609d35bb3296b9135f2761037191", func := "pantry/pantrylaw14.DrvAgain", spec := "drvAgain", inPlace := ["internal/bytealg.IndexByteString", "internal/abi.NoEscape", "sync/atomic.LoadUint32", "(*internal/sync.Mutex).Lock", "internal/race.Disable", "sync/atomic.CompareAndSwapInt32", "internal/race.Enable", "internal/race.Acquire", "(*internal/sync.Mutex).lockSlow", "internal/sync.runtime_canSpin", "internal/sync.runtime_doSpin", "internal/sync.throw", "internal/sync.runtime_nanotime", "internal/sync.runtime_SemacquireMutex", "sync/atomic.AddInt32", "(*internal/sync.Mutex).Unlock", "internal/race.ReleaseMerge", "(*internal/sync.Mutex).unlockSlow", "internal/sync.fatal", "internal/sync.runtime_Semrelease", "sync/atomic.StoreUint32"], unfollowed := true, recurses := true, maps := true, apart := false, narrowed := true }
def DrvAgainUptoSaid : Prop := drvAgainUptoRow.holds Tryz.pinned (OpenSpec.upto drvAgainSpec)

/-- 'pantrylaw14.DrvFixed', WHERE WHAT IT READS IS OF BULK AT MOST 1048576: true; the input reads as it did. -/
def drvFixedUptoRow : OpenClaim := { program := "ytfeabbeebkkhaaagreat", sum := "daa17917b17e87c5bb7587ff77fedacef2ad609d35bb3296b9135f2761037191", func := "pantry/pantrylaw14.DrvFixed", spec := "drvFixed", inPlace := ["internal/bytealg.IndexByteString", "internal/abi.NoEscape", "sync/atomic.LoadUint32", "(*internal/sync.Mutex).Lock", "internal/race.Disable", "sync/atomic.CompareAndSwapInt32", "internal/race.Enable", "internal/race.Acquire", "(*internal/sync.Mutex).lockSlow", "internal/sync.runtime_canSpin", "internal/sync.runtime_doSpin", "internal/sync.throw", "internal/sync.runtime_nanotime", "internal/sync.runtime_SemacquireMutex", "sync/atomic.AddInt32", "(*internal/sync.Mutex).Unlock", "internal/race.ReleaseMerge", "(*internal/sync.Mutex).unlockSlow", "internal/sync.fatal", "internal/sync.runtime_Semrelease", "sync/atomic.StoreUint32"], unfollowed := true, recurses := true, apart := false, narrowed := true }
def DrvFixedUptoSaid : Prop := drvFixedUptoRow.holds Tryz.pinned (OpenSpec.upto drvFixedSpec)

/-- 'pantrylaw14.DrvRefs', WHERE WHAT IT READS IS OF BULK AT MOST 1048576: true; the input reads as it did. -/
def drvRefsUptoRow : OpenClaim := { program := "ytfeabbeebkkhaaagreat", sum := "daa17917b17e87c5bb7587ff77fedacef2ad609d35bb3296b9135f2761037191", func := "pantry/pantrylaw14.DrvRefs", spec := "drvRefs", inPlace := ["internal/bytealg.IndexByteString", "internal/abi.NoEscape", "sync/atomic.LoadUint32", "(*internal/sync.Mutex).Lock", "internal/race.Disable", "sync/atomic.CompareAndSwapInt32", "internal/race.Enable", "internal/race.Acquire", "(*internal/sync.Mutex).lockSlow", "internal/sync.runtime_canSpin", "internal/sync.runtime_doSpin", "internal/sync.throw", "internal/sync.runtime_nanotime", "internal/sync.runtime_SemacquireMutex", "sync/atomic.AddInt32", "(*internal/sync.Mutex).Unlock", "internal/race.ReleaseMerge", "(*internal/sync.Mutex).unlockSlow", "internal/sync.fatal", "internal/sync.runtime_Semrelease", "sync/atomic.StoreUint32"], unfollowed := true, recurses := true, apart := false, narrowed := true }
def DrvRefsUptoSaid : Prop := drvRefsUptoRow.holds Tryz.pinned (OpenSpec.upto drvRefsSpec)

/-- 'pantrylaw14.DrvNames', WHERE WHAT IT READS IS OF BULK AT MOST 1048576: true; the input reads as it did. -/
def drvNamesUptoRow : OpenClaim := { program := "ytfeabbeebkkhaaagreat", sum := "daa17917b17e87c5bb7587ff77fedacef2ad609d35bb3296b9135f2761037191", func := "pantry/pantrylaw14.DrvNames", spec := "drvNames", inPlace := ["internal/bytealg.IndexByteString", "internal/abi.NoEscape", "sync/atomic.LoadUint32", "(*internal/sync.Mutex).Lock", "internal/race.Disable", "sync/atomic.CompareAndSwapInt32", "internal/race.Enable", "internal/race.Acquire", "(*internal/sync.Mutex).lockSlow", "internal/sync.runtime_canSpin", "internal/sync.runtime_doSpin", "internal/sync.throw", "internal/sync.runtime_nanotime", "internal/sync.runtime_SemacquireMutex", "sync/atomic.AddInt32", "(*internal/sync.Mutex).Unlock", "internal/race.ReleaseMerge", "(*internal/sync.Mutex).unlockSlow", "internal/sync.fatal", "internal/sync.runtime_Semrelease", "sync/atomic.StoreUint32"], unfollowed := true, recurses := true, maps := true, apart := false, narrowed := true }
def DrvNamesUptoSaid : Prop := drvNamesUptoRow.holds Tryz.pinned (OpenSpec.upto drvNamesSpec)

end Rows
end Go.Proofs.YtfeabbeebkkhaaaGreat
