/-
  No cell of these rows narrows 'for every input' (looked for: loops, veiled, ifaces, maps, wideKeys, modest, calm, conditions, laid).
  DERIVED. THE GIVEN ROWS OF THIS SEAT. 14 by the template 'for every input the law returns true; each argument reads behind the call as it read before'; 0 by the template 'total and deterministic' (their statements: YtkilibdalgnghaaTotals.lean).
  GIVEN WITH THE SEED: the statements are not yours to turn. If you find one false, say at which input.
  Laid BY PROGRAM, IN A SANDBOX (cutbox-rows.mjs): the forced cells as the released guide's own fill.sh prints them over the translation d87ea294e96f7040… (all of the seat's roots in one cut). By AI agents, Wed Nov 11 2026. No macro, syntax, notation, axiom, sorry.
-/
import Derived.Test.YtkilibdalgnghaaChecked
import GoSem.Claim
import GoSem.ClaimJoined
import GoSem.ClaimMapViews
import Derived.JoinedTies
import Derived.KernelRfl
namespace Go.Proofs.Ytkilibdalgnghaa
/- THE CELL 'sum', in the pinned program and in every row, IS THE sha256 OF THE DUMP (.gsa) THAT YtkilibdalgnghaaProg.lean LOADS. Nothing in Lean hashes anything: it is a label: what it is worth is what the hold of that sum in a sandbox is worth. -/
noncomputable def Try.pinned : Pinned := { name := "ytkilibdalgnghaa", sum := "d87ea294e96f7040ac50c86fb4a8e5e787881f19789f76b4f75252ab36414d9b", checked := Try.checked }
namespace Rows
def none {H : Type} : Left H := { results := [], args := [] }

/-- 'waymasterlaw11.CellsLocks': WHATEVER THE INPUT: true; the input reads as it did. -/
def cellsLocksSpec : ChangeSpec := { name := "cellsLocks", fn := fun _ => fun
  | [d] => { results := [.lit (.bool true)], args := [d] }
  | _ => none }
def cellsLocksRow : OpenClaim := { program := "ytkilibdalgnghaa", sum := "d87ea294e96f7040ac50c86fb4a8e5e787881f19789f76b4f75252ab36414d9b", func := "waymaster/waymasterlaw11.CellsLocks", spec := "cellsLocks", inPlace := ["sync/atomic.LoadUint32", "(*internal/sync.Mutex).Lock", "internal/race.Disable", "sync/atomic.CompareAndSwapInt32", "internal/race.Enable", "internal/race.Acquire", "(*internal/sync.Mutex).lockSlow", "internal/sync.runtime_canSpin", "internal/sync.runtime_doSpin", "internal/sync.throw", "internal/sync.runtime_nanotime", "internal/sync.runtime_SemacquireMutex", "sync/atomic.AddInt32", "(*internal/sync.Mutex).Unlock", "internal/race.ReleaseMerge", "(*internal/sync.Mutex).unlockSlow", "internal/sync.fatal", "internal/sync.runtime_Semrelease", "sync/atomic.StoreUint32", "sync/atomic.CompareAndSwapInt64", "sync/atomic.LoadInt64"], unfollowed := true, recurses := true, apart := false }
def CellsLocksSaid : Prop := cellsLocksRow.holds Try.pinned (OpenSpec.ofChange cellsLocksSpec)

/-- ITS FALSE NEIGHBOUR: 'it returns false'. Refute it at one input. -/
def cellsLocksWrong : ChangeSpec := { name := "cellsLocks", fn := fun _ => fun
  | [d] => { results := [.lit (.bool false)], args := [d] }
  | _ => none }
def CellsLocksWrongFalsely : Prop := cellsLocksRow.holds Try.pinned (OpenSpec.ofChange cellsLocksWrong)

/-- 'waymasterlaw11.CellsSwaps': WHATEVER THE INPUT: true; the input reads as it did. -/
def cellsSwapsSpec : ChangeSpec := { name := "cellsSwaps", fn := fun _ => fun
  | [d1, d2, d3] => { results := [.lit (.bool true)], args := [d1, d2, d3] }
  | _ => none }
def cellsSwapsRow : OpenClaim := { program := "ytkilibdalgnghaa", sum := "d87ea294e96f7040ac50c86fb4a8e5e787881f19789f76b4f75252ab36414d9b", func := "waymaster/waymasterlaw11.CellsSwaps", spec := "cellsSwaps", inPlace := ["sync/atomic.LoadUint32", "(*internal/sync.Mutex).Lock", "internal/race.Disable", "sync/atomic.CompareAndSwapInt32", "internal/race.Enable", "internal/race.Acquire", "(*internal/sync.Mutex).lockSlow", "internal/sync.runtime_canSpin", "internal/sync.runtime_doSpin", "internal/sync.throw", "internal/sync.runtime_nanotime", "internal/sync.runtime_SemacquireMutex", "sync/atomic.AddInt32", "(*internal/sync.Mutex).Unlock", "internal/race.ReleaseMerge", "(*internal/sync.Mutex).unlockSlow", "internal/sync.fatal", "internal/sync.runtime_Semrelease", "sync/atomic.StoreUint32", "sync/atomic.CompareAndSwapInt64", "sync/atomic.LoadInt64", "sync/atomic.StoreInt64", "sync/atomic.AddInt64"], unfollowed := true, recurses := true, apart := false }
def CellsSwapsSaid : Prop := cellsSwapsRow.holds Try.pinned (OpenSpec.ofChange cellsSwapsSpec)

/-- ITS FALSE NEIGHBOUR: 'it returns false'. Refute it at one input. -/
def cellsSwapsWrong : ChangeSpec := { name := "cellsSwaps", fn := fun _ => fun
  | [d1, d2, d3] => { results := [.lit (.bool false)], args := [d1, d2, d3] }
  | _ => none }
def CellsSwapsWrongFalsely : Prop := cellsSwapsRow.holds Try.pinned (OpenSpec.ofChange cellsSwapsWrong)

/-- 'waymasterlaw11.CellsCounts': WHATEVER THE INPUT: true; the input reads as it did. -/
def cellsCountsSpec : ChangeSpec := { name := "cellsCounts", fn := fun _ => fun
  | [d] => { results := [.lit (.bool true)], args := [d] }
  | _ => none }
def cellsCountsRow : OpenClaim := { program := "ytkilibdalgnghaa", sum := "d87ea294e96f7040ac50c86fb4a8e5e787881f19789f76b4f75252ab36414d9b", func := "waymaster/waymasterlaw11.CellsCounts", spec := "cellsCounts", inPlace := ["sync/atomic.LoadUint32", "(*internal/sync.Mutex).Lock", "internal/race.Disable", "sync/atomic.CompareAndSwapInt32", "internal/race.Enable", "internal/race.Acquire", "(*internal/sync.Mutex).lockSlow", "internal/sync.runtime_canSpin", "internal/sync.runtime_doSpin", "internal/sync.throw", "internal/sync.runtime_nanotime", "internal/sync.runtime_SemacquireMutex", "sync/atomic.AddInt32", "(*internal/sync.Mutex).Unlock", "internal/race.ReleaseMerge", "(*internal/sync.Mutex).unlockSlow", "internal/sync.fatal", "internal/sync.runtime_Semrelease", "sync/atomic.StoreUint32", "sync/atomic.CompareAndSwapInt64", "sync/atomic.LoadInt64"], unfollowed := true, recurses := true, apart := false }
def CellsCountsSaid : Prop := cellsCountsRow.holds Try.pinned (OpenSpec.ofChange cellsCountsSpec)

/-- ITS FALSE NEIGHBOUR: 'it returns false'. Refute it at one input. -/
def cellsCountsWrong : ChangeSpec := { name := "cellsCounts", fn := fun _ => fun
  | [d] => { results := [.lit (.bool false)], args := [d] }
  | _ => none }
def CellsCountsWrongFalsely : Prop := cellsCountsRow.holds Try.pinned (OpenSpec.ofChange cellsCountsWrong)

/-- 'waymasterlaw11.CellsApart': WHATEVER THE INPUT: true; the input reads as it did. -/
def cellsApartSpec : ChangeSpec := { name := "cellsApart", fn := fun _ => fun
  | [d1, d2, d3, d4] => { results := [.lit (.bool true)], args := [d1, d2, d3, d4] }
  | _ => none }
def cellsApartRow : OpenClaim := { program := "ytkilibdalgnghaa", sum := "d87ea294e96f7040ac50c86fb4a8e5e787881f19789f76b4f75252ab36414d9b", func := "waymaster/waymasterlaw11.CellsApart", spec := "cellsApart", inPlace := ["sync/atomic.LoadUint32", "(*internal/sync.Mutex).Lock", "internal/race.Disable", "sync/atomic.CompareAndSwapInt32", "internal/race.Enable", "internal/race.Acquire", "(*internal/sync.Mutex).lockSlow", "internal/sync.runtime_canSpin", "internal/sync.runtime_doSpin", "internal/sync.throw", "internal/sync.runtime_nanotime", "internal/sync.runtime_SemacquireMutex", "sync/atomic.AddInt32", "(*internal/sync.Mutex).Unlock", "internal/race.ReleaseMerge", "(*internal/sync.Mutex).unlockSlow", "internal/sync.fatal", "internal/sync.runtime_Semrelease", "sync/atomic.StoreUint32", "sync/atomic.CompareAndSwapInt64", "sync/atomic.LoadInt64", "sync/atomic.StoreInt64"], unfollowed := true, recurses := true, apart := false }
def CellsApartSaid : Prop := cellsApartRow.holds Try.pinned (OpenSpec.ofChange cellsApartSpec)

/-- ITS FALSE NEIGHBOUR: 'it returns false'. Refute it at one input. -/
def cellsApartWrong : ChangeSpec := { name := "cellsApart", fn := fun _ => fun
  | [d1, d2, d3, d4] => { results := [.lit (.bool false)], args := [d1, d2, d3, d4] }
  | _ => none }
def CellsApartWrongFalsely : Prop := cellsApartRow.holds Try.pinned (OpenSpec.ofChange cellsApartWrong)

/-- 'waymasterlaw11.CellsReads': WHATEVER THE INPUT: true; the input reads as it did. -/
def cellsReadsSpec : ChangeSpec := { name := "cellsReads", fn := fun _ => fun
  | [d] => { results := [.lit (.bool true)], args := [d] }
  | _ => none }
def cellsReadsRow : OpenClaim := { program := "ytkilibdalgnghaa", sum := "d87ea294e96f7040ac50c86fb4a8e5e787881f19789f76b4f75252ab36414d9b", func := "waymaster/waymasterlaw11.CellsReads", spec := "cellsReads", inPlace := ["sync/atomic.LoadUint32", "(*internal/sync.Mutex).Lock", "internal/race.Disable", "sync/atomic.CompareAndSwapInt32", "internal/race.Enable", "internal/race.Acquire", "(*internal/sync.Mutex).lockSlow", "internal/sync.runtime_canSpin", "internal/sync.runtime_doSpin", "internal/sync.throw", "internal/sync.runtime_nanotime", "internal/sync.runtime_SemacquireMutex", "sync/atomic.AddInt32", "(*internal/sync.Mutex).Unlock", "internal/race.ReleaseMerge", "(*internal/sync.Mutex).unlockSlow", "internal/sync.fatal", "internal/sync.runtime_Semrelease", "sync/atomic.StoreUint32", "sync/atomic.CompareAndSwapInt64", "sync/atomic.LoadInt64", "sync/atomic.StoreInt64"], unfollowed := true, recurses := true, apart := false }
def CellsReadsSaid : Prop := cellsReadsRow.holds Try.pinned (OpenSpec.ofChange cellsReadsSpec)

/-- ITS FALSE NEIGHBOUR: 'it returns false'. Refute it at one input. -/
def cellsReadsWrong : ChangeSpec := { name := "cellsReads", fn := fun _ => fun
  | [d] => { results := [.lit (.bool false)], args := [d] }
  | _ => none }
def CellsReadsWrongFalsely : Prop := cellsReadsRow.holds Try.pinned (OpenSpec.ofChange cellsReadsWrong)

/-- 'waymasterlaw11.CellsDo': WHATEVER THE INPUT: true; the input reads as it did. -/
def cellsDoSpec : ChangeSpec := { name := "cellsDo", fn := fun _ => fun
  | [d1, d2, d3, d4] => { results := [.lit (.bool true)], args := [d1, d2, d3, d4] }
  | _ => none }
def cellsDoRow : OpenClaim := { program := "ytkilibdalgnghaa", sum := "d87ea294e96f7040ac50c86fb4a8e5e787881f19789f76b4f75252ab36414d9b", func := "waymaster/waymasterlaw11.CellsDo", spec := "cellsDo", inPlace := ["sync/atomic.LoadUint32", "(*internal/sync.Mutex).Lock", "internal/race.Disable", "sync/atomic.CompareAndSwapInt32", "internal/race.Enable", "internal/race.Acquire", "(*internal/sync.Mutex).lockSlow", "internal/sync.runtime_canSpin", "internal/sync.runtime_doSpin", "internal/sync.throw", "internal/sync.runtime_nanotime", "internal/sync.runtime_SemacquireMutex", "sync/atomic.AddInt32", "(*internal/sync.Mutex).Unlock", "internal/race.ReleaseMerge", "(*internal/sync.Mutex).unlockSlow", "internal/sync.fatal", "internal/sync.runtime_Semrelease", "sync/atomic.StoreUint32", "sync/atomic.CompareAndSwapInt64", "sync/atomic.LoadInt64", "sync/atomic.StoreInt64", "sync/atomic.AddInt64"], unfollowed := true, recurses := true, apart := false }
def CellsDoSaid : Prop := cellsDoRow.holds Try.pinned (OpenSpec.ofChange cellsDoSpec)

/-- ITS FALSE NEIGHBOUR: 'it returns false'. Refute it at one input. -/
def cellsDoWrong : ChangeSpec := { name := "cellsDo", fn := fun _ => fun
  | [d1, d2, d3, d4] => { results := [.lit (.bool false)], args := [d1, d2, d3, d4] }
  | _ => none }
def CellsDoWrongFalsely : Prop := cellsDoRow.holds Try.pinned (OpenSpec.ofChange cellsDoWrong)

/-- 'waymasterlaw11.CellsNone': WHATEVER THE INPUT: true; the input reads as it did. -/
def cellsNoneSpec : ChangeSpec := { name := "cellsNone", fn := fun _ => fun
  | [d1, d2, d3, d4] => { results := [.lit (.bool true)], args := [d1, d2, d3, d4] }
  | _ => none }
def cellsNoneRow : OpenClaim := { program := "ytkilibdalgnghaa", sum := "d87ea294e96f7040ac50c86fb4a8e5e787881f19789f76b4f75252ab36414d9b", func := "waymaster/waymasterlaw11.CellsNone", spec := "cellsNone", inPlace := ["sync/atomic.LoadUint32", "(*internal/sync.Mutex).Lock", "internal/race.Disable", "sync/atomic.CompareAndSwapInt32", "internal/race.Enable", "internal/race.Acquire", "(*internal/sync.Mutex).lockSlow", "internal/sync.runtime_canSpin", "internal/sync.runtime_doSpin", "internal/sync.throw", "internal/sync.runtime_nanotime", "internal/sync.runtime_SemacquireMutex", "sync/atomic.AddInt32", "(*internal/sync.Mutex).Unlock", "internal/race.ReleaseMerge", "(*internal/sync.Mutex).unlockSlow", "internal/sync.fatal", "internal/sync.runtime_Semrelease", "sync/atomic.StoreUint32", "sync/atomic.CompareAndSwapInt64", "sync/atomic.LoadInt64", "sync/atomic.AddInt64", "sync/atomic.StoreInt64"], unfollowed := true, recurses := true, apart := false }
def CellsNoneSaid : Prop := cellsNoneRow.holds Try.pinned (OpenSpec.ofChange cellsNoneSpec)

/-- ITS FALSE NEIGHBOUR: 'it returns false'. Refute it at one input. -/
def cellsNoneWrong : ChangeSpec := { name := "cellsNone", fn := fun _ => fun
  | [d1, d2, d3, d4] => { results := [.lit (.bool false)], args := [d1, d2, d3, d4] }
  | _ => none }
def CellsNoneWrongFalsely : Prop := cellsNoneRow.holds Try.pinned (OpenSpec.ofChange cellsNoneWrong)

/-- 'waymasterlaw12.TallySums': WHATEVER THE INPUT: true; the input reads as it did. -/
def tallySumsSpec : ChangeSpec := { name := "tallySums", fn := fun _ => fun
  | [d] => { results := [.lit (.bool true)], args := [d] }
  | _ => none }
def tallySumsRow : OpenClaim := { program := "ytkilibdalgnghaa", sum := "d87ea294e96f7040ac50c86fb4a8e5e787881f19789f76b4f75252ab36414d9b", func := "waymaster/waymasterlaw12.TallySums", spec := "tallySums", inPlace := ["sync/atomic.LoadUint32", "(*internal/sync.Mutex).Lock", "internal/race.Disable", "sync/atomic.CompareAndSwapInt32", "internal/race.Enable", "internal/race.Acquire", "(*internal/sync.Mutex).lockSlow", "internal/sync.runtime_canSpin", "internal/sync.runtime_doSpin", "internal/sync.throw", "internal/sync.runtime_nanotime", "internal/sync.runtime_SemacquireMutex", "sync/atomic.AddInt32", "(*internal/sync.Mutex).Unlock", "internal/race.ReleaseMerge", "(*internal/sync.Mutex).unlockSlow", "internal/sync.fatal", "internal/sync.runtime_Semrelease", "sync/atomic.StoreUint32", "sync/atomic.LoadInt64", "sync/atomic.CompareAndSwapInt64", "sync/atomic.AddInt64"], unfollowed := true, recurses := true, apart := false }
def TallySumsSaid : Prop := tallySumsRow.holds Try.pinned (OpenSpec.ofChange tallySumsSpec)

/-- ITS FALSE NEIGHBOUR: 'it returns false'. Refute it at one input. -/
def tallySumsWrong : ChangeSpec := { name := "tallySums", fn := fun _ => fun
  | [d] => { results := [.lit (.bool false)], args := [d] }
  | _ => none }
def TallySumsWrongFalsely : Prop := tallySumsRow.holds Try.pinned (OpenSpec.ofChange tallySumsWrong)

/-- 'waymasterlaw12.TallyApart': WHATEVER THE INPUT: true; the input reads as it did. -/
def tallyApartSpec : ChangeSpec := { name := "tallyApart", fn := fun _ => fun
  | [d1, d2, d3] => { results := [.lit (.bool true)], args := [d1, d2, d3] }
  | _ => none }
def tallyApartRow : OpenClaim := { program := "ytkilibdalgnghaa", sum := "d87ea294e96f7040ac50c86fb4a8e5e787881f19789f76b4f75252ab36414d9b", func := "waymaster/waymasterlaw12.TallyApart", spec := "tallyApart", inPlace := ["sync/atomic.LoadUint32", "(*internal/sync.Mutex).Lock", "internal/race.Disable", "sync/atomic.CompareAndSwapInt32", "internal/race.Enable", "internal/race.Acquire", "(*internal/sync.Mutex).lockSlow", "internal/sync.runtime_canSpin", "internal/sync.runtime_doSpin", "internal/sync.throw", "internal/sync.runtime_nanotime", "internal/sync.runtime_SemacquireMutex", "sync/atomic.AddInt32", "(*internal/sync.Mutex).Unlock", "internal/race.ReleaseMerge", "(*internal/sync.Mutex).unlockSlow", "internal/sync.fatal", "internal/sync.runtime_Semrelease", "sync/atomic.StoreUint32", "sync/atomic.LoadInt64", "sync/atomic.CompareAndSwapInt64", "sync/atomic.AddInt64"], unfollowed := true, recurses := true, apart := false }
def TallyApartSaid : Prop := tallyApartRow.holds Try.pinned (OpenSpec.ofChange tallyApartSpec)

/-- ITS FALSE NEIGHBOUR: 'it returns false'. Refute it at one input. -/
def tallyApartWrong : ChangeSpec := { name := "tallyApart", fn := fun _ => fun
  | [d1, d2, d3] => { results := [.lit (.bool false)], args := [d1, d2, d3] }
  | _ => none }
def TallyApartWrongFalsely : Prop := tallyApartRow.holds Try.pinned (OpenSpec.ofChange tallyApartWrong)

/-- 'waymasterlaw12.TallyRetries': WHATEVER THE INPUT: true; the input reads as it did. -/
def tallyRetriesSpec : ChangeSpec := { name := "tallyRetries", fn := fun _ => fun
  | [d1, d2] => { results := [.lit (.bool true)], args := [d1, d2] }
  | _ => none }
def tallyRetriesRow : OpenClaim := { program := "ytkilibdalgnghaa", sum := "d87ea294e96f7040ac50c86fb4a8e5e787881f19789f76b4f75252ab36414d9b", func := "waymaster/waymasterlaw12.TallyRetries", spec := "tallyRetries", inPlace := ["sync/atomic.LoadUint32", "(*internal/sync.Mutex).Lock", "internal/race.Disable", "sync/atomic.CompareAndSwapInt32", "internal/race.Enable", "internal/race.Acquire", "(*internal/sync.Mutex).lockSlow", "internal/sync.runtime_canSpin", "internal/sync.runtime_doSpin", "internal/sync.throw", "internal/sync.runtime_nanotime", "internal/sync.runtime_SemacquireMutex", "sync/atomic.AddInt32", "(*internal/sync.Mutex).Unlock", "internal/race.ReleaseMerge", "(*internal/sync.Mutex).unlockSlow", "internal/sync.fatal", "internal/sync.runtime_Semrelease", "sync/atomic.StoreUint32", "sync/atomic.LoadInt64", "sync/atomic.CompareAndSwapInt64", "sync/atomic.AddInt64"], unfollowed := true, recurses := true, apart := false }
def TallyRetriesSaid : Prop := tallyRetriesRow.holds Try.pinned (OpenSpec.ofChange tallyRetriesSpec)

/-- ITS FALSE NEIGHBOUR: 'it returns false'. Refute it at one input. -/
def tallyRetriesWrong : ChangeSpec := { name := "tallyRetries", fn := fun _ => fun
  | [d1, d2] => { results := [.lit (.bool false)], args := [d1, d2] }
  | _ => none }
def TallyRetriesWrongFalsely : Prop := tallyRetriesRow.holds Try.pinned (OpenSpec.ofChange tallyRetriesWrong)

/-- 'waymasterlaw12.TallyDoes': WHATEVER THE INPUT: true; the input reads as it did. -/
def tallyDoesSpec : ChangeSpec := { name := "tallyDoes", fn := fun _ => fun
  | [d1, d2] => { results := [.lit (.bool true)], args := [d1, d2] }
  | _ => none }
def tallyDoesRow : OpenClaim := { program := "ytkilibdalgnghaa", sum := "d87ea294e96f7040ac50c86fb4a8e5e787881f19789f76b4f75252ab36414d9b", func := "waymaster/waymasterlaw12.TallyDoes", spec := "tallyDoes", inPlace := ["sync/atomic.LoadUint32", "(*internal/sync.Mutex).Lock", "internal/race.Disable", "sync/atomic.CompareAndSwapInt32", "internal/race.Enable", "internal/race.Acquire", "(*internal/sync.Mutex).lockSlow", "internal/sync.runtime_canSpin", "internal/sync.runtime_doSpin", "internal/sync.throw", "internal/sync.runtime_nanotime", "internal/sync.runtime_SemacquireMutex", "sync/atomic.AddInt32", "(*internal/sync.Mutex).Unlock", "internal/race.ReleaseMerge", "(*internal/sync.Mutex).unlockSlow", "internal/sync.fatal", "internal/sync.runtime_Semrelease", "sync/atomic.StoreUint32", "sync/atomic.LoadInt64", "sync/atomic.CompareAndSwapInt64", "sync/atomic.AddInt64"], unfollowed := true, recurses := true, apart := false }
def TallyDoesSaid : Prop := tallyDoesRow.holds Try.pinned (OpenSpec.ofChange tallyDoesSpec)

/-- ITS FALSE NEIGHBOUR: 'it returns false'. Refute it at one input. -/
def tallyDoesWrong : ChangeSpec := { name := "tallyDoes", fn := fun _ => fun
  | [d1, d2] => { results := [.lit (.bool false)], args := [d1, d2] }
  | _ => none }
def TallyDoesWrongFalsely : Prop := tallyDoesRow.holds Try.pinned (OpenSpec.ofChange tallyDoesWrong)

/-- 'waymasterlaw12.TallyNone': WHATEVER THE INPUT: true; the input reads as it did. -/
def tallyNoneSpec : ChangeSpec := { name := "tallyNone", fn := fun _ => fun
  | [d1, d2] => { results := [.lit (.bool true)], args := [d1, d2] }
  | _ => none }
def tallyNoneRow : OpenClaim := { program := "ytkilibdalgnghaa", sum := "d87ea294e96f7040ac50c86fb4a8e5e787881f19789f76b4f75252ab36414d9b", func := "waymaster/waymasterlaw12.TallyNone", spec := "tallyNone", inPlace := ["sync/atomic.LoadUint32", "(*internal/sync.Mutex).Lock", "internal/race.Disable", "sync/atomic.CompareAndSwapInt32", "internal/race.Enable", "internal/race.Acquire", "(*internal/sync.Mutex).lockSlow", "internal/sync.runtime_canSpin", "internal/sync.runtime_doSpin", "internal/sync.throw", "internal/sync.runtime_nanotime", "internal/sync.runtime_SemacquireMutex", "sync/atomic.AddInt32", "(*internal/sync.Mutex).Unlock", "internal/race.ReleaseMerge", "(*internal/sync.Mutex).unlockSlow", "internal/sync.fatal", "internal/sync.runtime_Semrelease", "sync/atomic.StoreUint32", "sync/atomic.LoadInt64", "sync/atomic.CompareAndSwapInt64", "sync/atomic.AddInt64"], unfollowed := true, recurses := true, apart := false }
def TallyNoneSaid : Prop := tallyNoneRow.holds Try.pinned (OpenSpec.ofChange tallyNoneSpec)

/-- ITS FALSE NEIGHBOUR: 'it returns false'. Refute it at one input. -/
def tallyNoneWrong : ChangeSpec := { name := "tallyNone", fn := fun _ => fun
  | [d1, d2] => { results := [.lit (.bool false)], args := [d1, d2] }
  | _ => none }
def TallyNoneWrongFalsely : Prop := tallyNoneRow.holds Try.pinned (OpenSpec.ofChange tallyNoneWrong)

/-- 'waymasterlaw12.TallyReads': WHATEVER THE INPUT: true; the input reads as it did. -/
def tallyReadsSpec : ChangeSpec := { name := "tallyReads", fn := fun _ => fun
  | [d] => { results := [.lit (.bool true)], args := [d] }
  | _ => none }
def tallyReadsRow : OpenClaim := { program := "ytkilibdalgnghaa", sum := "d87ea294e96f7040ac50c86fb4a8e5e787881f19789f76b4f75252ab36414d9b", func := "waymaster/waymasterlaw12.TallyReads", spec := "tallyReads", inPlace := ["sync/atomic.LoadUint32", "(*internal/sync.Mutex).Lock", "internal/race.Disable", "sync/atomic.CompareAndSwapInt32", "internal/race.Enable", "internal/race.Acquire", "(*internal/sync.Mutex).lockSlow", "internal/sync.runtime_canSpin", "internal/sync.runtime_doSpin", "internal/sync.throw", "internal/sync.runtime_nanotime", "internal/sync.runtime_SemacquireMutex", "sync/atomic.AddInt32", "(*internal/sync.Mutex).Unlock", "internal/race.ReleaseMerge", "(*internal/sync.Mutex).unlockSlow", "internal/sync.fatal", "internal/sync.runtime_Semrelease", "sync/atomic.StoreUint32", "sync/atomic.LoadInt64", "sync/atomic.CompareAndSwapInt64", "sync/atomic.AddInt64"], unfollowed := true, recurses := true, apart := false }
def TallyReadsSaid : Prop := tallyReadsRow.holds Try.pinned (OpenSpec.ofChange tallyReadsSpec)

/-- ITS FALSE NEIGHBOUR: 'it returns false'. Refute it at one input. -/
def tallyReadsWrong : ChangeSpec := { name := "tallyReads", fn := fun _ => fun
  | [d] => { results := [.lit (.bool false)], args := [d] }
  | _ => none }
def TallyReadsWrongFalsely : Prop := tallyReadsRow.holds Try.pinned (OpenSpec.ofChange tallyReadsWrong)

/-- 'waymasterlaw12.TallyAdds': WHATEVER THE INPUT: true; the input reads as it did. -/
def tallyAddsSpec : ChangeSpec := { name := "tallyAdds", fn := fun _ => fun
  | [d] => { results := [.lit (.bool true)], args := [d] }
  | _ => none }
def tallyAddsRow : OpenClaim := { program := "ytkilibdalgnghaa", sum := "d87ea294e96f7040ac50c86fb4a8e5e787881f19789f76b4f75252ab36414d9b", func := "waymaster/waymasterlaw12.TallyAdds", spec := "tallyAdds", inPlace := ["sync/atomic.LoadUint32", "(*internal/sync.Mutex).Lock", "internal/race.Disable", "sync/atomic.CompareAndSwapInt32", "internal/race.Enable", "internal/race.Acquire", "(*internal/sync.Mutex).lockSlow", "internal/sync.runtime_canSpin", "internal/sync.runtime_doSpin", "internal/sync.throw", "internal/sync.runtime_nanotime", "internal/sync.runtime_SemacquireMutex", "sync/atomic.AddInt32", "(*internal/sync.Mutex).Unlock", "internal/race.ReleaseMerge", "(*internal/sync.Mutex).unlockSlow", "internal/sync.fatal", "internal/sync.runtime_Semrelease", "sync/atomic.StoreUint32", "sync/atomic.LoadInt64", "sync/atomic.CompareAndSwapInt64", "sync/atomic.AddInt64"], unfollowed := true, recurses := true, apart := false }
def TallyAddsSaid : Prop := tallyAddsRow.holds Try.pinned (OpenSpec.ofChange tallyAddsSpec)

/-- ITS FALSE NEIGHBOUR: 'it returns false'. Refute it at one input. -/
def tallyAddsWrong : ChangeSpec := { name := "tallyAdds", fn := fun _ => fun
  | [d] => { results := [.lit (.bool false)], args := [d] }
  | _ => none }
def TallyAddsWrongFalsely : Prop := tallyAddsRow.holds Try.pinned (OpenSpec.ofChange tallyAddsWrong)

/- THE SECOND FORM. 'bulk': how many values and letters a reading holds, each counted each time it is reached (what is shared counts as often as it is met; a slice's spare places count too). A statement '..UptoSaid' is the law's where the arguments, and the package variables that the reading takes, are together of bulk at most 1048576: NARROWER than '..Said'. Prove '..Said' where nothing that the law and all that it calls make is longer than what came in: it says more and counts as full. Else prove '..UptoSaid'. A law counts once. -/
mutual
def uptoBulk {H : Type} : DataW H → Nat
  | .lit (.string bytes) => bytes.length + 1
  | .lit _ => 1
  | .nil => 1
  | .ptr d => uptoBulk d + 1
  | .slice elems spare => uptoBulkAll elems + uptoBulkAll spare + 1
  | .agg parts => uptoBulkAll parts + 1
  | .iface _ d => uptoBulk d + 1
  | .map entries => uptoBulkEntries entries + 1
  | .held _ => 1
def uptoBulkAll {H : Type} : List (DataW H) → Nat
  | [] => 0
  | d :: r => uptoBulk d + uptoBulkAll r
def uptoBulkEntries {H : Type} : List (Lit × DataW H) → Nat
  | [] => 0
  | x :: r => uptoBulkEntry x + uptoBulkEntries r
def uptoBulkEntry {H : Type} : Lit × DataW H → Nat
  | (.string bytes, d) => bytes.length + uptoBulk d + 1
  | (_, d) => uptoBulk d + 1
 end
def uptoSmall : (H : Type) → List (DataW H) → Bool := fun _ ds => decide (uptoBulkAll ds ≤ 1048576)
def OpenSpec.upto (s : _root_.Go.ChangeSpec) : _root_.Go.OpenSpec := { _root_.Go.OpenSpec.ofChange s with cond := some uptoSmall }

/-- 'waymasterlaw11.CellsLocks', WHERE WHAT IT READS IS OF BULK AT MOST 1048576: true; the input reads as it did. -/
def cellsLocksUptoRow : OpenClaim := { program := "ytkilibdalgnghaa", sum := "d87ea294e96f7040ac50c86fb4a8e5e787881f19789f76b4f75252ab36414d9b", func := "waymaster/waymasterlaw11.CellsLocks", spec := "cellsLocks", inPlace := ["sync/atomic.LoadUint32", "(*internal/sync.Mutex).Lock", "internal/race.Disable", "sync/atomic.CompareAndSwapInt32", "internal/race.Enable", "internal/race.Acquire", "(*internal/sync.Mutex).lockSlow", "internal/sync.runtime_canSpin", "internal/sync.runtime_doSpin", "internal/sync.throw", "internal/sync.runtime_nanotime", "internal/sync.runtime_SemacquireMutex", "sync/atomic.AddInt32", "(*internal/sync.Mutex).Unlock", "internal/race.ReleaseMerge", "(*internal/sync.Mutex).unlockSlow", "internal/sync.fatal", "internal/sync.runtime_Semrelease", "sync/atomic.StoreUint32", "sync/atomic.CompareAndSwapInt64", "sync/atomic.LoadInt64"], unfollowed := true, recurses := true, apart := false, narrowed := true }
def CellsLocksUptoSaid : Prop := cellsLocksUptoRow.holds Try.pinned (OpenSpec.upto cellsLocksSpec)

/-- 'waymasterlaw11.CellsSwaps', WHERE WHAT IT READS IS OF BULK AT MOST 1048576: true; the input reads as it did. -/
def cellsSwapsUptoRow : OpenClaim := { program := "ytkilibdalgnghaa", sum := "d87ea294e96f7040ac50c86fb4a8e5e787881f19789f76b4f75252ab36414d9b", func := "waymaster/waymasterlaw11.CellsSwaps", spec := "cellsSwaps", inPlace := ["sync/atomic.LoadUint32", "(*internal/sync.Mutex).Lock", "internal/race.Disable", "sync/atomic.CompareAndSwapInt32", "internal/race.Enable", "internal/race.Acquire", "(*internal/sync.Mutex).lockSlow", "internal/sync.runtime_canSpin", "internal/sync.runtime_doSpin", "internal/sync.throw", "internal/sync.runtime_nanotime", "internal/sync.runtime_SemacquireMutex", "sync/atomic.AddInt32", "(*internal/sync.Mutex).Unlock", "internal/race.ReleaseMerge", "(*internal/sync.Mutex).unlockSlow", "internal/sync.fatal", "internal/sync.runtime_Semrelease", "sync/atomic.StoreUint32", "sync/atomic.CompareAndSwapInt64", "sync/atomic.LoadInt64", "sync/atomic.StoreInt64", "sync/atomic.AddInt64"], unfollowed := true, recurses := true, apart := false, narrowed := true }
def CellsSwapsUptoSaid : Prop := cellsSwapsUptoRow.holds Try.pinned (OpenSpec.upto cellsSwapsSpec)

/-- 'waymasterlaw11.CellsCounts', WHERE WHAT IT READS IS OF BULK AT MOST 1048576: true; the input reads as it did. -/
def cellsCountsUptoRow : OpenClaim := { program := "ytkilibdalgnghaa", sum := "d87ea294e96f7040ac50c86fb4a8e5e787881f19789f76b4f75252ab36414d9b", func := "waymaster/waymasterlaw11.CellsCounts", spec := "cellsCounts", inPlace := ["sync/atomic.LoadUint32", "(*internal/sync.Mutex).Lock", "internal/race.Disable", "sync/atomic.CompareAndSwapInt32", "internal/race.Enable", "internal/race.Acquire", "(*internal/sync.Mutex).lockSlow", "internal/sync.runtime_canSpin", "internal/sync.runtime_doSpin", "internal/sync.throw", "internal/sync.runtime_nanotime", "internal/sync.runtime_SemacquireMutex", "sync/atomic.AddInt32", "(*internal/sync.Mutex).Unlock", "internal/race.ReleaseMerge", "(*internal/sync.Mutex).unlockSlow", "internal/sync.fatal", "internal/sync.runtime_Semrelease", "sync/atomic.StoreUint32", "sync/atomic.CompareAndSwapInt64", "sync/atomic.LoadInt64"], unfollowed := true, recurses := true, apart := false, narrowed := true }
def CellsCountsUptoSaid : Prop := cellsCountsUptoRow.holds Try.pinned (OpenSpec.upto cellsCountsSpec)

/-- 'waymasterlaw11.CellsApart', WHERE WHAT IT READS IS OF BULK AT MOST 1048576: true; the input reads as it did. -/
def cellsApartUptoRow : OpenClaim := { program := "ytkilibdalgnghaa", sum := "d87ea294e96f7040ac50c86fb4a8e5e787881f19789f76b4f75252ab36414d9b", func := "waymaster/waymasterlaw11.CellsApart", spec := "cellsApart", inPlace := ["sync/atomic.LoadUint32", "(*internal/sync.Mutex).Lock", "internal/race.Disable", "sync/atomic.CompareAndSwapInt32", "internal/race.Enable", "internal/race.Acquire", "(*internal/sync.Mutex).lockSlow", "internal/sync.runtime_canSpin", "internal/sync.runtime_doSpin", "internal/sync.throw", "internal/sync.runtime_nanotime", "internal/sync.runtime_SemacquireMutex", "sync/atomic.AddInt32", "(*internal/sync.Mutex).Unlock", "internal/race.ReleaseMerge", "(*internal/sync.Mutex).unlockSlow", "internal/sync.fatal", "internal/sync.runtime_Semrelease", "sync/atomic.StoreUint32", "sync/atomic.CompareAndSwapInt64", "sync/atomic.LoadInt64", "sync/atomic.StoreInt64"], unfollowed := true, recurses := true, apart := false, narrowed := true }
def CellsApartUptoSaid : Prop := cellsApartUptoRow.holds Try.pinned (OpenSpec.upto cellsApartSpec)

/-- 'waymasterlaw11.CellsReads', WHERE WHAT IT READS IS OF BULK AT MOST 1048576: true; the input reads as it did. -/
def cellsReadsUptoRow : OpenClaim := { program := "ytkilibdalgnghaa", sum := "d87ea294e96f7040ac50c86fb4a8e5e787881f19789f76b4f75252ab36414d9b", func := "waymaster/waymasterlaw11.CellsReads", spec := "cellsReads", inPlace := ["sync/atomic.LoadUint32", "(*internal/sync.Mutex).Lock", "internal/race.Disable", "sync/atomic.CompareAndSwapInt32", "internal/race.Enable", "internal/race.Acquire", "(*internal/sync.Mutex).lockSlow", "internal/sync.runtime_canSpin", "internal/sync.runtime_doSpin", "internal/sync.throw", "internal/sync.runtime_nanotime", "internal/sync.runtime_SemacquireMutex", "sync/atomic.AddInt32", "(*internal/sync.Mutex).Unlock", "internal/race.ReleaseMerge", "(*internal/sync.Mutex).unlockSlow", "internal/sync.fatal", "internal/sync.runtime_Semrelease", "sync/atomic.StoreUint32", "sync/atomic.CompareAndSwapInt64", "sync/atomic.LoadInt64", "sync/atomic.StoreInt64"], unfollowed := true, recurses := true, apart := false, narrowed := true }
def CellsReadsUptoSaid : Prop := cellsReadsUptoRow.holds Try.pinned (OpenSpec.upto cellsReadsSpec)

/-- 'waymasterlaw11.CellsDo', WHERE WHAT IT READS IS OF BULK AT MOST 1048576: true; the input reads as it did. -/
def cellsDoUptoRow : OpenClaim := { program := "ytkilibdalgnghaa", sum := "d87ea294e96f7040ac50c86fb4a8e5e787881f19789f76b4f75252ab36414d9b", func := "waymaster/waymasterlaw11.CellsDo", spec := "cellsDo", inPlace := ["sync/atomic.LoadUint32", "(*internal/sync.Mutex).Lock", "internal/race.Disable", "sync/atomic.CompareAndSwapInt32", "internal/race.Enable", "internal/race.Acquire", "(*internal/sync.Mutex).lockSlow", "internal/sync.runtime_canSpin", "internal/sync.runtime_doSpin", "internal/sync.throw", "internal/sync.runtime_nanotime", "internal/sync.runtime_SemacquireMutex", "sync/atomic.AddInt32", "(*internal/sync.Mutex).Unlock", "internal/race.ReleaseMerge", "(*internal/sync.Mutex).unlockSlow", "internal/sync.fatal", "internal/sync.runtime_Semrelease", "sync/atomic.StoreUint32", "sync/atomic.CompareAndSwapInt64", "sync/atomic.LoadInt64", "sync/atomic.StoreInt64", "sync/atomic.AddInt64"], unfollowed := true, recurses := true, apart := false, narrowed := true }
def CellsDoUptoSaid : Prop := cellsDoUptoRow.holds Try.pinned (OpenSpec.upto cellsDoSpec)

/-- 'waymasterlaw11.CellsNone', WHERE WHAT IT READS IS OF BULK AT MOST 1048576: true; the input reads as it did. -/
def cellsNoneUptoRow : OpenClaim := { program := "ytkilibdalgnghaa", sum := "d87ea294e96f7040ac50c86fb4a8e5e787881f19789f76b4f75252ab36414d9b", func := "waymaster/waymasterlaw11.CellsNone", spec := "cellsNone", inPlace := ["sync/atomic.LoadUint32", "(*internal/sync.Mutex).Lock", "internal/race.Disable", "sync/atomic.CompareAndSwapInt32", "internal/race.Enable", "internal/race.Acquire", "(*internal/sync.Mutex).lockSlow", "internal/sync.runtime_canSpin", "internal/sync.runtime_doSpin", "internal/sync.throw", "internal/sync.runtime_nanotime", "internal/sync.runtime_SemacquireMutex", "sync/atomic.AddInt32", "(*internal/sync.Mutex).Unlock", "internal/race.ReleaseMerge", "(*internal/sync.Mutex).unlockSlow", "internal/sync.fatal", "internal/sync.runtime_Semrelease", "sync/atomic.StoreUint32", "sync/atomic.CompareAndSwapInt64", "sync/atomic.LoadInt64", "sync/atomic.AddInt64", "sync/atomic.StoreInt64"], unfollowed := true, recurses := true, apart := false, narrowed := true }
def CellsNoneUptoSaid : Prop := cellsNoneUptoRow.holds Try.pinned (OpenSpec.upto cellsNoneSpec)

/-- 'waymasterlaw12.TallySums', WHERE WHAT IT READS IS OF BULK AT MOST 1048576: true; the input reads as it did. -/
def tallySumsUptoRow : OpenClaim := { program := "ytkilibdalgnghaa", sum := "d87ea294e96f7040ac50c86fb4a8e5e787881f19789f76b4f75252ab36414d9b", func := "waymaster/waymasterlaw12.TallySums", spec := "tallySums", inPlace := ["sync/atomic.LoadUint32", "(*internal/sync.Mutex).Lock", "internal/race.Disable", "sync/atomic.CompareAndSwapInt32", "internal/race.Enable", "internal/race.Acquire", "(*internal/sync.Mutex).lockSlow", "internal/sync.runtime_canSpin", "internal/sync.runtime_doSpin", "internal/sync.throw", "internal/sync.runtime_nanotime", "internal/sync.runtime_SemacquireMutex", "sync/atomic.AddInt32", "(*internal/sync.Mutex).Unlock", "internal/race.ReleaseMerge", "(*internal/sync.Mutex).unlockSlow", "internal/sync.fatal", "internal/sync.runtime_Semrelease", "sync/atomic.StoreUint32", "sync/atomic.LoadInt64", "sync/atomic.CompareAndSwapInt64", "sync/atomic.AddInt64"], unfollowed := true, recurses := true, apart := false, narrowed := true }
def TallySumsUptoSaid : Prop := tallySumsUptoRow.holds Try.pinned (OpenSpec.upto tallySumsSpec)

/-- 'waymasterlaw12.TallyApart', WHERE WHAT IT READS IS OF BULK AT MOST 1048576: true; the input reads as it did. -/
def tallyApartUptoRow : OpenClaim := { program := "ytkilibdalgnghaa", sum := "d87ea294e96f7040ac50c86fb4a8e5e787881f19789f76b4f75252ab36414d9b", func := "waymaster/waymasterlaw12.TallyApart", spec := "tallyApart", inPlace := ["sync/atomic.LoadUint32", "(*internal/sync.Mutex).Lock", "internal/race.Disable", "sync/atomic.CompareAndSwapInt32", "internal/race.Enable", "internal/race.Acquire", "(*internal/sync.Mutex).lockSlow", "internal/sync.runtime_canSpin", "internal/sync.runtime_doSpin", "internal/sync.throw", "internal/sync.runtime_nanotime", "internal/sync.runtime_SemacquireMutex", "sync/atomic.AddInt32", "(*internal/sync.Mutex).Unlock", "internal/race.ReleaseMerge", "(*internal/sync.Mutex).unlockSlow", "internal/sync.fatal", "internal/sync.runtime_Semrelease", "sync/atomic.StoreUint32", "sync/atomic.LoadInt64", "sync/atomic.CompareAndSwapInt64", "sync/atomic.AddInt64"], unfollowed := true, recurses := true, apart := false, narrowed := true }
def TallyApartUptoSaid : Prop := tallyApartUptoRow.holds Try.pinned (OpenSpec.upto tallyApartSpec)

/-- 'waymasterlaw12.TallyRetries', WHERE WHAT IT READS IS OF BULK AT MOST 1048576: true; the input reads as it did. -/
def tallyRetriesUptoRow : OpenClaim := { program := "ytkilibdalgnghaa", sum := "d87ea294e96f7040ac50c86fb4a8e5e787881f19789f76b4f75252ab36414d9b", func := "waymaster/waymasterlaw12.TallyRetries", spec := "tallyRetries", inPlace := ["sync/atomic.LoadUint32", "(*internal/sync.Mutex).Lock", "internal/race.Disable", "sync/atomic.CompareAndSwapInt32", "internal/race.Enable", "internal/race.Acquire", "(*internal/sync.Mutex).lockSlow", "internal/sync.runtime_canSpin", "internal/sync.runtime_doSpin", "internal/sync.throw", "internal/sync.runtime_nanotime", "internal/sync.runtime_SemacquireMutex", "sync/atomic.AddInt32", "(*internal/sync.Mutex).Unlock", "internal/race.ReleaseMerge", "(*internal/sync.Mutex).unlockSlow", "internal/sync.fatal", "internal/sync.runtime_Semrelease", "sync/atomic.StoreUint32", "sync/atomic.LoadInt64", "sync/atomic.CompareAndSwapInt64", "sync/atomic.AddInt64"], unfollowed := true, recurses := true, apart := false, narrowed := true }
def TallyRetriesUptoSaid : Prop := tallyRetriesUptoRow.holds Try.pinned (OpenSpec.upto tallyRetriesSpec)

/-- 'waymasterlaw12.TallyDoes', WHERE WHAT IT READS IS OF BULK AT MOST 1048576: true; the input reads as it did. -/
def tallyDoesUptoRow : OpenClaim := { program := "ytkilibdalgnghaa", sum := "d87ea294e96f7040ac50c86fb4a8e5e787881f19789f76b4f75252ab36414d9b", func := "waymaster/waymasterlaw12.TallyDoes", spec := "tallyDoes", inPlace := ["sync/atomic.LoadUint32", "(*internal/sync.Mutex).Lock", "internal/race.Disable", "sync/atomic.CompareAndSwapInt32", "internal/race.Enable", "internal/race.Acquire", "(*internal/sync.Mutex).lockSlow", "internal/sync.runtime_canSpin", "internal/sync.runtime_doSpin", "internal/sync.throw", "internal/sync.runtime_nanotime", "internal/sync.runtime_SemacquireMutex", "sync/atomic.AddInt32", "(*internal/sync.Mutex).Unlock", "internal/race.ReleaseMerge", "(*internal/sync.Mutex).unlockSlow", "internal/sync.fatal", "internal/sync.runtime_Semrelease", "sync/atomic.StoreUint32", "sync/atomic.LoadInt64", "sync/atomic.CompareAndSwapInt64", "sync/atomic.AddInt64"], unfollowed := true, recurses := true, apart := false, narrowed := true }
def TallyDoesUptoSaid : Prop := tallyDoesUptoRow.holds Try.pinned (OpenSpec.upto tallyDoesSpec)

/-- 'waymasterlaw12.TallyNone', WHERE WHAT IT READS IS OF BULK AT MOST 1048576: true; the input reads as it did. -/
def tallyNoneUptoRow : OpenClaim := { program := "ytkilibdalgnghaa", sum := "d87ea294e96f7040ac50c86fb4a8e5e787881f19789f76b4f75252ab36414d9b", func := "waymaster/waymasterlaw12.TallyNone", spec := "tallyNone", inPlace := ["sync/atomic.LoadUint32", "(*internal/sync.Mutex).Lock", "internal/race.Disable", "sync/atomic.CompareAndSwapInt32", "internal/race.Enable", "internal/race.Acquire", "(*internal/sync.Mutex).lockSlow", "internal/sync.runtime_canSpin", "internal/sync.runtime_doSpin", "internal/sync.throw", "internal/sync.runtime_nanotime", "internal/sync.runtime_SemacquireMutex", "sync/atomic.AddInt32", "(*internal/sync.Mutex).Unlock", "internal/race.ReleaseMerge", "(*internal/sync.Mutex).unlockSlow", "internal/sync.fatal", "internal/sync.runtime_Semrelease", "sync/atomic.StoreUint32", "sync/atomic.LoadInt64", "sync/atomic.CompareAndSwapInt64", "sync/atomic.AddInt64"], unfollowed := true, recurses := true, apart := false, narrowed := true }
def TallyNoneUptoSaid : Prop := tallyNoneUptoRow.holds Try.pinned (OpenSpec.upto tallyNoneSpec)

/-- 'waymasterlaw12.TallyReads', WHERE WHAT IT READS IS OF BULK AT MOST 1048576: true; the input reads as it did. -/
def tallyReadsUptoRow : OpenClaim := { program := "ytkilibdalgnghaa", sum := "d87ea294e96f7040ac50c86fb4a8e5e787881f19789f76b4f75252ab36414d9b", func := "waymaster/waymasterlaw12.TallyReads", spec := "tallyReads", inPlace := ["sync/atomic.LoadUint32", "(*internal/sync.Mutex).Lock", "internal/race.Disable", "sync/atomic.CompareAndSwapInt32", "internal/race.Enable", "internal/race.Acquire", "(*internal/sync.Mutex).lockSlow", "internal/sync.runtime_canSpin", "internal/sync.runtime_doSpin", "internal/sync.throw", "internal/sync.runtime_nanotime", "internal/sync.runtime_SemacquireMutex", "sync/atomic.AddInt32", "(*internal/sync.Mutex).Unlock", "internal/race.ReleaseMerge", "(*internal/sync.Mutex).unlockSlow", "internal/sync.fatal", "internal/sync.runtime_Semrelease", "sync/atomic.StoreUint32", "sync/atomic.LoadInt64", "sync/atomic.CompareAndSwapInt64", "sync/atomic.AddInt64"], unfollowed := true, recurses := true, apart := false, narrowed := true }
def TallyReadsUptoSaid : Prop := tallyReadsUptoRow.holds Try.pinned (OpenSpec.upto tallyReadsSpec)

/-- 'waymasterlaw12.TallyAdds', WHERE WHAT IT READS IS OF BULK AT MOST 1048576: true; the input reads as it did. -/
def tallyAddsUptoRow : OpenClaim := { program := "ytkilibdalgnghaa", sum := "d87ea294e96f7040ac50c86fb4a8e5e787881f19789f76b4f75252ab36414d9b", func := "waymaster/waymasterlaw12.TallyAdds", spec := "tallyAdds", inPlace := ["sync/atomic.LoadUint32", "(*internal/sync.Mutex).Lock", "internal/race.Disable", "sync/atomic.CompareAndSwapInt32", "internal/race.Enable", "internal/race.Acquire", "(*internal/sync.Mutex).lockSlow", "internal/sync.runtime_canSpin", "internal/sync.runtime_doSpin", "internal/sync.throw", "internal/sync.runtime_nanotime", "internal/sync.runtime_SemacquireMutex", "sync/atomic.AddInt32", "(*internal/sync.Mutex).Unlock", "internal/race.ReleaseMerge", "(*internal/sync.Mutex).unlockSlow", "internal/sync.fatal", "internal/sync.runtime_Semrelease", "sync/atomic.StoreUint32", "sync/atomic.LoadInt64", "sync/atomic.CompareAndSwapInt64", "sync/atomic.AddInt64"], unfollowed := true, recurses := true, apart := false, narrowed := true }
def TallyAddsUptoSaid : Prop := tallyAddsUptoRow.holds Try.pinned (OpenSpec.upto tallyAddsSpec)

end Rows
end Go.Proofs.Ytkilibdalgnghaa
