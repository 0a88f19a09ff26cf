/-
  No cell of these rows narrows 'for every input' (looked for: loops, veiled, ifaces, maps, wideKeys, modest, calm, conditions, laid).
  DERIVED. THE GIVEN ROWS OF THIS SEAT. 13 by the template 'for every input the law returns true; each argument reads behind the call as it read before'; 0 by the template 'total and deterministic' (their statements: YtbpenkaficiodaaGreatTotals.lean).
  GIVEN WITH THE SEED: the statements are not yours to turn. If you find one false, say at which input.
  Laid BY PROGRAM, IN A SANDBOX (cutbox-rows.mjs): the forced cells as the released guide's own fill.sh prints them over the translation d19c32629e250991… (all of the seat's roots in one cut). By AI agents, Wed Nov 11 2026. No macro, syntax, notation, axiom, sorry.
-/
import Derived.Test.YtbpenkaficiodaaGreatChecked
import GoSem.Claim
import GoSem.ClaimJoined
import GoSem.ClaimMapViews
import Derived.JoinedTies
import Derived.KernelRfl
namespace Go.Proofs.YtbpenkaficiodaaGreat
/- THE CELL 'sum', in the pinned program and in every row, IS THE sha256 OF THE DUMP (.gsa) THAT YtbpenkaficiodaaGreatProg.lean LOADS. Nothing in Lean hashes anything: it is a label: what it is worth is what the hold of that sum in a sandbox is worth. -/
noncomputable def Tryz.pinned : Pinned := { name := "ytbpenkaficiodaagreat", sum := "d19c32629e2509916963847b6ad70285a849613a47069c684fb7cec8f7e910fe", checked := Tryz.checked }
namespace Rows
def none {H : Type} : Left H := { results := [], args := [] }

/-- 'spandrellaw12.AuditPassed': WHATEVER THE INPUT: true; the input reads as it did. -/
def auditPassedSpec : ChangeSpec := { name := "auditPassed", fn := fun _ => fun
  | [d1, d2, d3] => { results := [.lit (.bool true)], args := [d1, d2, d3] }
  | _ => none }
def auditPassedRow : OpenClaim := { program := "ytbpenkaficiodaagreat", sum := "d19c32629e2509916963847b6ad70285a849613a47069c684fb7cec8f7e910fe", func := "spandrel/spandrellaw12.AuditPassed", spec := "auditPassed", inPlace := ["internal/abi.NoEscape", "math/bits.Add64", "sync/atomic.LoadUint32", "(*internal/sync.Mutex).Lock", "internal/race.Disable", "sync/atomic.CompareAndSwapInt32", "internal/race.Enable", "internal/race.Acquire", "(*internal/sync.Mutex).lockSlow", "internal/sync.runtime_canSpin", "internal/sync.runtime_doSpin", "internal/sync.throw", "internal/sync.runtime_nanotime", "internal/sync.runtime_SemacquireMutex", "sync/atomic.AddInt32", "(*internal/sync.Mutex).Unlock", "internal/race.ReleaseMerge", "(*internal/sync.Mutex).unlockSlow", "internal/sync.fatal", "internal/sync.runtime_Semrelease", "sync/atomic.StoreUint32", "internal/bytealg.MakeNoZero"], unfollowed := true, recurses := true, named := ["math/bits.divideError", "math/bits.overflowError"], apart := false }
def AuditPassedSaid : Prop := auditPassedRow.holds Tryz.pinned (OpenSpec.ofChange auditPassedSpec)

/-- ITS FALSE NEIGHBOUR: 'it returns false'. Refute it at one input. -/
def auditPassedWrong : ChangeSpec := { name := "auditPassed", fn := fun _ => fun
  | [d1, d2, d3] => { results := [.lit (.bool false)], args := [d1, d2, d3] }
  | _ => none }
def AuditPassedWrongFalsely : Prop := auditPassedRow.holds Tryz.pinned (OpenSpec.ofChange auditPassedWrong)

/-- 'spandrellaw12.AuditMixings': WHATEVER THE INPUT: true; the input reads as it did. -/
def auditMixingsSpec : ChangeSpec := { name := "auditMixings", fn := fun _ => fun
  | [d1, d2, d3] => { results := [.lit (.bool true)], args := [d1, d2, d3] }
  | _ => none }
def auditMixingsRow : OpenClaim := { program := "ytbpenkaficiodaagreat", sum := "d19c32629e2509916963847b6ad70285a849613a47069c684fb7cec8f7e910fe", func := "spandrel/spandrellaw12.AuditMixings", spec := "auditMixings", inPlace := ["internal/abi.NoEscape", "math/bits.Add64", "sync/atomic.LoadUint32", "(*internal/sync.Mutex).Lock", "internal/race.Disable", "sync/atomic.CompareAndSwapInt32", "internal/race.Enable", "internal/race.Acquire", "(*internal/sync.Mutex).lockSlow", "internal/sync.runtime_canSpin", "internal/sync.runtime_doSpin", "internal/sync.throw", "internal/sync.runtime_nanotime", "internal/sync.runtime_SemacquireMutex", "sync/atomic.AddInt32", "(*internal/sync.Mutex).Unlock", "internal/race.ReleaseMerge", "(*internal/sync.Mutex).unlockSlow", "internal/sync.fatal", "internal/sync.runtime_Semrelease", "sync/atomic.StoreUint32", "internal/bytealg.MakeNoZero"], unfollowed := true, recurses := true, named := ["math/bits.divideError", "math/bits.overflowError"], apart := false }
def AuditMixingsSaid : Prop := auditMixingsRow.holds Tryz.pinned (OpenSpec.ofChange auditMixingsSpec)

/-- ITS FALSE NEIGHBOUR: 'it returns false'. Refute it at one input. -/
def auditMixingsWrong : ChangeSpec := { name := "auditMixings", fn := fun _ => fun
  | [d1, d2, d3] => { results := [.lit (.bool false)], args := [d1, d2, d3] }
  | _ => none }
def AuditMixingsWrongFalsely : Prop := auditMixingsRow.holds Tryz.pinned (OpenSpec.ofChange auditMixingsWrong)

/-- 'spandrellaw08.ShuffleMixes': WHATEVER THE INPUT: true; the input reads as it did. -/
def shuffleMixesSpec : ChangeSpec := { name := "shuffleMixes", fn := fun _ => fun
  | [d1, d2] => { results := [.lit (.bool true)], args := [d1, d2] }
  | _ => none }
def shuffleMixesRow : OpenClaim := { program := "ytbpenkaficiodaagreat", sum := "d19c32629e2509916963847b6ad70285a849613a47069c684fb7cec8f7e910fe", func := "spandrel/spandrellaw08.ShuffleMixes", spec := "shuffleMixes", inPlace := ["internal/abi.NoEscape", "math/bits.Add64", "sync/atomic.LoadUint32", "(*internal/sync.Mutex).Lock", "internal/race.Disable", "sync/atomic.CompareAndSwapInt32", "internal/race.Enable", "internal/race.Acquire", "(*internal/sync.Mutex).lockSlow", "internal/sync.runtime_canSpin", "internal/sync.runtime_doSpin", "internal/sync.throw", "internal/sync.runtime_nanotime", "internal/sync.runtime_SemacquireMutex", "sync/atomic.AddInt32", "(*internal/sync.Mutex).Unlock", "internal/race.ReleaseMerge", "(*internal/sync.Mutex).unlockSlow", "internal/sync.fatal", "internal/sync.runtime_Semrelease", "sync/atomic.StoreUint32", "internal/bytealg.MakeNoZero"], unfollowed := true, recurses := true, named := ["math/bits.divideError", "math/bits.overflowError"], apart := false }
def ShuffleMixesSaid : Prop := shuffleMixesRow.holds Tryz.pinned (OpenSpec.ofChange shuffleMixesSpec)

/-- ITS FALSE NEIGHBOUR: 'it returns false'. Refute it at one input. -/
def shuffleMixesWrong : ChangeSpec := { name := "shuffleMixes", fn := fun _ => fun
  | [d1, d2] => { results := [.lit (.bool false)], args := [d1, d2] }
  | _ => none }
def ShuffleMixesWrongFalsely : Prop := shuffleMixesRow.holds Tryz.pinned (OpenSpec.ofChange shuffleMixesWrong)

/-- 'spandrellaw08.ShuffleClaims': WHATEVER THE INPUT: true; the input reads as it did. -/
def shuffleClaimsSpec : ChangeSpec := { name := "shuffleClaims", fn := fun _ => fun
  | [d1, d2, d3] => { results := [.lit (.bool true)], args := [d1, d2, d3] }
  | _ => none }
def shuffleClaimsRow : OpenClaim := { program := "ytbpenkaficiodaagreat", sum := "d19c32629e2509916963847b6ad70285a849613a47069c684fb7cec8f7e910fe", func := "spandrel/spandrellaw08.ShuffleClaims", spec := "shuffleClaims", inPlace := ["internal/abi.NoEscape", "math/bits.Add64", "sync/atomic.LoadUint32", "(*internal/sync.Mutex).Lock", "internal/race.Disable", "sync/atomic.CompareAndSwapInt32", "internal/race.Enable", "internal/race.Acquire", "(*internal/sync.Mutex).lockSlow", "internal/sync.runtime_canSpin", "internal/sync.runtime_doSpin", "internal/sync.throw", "internal/sync.runtime_nanotime", "internal/sync.runtime_SemacquireMutex", "sync/atomic.AddInt32", "(*internal/sync.Mutex).Unlock", "internal/race.ReleaseMerge", "(*internal/sync.Mutex).unlockSlow", "internal/sync.fatal", "internal/sync.runtime_Semrelease", "sync/atomic.StoreUint32", "internal/bytealg.MakeNoZero"], unfollowed := true, recurses := true, named := ["math/bits.divideError", "math/bits.overflowError"], apart := false }
def ShuffleClaimsSaid : Prop := shuffleClaimsRow.holds Tryz.pinned (OpenSpec.ofChange shuffleClaimsSpec)

/-- ITS FALSE NEIGHBOUR: 'it returns false'. Refute it at one input. -/
def shuffleClaimsWrong : ChangeSpec := { name := "shuffleClaims", fn := fun _ => fun
  | [d1, d2, d3] => { results := [.lit (.bool false)], args := [d1, d2, d3] }
  | _ => none }
def ShuffleClaimsWrongFalsely : Prop := shuffleClaimsRow.holds Tryz.pinned (OpenSpec.ofChange shuffleClaimsWrong)

/-- 'spandrellaw08.ShuffleProves': WHATEVER THE INPUT: true; the input reads as it did. -/
def shuffleProvesSpec : ChangeSpec := { name := "shuffleProves", fn := fun _ => fun
  | [d1, d2] => { results := [.lit (.bool true)], args := [d1, d2] }
  | _ => none }
def shuffleProvesRow : OpenClaim := { program := "ytbpenkaficiodaagreat", sum := "d19c32629e2509916963847b6ad70285a849613a47069c684fb7cec8f7e910fe", func := "spandrel/spandrellaw08.ShuffleProves", spec := "shuffleProves", inPlace := ["internal/abi.NoEscape", "math/bits.Add64", "sync/atomic.LoadUint32", "(*internal/sync.Mutex).Lock", "internal/race.Disable", "sync/atomic.CompareAndSwapInt32", "internal/race.Enable", "internal/race.Acquire", "(*internal/sync.Mutex).lockSlow", "internal/sync.runtime_canSpin", "internal/sync.runtime_doSpin", "internal/sync.throw", "internal/sync.runtime_nanotime", "internal/sync.runtime_SemacquireMutex", "sync/atomic.AddInt32", "(*internal/sync.Mutex).Unlock", "internal/race.ReleaseMerge", "(*internal/sync.Mutex).unlockSlow", "internal/sync.fatal", "internal/sync.runtime_Semrelease", "sync/atomic.StoreUint32", "internal/bytealg.MakeNoZero"], unfollowed := true, recurses := true, named := ["math/bits.divideError", "math/bits.overflowError"], apart := false }
def ShuffleProvesSaid : Prop := shuffleProvesRow.holds Tryz.pinned (OpenSpec.ofChange shuffleProvesSpec)

/-- ITS FALSE NEIGHBOUR: 'it returns false'. Refute it at one input. -/
def shuffleProvesWrong : ChangeSpec := { name := "shuffleProves", fn := fun _ => fun
  | [d1, d2] => { results := [.lit (.bool false)], args := [d1, d2] }
  | _ => none }
def ShuffleProvesWrongFalsely : Prop := shuffleProvesRow.holds Tryz.pinned (OpenSpec.ofChange shuffleProvesWrong)

/-- 'spandrellaw08.ShuffleTakes': WHATEVER THE INPUT: true; the input reads as it did. -/
def shuffleTakesSpec : ChangeSpec := { name := "shuffleTakes", fn := fun _ => fun
  | [d1, d2, d3] => { results := [.lit (.bool true)], args := [d1, d2, d3] }
  | _ => none }
def shuffleTakesRow : OpenClaim := { program := "ytbpenkaficiodaagreat", sum := "d19c32629e2509916963847b6ad70285a849613a47069c684fb7cec8f7e910fe", func := "spandrel/spandrellaw08.ShuffleTakes", spec := "shuffleTakes", inPlace := ["internal/abi.NoEscape", "math/bits.Add64", "sync/atomic.LoadUint32", "(*internal/sync.Mutex).Lock", "internal/race.Disable", "sync/atomic.CompareAndSwapInt32", "internal/race.Enable", "internal/race.Acquire", "(*internal/sync.Mutex).lockSlow", "internal/sync.runtime_canSpin", "internal/sync.runtime_doSpin", "internal/sync.throw", "internal/sync.runtime_nanotime", "internal/sync.runtime_SemacquireMutex", "sync/atomic.AddInt32", "(*internal/sync.Mutex).Unlock", "internal/race.ReleaseMerge", "(*internal/sync.Mutex).unlockSlow", "internal/sync.fatal", "internal/sync.runtime_Semrelease", "sync/atomic.StoreUint32", "internal/bytealg.MakeNoZero"], unfollowed := true, recurses := true, named := ["math/bits.divideError", "math/bits.overflowError"], apart := false }
def ShuffleTakesSaid : Prop := shuffleTakesRow.holds Tryz.pinned (OpenSpec.ofChange shuffleTakesSpec)

/-- ITS FALSE NEIGHBOUR: 'it returns false'. Refute it at one input. -/
def shuffleTakesWrong : ChangeSpec := { name := "shuffleTakes", fn := fun _ => fun
  | [d1, d2, d3] => { results := [.lit (.bool false)], args := [d1, d2, d3] }
  | _ => none }
def ShuffleTakesWrongFalsely : Prop := shuffleTakesRow.holds Tryz.pinned (OpenSpec.ofChange shuffleTakesWrong)

/-- 'spandrellaw08.ShuffleTwice': WHATEVER THE INPUT: true; the input reads as it did. -/
def shuffleTwiceSpec : ChangeSpec := { name := "shuffleTwice", fn := fun _ => fun
  | [d1, d2, d3] => { results := [.lit (.bool true)], args := [d1, d2, d3] }
  | _ => none }
def shuffleTwiceRow : OpenClaim := { program := "ytbpenkaficiodaagreat", sum := "d19c32629e2509916963847b6ad70285a849613a47069c684fb7cec8f7e910fe", func := "spandrel/spandrellaw08.ShuffleTwice", spec := "shuffleTwice", inPlace := ["internal/abi.NoEscape", "math/bits.Add64", "sync/atomic.LoadUint32", "(*internal/sync.Mutex).Lock", "internal/race.Disable", "sync/atomic.CompareAndSwapInt32", "internal/race.Enable", "internal/race.Acquire", "(*internal/sync.Mutex).lockSlow", "internal/sync.runtime_canSpin", "internal/sync.runtime_doSpin", "internal/sync.throw", "internal/sync.runtime_nanotime", "internal/sync.runtime_SemacquireMutex", "sync/atomic.AddInt32", "(*internal/sync.Mutex).Unlock", "internal/race.ReleaseMerge", "(*internal/sync.Mutex).unlockSlow", "internal/sync.fatal", "internal/sync.runtime_Semrelease", "sync/atomic.StoreUint32", "internal/bytealg.MakeNoZero"], unfollowed := true, recurses := true, named := ["math/bits.divideError", "math/bits.overflowError"], apart := false }
def ShuffleTwiceSaid : Prop := shuffleTwiceRow.holds Tryz.pinned (OpenSpec.ofChange shuffleTwiceSpec)

/-- ITS FALSE NEIGHBOUR: 'it returns false'. Refute it at one input. -/
def shuffleTwiceWrong : ChangeSpec := { name := "shuffleTwice", fn := fun _ => fun
  | [d1, d2, d3] => { results := [.lit (.bool false)], args := [d1, d2, d3] }
  | _ => none }
def ShuffleTwiceWrongFalsely : Prop := shuffleTwiceRow.holds Tryz.pinned (OpenSpec.ofChange shuffleTwiceWrong)

/-- 'spandrellaw08.ShuffleOpens': WHATEVER THE INPUT: true; the input reads as it did. -/
def shuffleOpensSpec : ChangeSpec := { name := "shuffleOpens", fn := fun _ => fun
  | [d1, d2, d3] => { results := [.lit (.bool true)], args := [d1, d2, d3] }
  | _ => none }
def shuffleOpensRow : OpenClaim := { program := "ytbpenkaficiodaagreat", sum := "d19c32629e2509916963847b6ad70285a849613a47069c684fb7cec8f7e910fe", func := "spandrel/spandrellaw08.ShuffleOpens", spec := "shuffleOpens", inPlace := ["internal/abi.NoEscape", "math/bits.Add64", "sync/atomic.LoadUint32", "(*internal/sync.Mutex).Lock", "internal/race.Disable", "sync/atomic.CompareAndSwapInt32", "internal/race.Enable", "internal/race.Acquire", "(*internal/sync.Mutex).lockSlow", "internal/sync.runtime_canSpin", "internal/sync.runtime_doSpin", "internal/sync.throw", "internal/sync.runtime_nanotime", "internal/sync.runtime_SemacquireMutex", "sync/atomic.AddInt32", "(*internal/sync.Mutex).Unlock", "internal/race.ReleaseMerge", "(*internal/sync.Mutex).unlockSlow", "internal/sync.fatal", "internal/sync.runtime_Semrelease", "sync/atomic.StoreUint32", "internal/bytealg.MakeNoZero"], unfollowed := true, recurses := true, named := ["math/bits.divideError", "math/bits.overflowError"], apart := false }
def ShuffleOpensSaid : Prop := shuffleOpensRow.holds Tryz.pinned (OpenSpec.ofChange shuffleOpensSpec)

/-- ITS FALSE NEIGHBOUR: 'it returns false'. Refute it at one input. -/
def shuffleOpensWrong : ChangeSpec := { name := "shuffleOpens", fn := fun _ => fun
  | [d1, d2, d3] => { results := [.lit (.bool false)], args := [d1, d2, d3] }
  | _ => none }
def ShuffleOpensWrongFalsely : Prop := shuffleOpensRow.holds Tryz.pinned (OpenSpec.ofChange shuffleOpensWrong)

/-- 'spandrellaw08.ShuffleFakes': WHATEVER THE INPUT: true; the input reads as it did. -/
def shuffleFakesSpec : ChangeSpec := { name := "shuffleFakes", fn := fun _ => fun
  | [d1, d2, d3] => { results := [.lit (.bool true)], args := [d1, d2, d3] }
  | _ => none }
def shuffleFakesRow : OpenClaim := { program := "ytbpenkaficiodaagreat", sum := "d19c32629e2509916963847b6ad70285a849613a47069c684fb7cec8f7e910fe", func := "spandrel/spandrellaw08.ShuffleFakes", spec := "shuffleFakes", inPlace := ["internal/abi.NoEscape", "math/bits.Add64", "sync/atomic.LoadUint32", "(*internal/sync.Mutex).Lock", "internal/race.Disable", "sync/atomic.CompareAndSwapInt32", "internal/race.Enable", "internal/race.Acquire", "(*internal/sync.Mutex).lockSlow", "internal/sync.runtime_canSpin", "internal/sync.runtime_doSpin", "internal/sync.throw", "internal/sync.runtime_nanotime", "internal/sync.runtime_SemacquireMutex", "sync/atomic.AddInt32", "(*internal/sync.Mutex).Unlock", "internal/race.ReleaseMerge", "(*internal/sync.Mutex).unlockSlow", "internal/sync.fatal", "internal/sync.runtime_Semrelease", "sync/atomic.StoreUint32", "internal/bytealg.MakeNoZero"], unfollowed := true, recurses := true, named := ["math/bits.divideError", "math/bits.overflowError"], apart := false }
def ShuffleFakesSaid : Prop := shuffleFakesRow.holds Tryz.pinned (OpenSpec.ofChange shuffleFakesSpec)

/-- ITS FALSE NEIGHBOUR: 'it returns false'. Refute it at one input. -/
def shuffleFakesWrong : ChangeSpec := { name := "shuffleFakes", fn := fun _ => fun
  | [d1, d2, d3] => { results := [.lit (.bool false)], args := [d1, d2, d3] }
  | _ => none }
def ShuffleFakesWrongFalsely : Prop := shuffleFakesRow.holds Tryz.pinned (OpenSpec.ofChange shuffleFakesWrong)

/-- 'spandrellaw08.ShuffleWhole': WHATEVER THE INPUT: true; the input reads as it did. -/
def shuffleWholeSpec : ChangeSpec := { name := "shuffleWhole", fn := fun _ => fun
  | [d1, d2, d3] => { results := [.lit (.bool true)], args := [d1, d2, d3] }
  | _ => none }
def shuffleWholeRow : OpenClaim := { program := "ytbpenkaficiodaagreat", sum := "d19c32629e2509916963847b6ad70285a849613a47069c684fb7cec8f7e910fe", func := "spandrel/spandrellaw08.ShuffleWhole", spec := "shuffleWhole", inPlace := ["internal/abi.NoEscape", "math/bits.Add64", "sync/atomic.LoadUint32", "(*internal/sync.Mutex).Lock", "internal/race.Disable", "sync/atomic.CompareAndSwapInt32", "internal/race.Enable", "internal/race.Acquire", "(*internal/sync.Mutex).lockSlow", "internal/sync.runtime_canSpin", "internal/sync.runtime_doSpin", "internal/sync.throw", "internal/sync.runtime_nanotime", "internal/sync.runtime_SemacquireMutex", "sync/atomic.AddInt32", "(*internal/sync.Mutex).Unlock", "internal/race.ReleaseMerge", "(*internal/sync.Mutex).unlockSlow", "internal/sync.fatal", "internal/sync.runtime_Semrelease", "sync/atomic.StoreUint32", "internal/bytealg.MakeNoZero"], unfollowed := true, recurses := true, named := ["math/bits.divideError", "math/bits.overflowError"], apart := false }
def ShuffleWholeSaid : Prop := shuffleWholeRow.holds Tryz.pinned (OpenSpec.ofChange shuffleWholeSpec)

/-- ITS FALSE NEIGHBOUR: 'it returns false'. Refute it at one input. -/
def shuffleWholeWrong : ChangeSpec := { name := "shuffleWhole", fn := fun _ => fun
  | [d1, d2, d3] => { results := [.lit (.bool false)], args := [d1, d2, d3] }
  | _ => none }
def ShuffleWholeWrongFalsely : Prop := shuffleWholeRow.holds Tryz.pinned (OpenSpec.ofChange shuffleWholeWrong)

/-- 'spandrellaw11.MixMixes': WHATEVER THE INPUT: true; the input reads as it did. -/
def mixMixesSpec : ChangeSpec := { name := "mixMixes", fn := fun _ => fun
  | [d1, d2, d3] => { results := [.lit (.bool true)], args := [d1, d2, d3] }
  | _ => none }
def mixMixesRow : OpenClaim := { program := "ytbpenkaficiodaagreat", sum := "d19c32629e2509916963847b6ad70285a849613a47069c684fb7cec8f7e910fe", func := "spandrel/spandrellaw11.MixMixes", spec := "mixMixes", inPlace := ["internal/abi.NoEscape", "math/bits.Add64", "sync/atomic.LoadUint32", "(*internal/sync.Mutex).Lock", "internal/race.Disable", "sync/atomic.CompareAndSwapInt32", "internal/race.Enable", "internal/race.Acquire", "(*internal/sync.Mutex).lockSlow", "internal/sync.runtime_canSpin", "internal/sync.runtime_doSpin", "internal/sync.throw", "internal/sync.runtime_nanotime", "internal/sync.runtime_SemacquireMutex", "sync/atomic.AddInt32", "(*internal/sync.Mutex).Unlock", "internal/race.ReleaseMerge", "(*internal/sync.Mutex).unlockSlow", "internal/sync.fatal", "internal/sync.runtime_Semrelease", "sync/atomic.StoreUint32", "internal/bytealg.MakeNoZero"], unfollowed := true, recurses := true, named := ["math/bits.divideError", "math/bits.overflowError"], apart := false }
def MixMixesSaid : Prop := mixMixesRow.holds Tryz.pinned (OpenSpec.ofChange mixMixesSpec)

/-- ITS FALSE NEIGHBOUR: 'it returns false'. Refute it at one input. -/
def mixMixesWrong : ChangeSpec := { name := "mixMixes", fn := fun _ => fun
  | [d1, d2, d3] => { results := [.lit (.bool false)], args := [d1, d2, d3] }
  | _ => none }
def MixMixesWrongFalsely : Prop := mixMixesRow.holds Tryz.pinned (OpenSpec.ofChange mixMixesWrong)

/-- 'spandrellaw11.MixPasses': WHATEVER THE INPUT: true; the input reads as it did. -/
def mixPassesSpec : ChangeSpec := { name := "mixPasses", fn := fun _ => fun
  | [d1, d2, d3] => { results := [.lit (.bool true)], args := [d1, d2, d3] }
  | _ => none }
def mixPassesRow : OpenClaim := { program := "ytbpenkaficiodaagreat", sum := "d19c32629e2509916963847b6ad70285a849613a47069c684fb7cec8f7e910fe", func := "spandrel/spandrellaw11.MixPasses", spec := "mixPasses", inPlace := ["internal/abi.NoEscape", "math/bits.Add64", "sync/atomic.LoadUint32", "(*internal/sync.Mutex).Lock", "internal/race.Disable", "sync/atomic.CompareAndSwapInt32", "internal/race.Enable", "internal/race.Acquire", "(*internal/sync.Mutex).lockSlow", "internal/sync.runtime_canSpin", "internal/sync.runtime_doSpin", "internal/sync.throw", "internal/sync.runtime_nanotime", "internal/sync.runtime_SemacquireMutex", "sync/atomic.AddInt32", "(*internal/sync.Mutex).Unlock", "internal/race.ReleaseMerge", "(*internal/sync.Mutex).unlockSlow", "internal/sync.fatal", "internal/sync.runtime_Semrelease", "sync/atomic.StoreUint32", "internal/bytealg.MakeNoZero"], unfollowed := true, recurses := true, named := ["math/bits.divideError", "math/bits.overflowError"], apart := false }
def MixPassesSaid : Prop := mixPassesRow.holds Tryz.pinned (OpenSpec.ofChange mixPassesSpec)

/-- ITS FALSE NEIGHBOUR: 'it returns false'. Refute it at one input. -/
def mixPassesWrong : ChangeSpec := { name := "mixPasses", fn := fun _ => fun
  | [d1, d2, d3] => { results := [.lit (.bool false)], args := [d1, d2, d3] }
  | _ => none }
def MixPassesWrongFalsely : Prop := mixPassesRow.holds Tryz.pinned (OpenSpec.ofChange mixPassesWrong)

/-- 'spandrellaw12.AuditBelieves': WHATEVER THE INPUT: true; the input reads as it did. -/
def auditBelievesSpec : ChangeSpec := { name := "auditBelieves", fn := fun _ => fun
  | [d1, d2, d3] => { results := [.lit (.bool true)], args := [d1, d2, d3] }
  | _ => none }
def auditBelievesRow : OpenClaim := { program := "ytbpenkaficiodaagreat", sum := "d19c32629e2509916963847b6ad70285a849613a47069c684fb7cec8f7e910fe", func := "spandrel/spandrellaw12.AuditBelieves", spec := "auditBelieves", inPlace := ["internal/abi.NoEscape", "math/bits.Add64", "sync/atomic.LoadUint32", "(*internal/sync.Mutex).Lock", "internal/race.Disable", "sync/atomic.CompareAndSwapInt32", "internal/race.Enable", "internal/race.Acquire", "(*internal/sync.Mutex).lockSlow", "internal/sync.runtime_canSpin", "internal/sync.runtime_doSpin", "internal/sync.throw", "internal/sync.runtime_nanotime", "internal/sync.runtime_SemacquireMutex", "sync/atomic.AddInt32", "(*internal/sync.Mutex).Unlock", "internal/race.ReleaseMerge", "(*internal/sync.Mutex).unlockSlow", "internal/sync.fatal", "internal/sync.runtime_Semrelease", "sync/atomic.StoreUint32", "internal/bytealg.MakeNoZero"], unfollowed := true, recurses := true, named := ["math/bits.divideError", "math/bits.overflowError"], apart := false }
def AuditBelievesSaid : Prop := auditBelievesRow.holds Tryz.pinned (OpenSpec.ofChange auditBelievesSpec)

/-- ITS FALSE NEIGHBOUR: 'it returns false'. Refute it at one input. -/
def auditBelievesWrong : ChangeSpec := { name := "auditBelieves", fn := fun _ => fun
  | [d1, d2, d3] => { results := [.lit (.bool false)], args := [d1, d2, d3] }
  | _ => none }
def AuditBelievesWrongFalsely : Prop := auditBelievesRow.holds Tryz.pinned (OpenSpec.ofChange auditBelievesWrong)

/- THE SECOND FORM. 'bulk': how many values and letters a reading holds, each counted each time it is reached (what is shared counts as often as it is met; a slice's spare places count too). A statement '..UptoSaid' is the law's where the arguments, and the package variables that the reading takes, are together of bulk at most 1048576: NARROWER than '..Said'. Prove '..Said' where nothing that the law and all that it calls make is longer than what came in: it says more and counts as full. Else prove '..UptoSaid'. A law counts once. -/
mutual
def uptoBulk {H : Type} : DataW H → Nat
  | .lit (.string bytes) => bytes.length + 1
  | .lit _ => 1
  | .nil => 1
  | .ptr d => uptoBulk d + 1
  | .slice elems spare => uptoBulkAll elems + uptoBulkAll spare + 1
  | .agg parts => uptoBulkAll parts + 1
  | .iface _ d => uptoBulk d + 1
  | .map entries => uptoBulkEntries entries + 1
  | .held _ => 1
def uptoBulkAll {H : Type} : List (DataW H) → Nat
  | [] => 0
  | d :: r => uptoBulk d + uptoBulkAll r
def uptoBulkEntries {H : Type} : List (Lit × DataW H) → Nat
  | [] => 0
  | x :: r => uptoBulkEntry x + uptoBulkEntries r
def uptoBulkEntry {H : Type} : Lit × DataW H → Nat
  | (.string bytes, d) => bytes.length + uptoBulk d + 1
  | (_, d) => uptoBulk d + 1
 end
def uptoSmall : (H : Type) → List (DataW H) → Bool := fun _ ds => decide (uptoBulkAll ds ≤ 1048576)
def OpenSpec.upto (s : _root_.Go.ChangeSpec) : _root_.Go.OpenSpec := { _root_.Go.OpenSpec.ofChange s with cond := some uptoSmall }

/-- 'spandrellaw12.AuditPassed', WHERE WHAT IT READS IS OF BULK AT MOST 1048576: true; the input reads as it did. -/
def auditPassedUptoRow : OpenClaim := { program := "ytbpenkaficiodaagreat", sum := "d19c32629e2509916963847b6ad70285a849613a47069c684fb7cec8f7e910fe", func := "spandrel/spandrellaw12.AuditPassed", spec := "auditPassed", inPlace := ["internal/abi.NoEscape", "math/bits.Add64", "sync/atomic.LoadUint32", "(*internal/sync.Mutex).Lock", "internal/race.Disable", "sync/atomic.CompareAndSwapInt32", "internal/race.Enable", "internal/race.Acquire", "(*internal/sync.Mutex).lockSlow", "internal/sync.runtime_canSpin", "internal/sync.runtime_doSpin", "internal/sync.throw", "internal/sync.runtime_nanotime", "internal/sync.runtime_SemacquireMutex", "sync/atomic.AddInt32", "(*internal/sync.Mutex).Unlock", "internal/race.ReleaseMerge", "(*internal/sync.Mutex).unlockSlow", "internal/sync.fatal", "internal/sync.runtime_Semrelease", "sync/atomic.StoreUint32", "internal/bytealg.MakeNoZero"], unfollowed := true, recurses := true, named := ["math/bits.divideError", "math/bits.overflowError"], apart := false, narrowed := true }
def AuditPassedUptoSaid : Prop := auditPassedUptoRow.holds Tryz.pinned (OpenSpec.upto auditPassedSpec)

/-- 'spandrellaw12.AuditMixings', WHERE WHAT IT READS IS OF BULK AT MOST 1048576: true; the input reads as it did. -/
def auditMixingsUptoRow : OpenClaim := { program := "ytbpenkaficiodaagreat", sum := "d19c32629e2509916963847b6ad70285a849613a47069c684fb7cec8f7e910fe", func := "spandrel/spandrellaw12.AuditMixings", spec := "auditMixings", inPlace := ["internal/abi.NoEscape", "math/bits.Add64", "sync/atomic.LoadUint32", "(*internal/sync.Mutex).Lock", "internal/race.Disable", "sync/atomic.CompareAndSwapInt32", "internal/race.Enable", "internal/race.Acquire", "(*internal/sync.Mutex).lockSlow", "internal/sync.runtime_canSpin", "internal/sync.runtime_doSpin", "internal/sync.throw", "internal/sync.runtime_nanotime", "internal/sync.runtime_SemacquireMutex", "sync/atomic.AddInt32", "(*internal/sync.Mutex).Unlock", "internal/race.ReleaseMerge", "(*internal/sync.Mutex).unlockSlow", "internal/sync.fatal", "internal/sync.runtime_Semrelease", "sync/atomic.StoreUint32", "internal/bytealg.MakeNoZero"], unfollowed := true, recurses := true, named := ["math/bits.divideError", "math/bits.overflowError"], apart := false, narrowed := true }
def AuditMixingsUptoSaid : Prop := auditMixingsUptoRow.holds Tryz.pinned (OpenSpec.upto auditMixingsSpec)

/-- 'spandrellaw08.ShuffleMixes', WHERE WHAT IT READS IS OF BULK AT MOST 1048576: true; the input reads as it did. -/
def shuffleMixesUptoRow : OpenClaim := { program := "ytbpenkaficiodaagreat", sum := "d19c32629e2509916963847b6ad70285a849613a47069c684fb7cec8f7e910fe", func := "spandrel/spandrellaw08.ShuffleMixes", spec := "shuffleMixes", inPlace := ["internal/abi.NoEscape", "math/bits.Add64", "sync/atomic.LoadUint32", "(*internal/sync.Mutex).Lock", "internal/race.Disable", "sync/atomic.CompareAndSwapInt32", "internal/race.Enable", "internal/race.Acquire", "(*internal/sync.Mutex).lockSlow", "internal/sync.runtime_canSpin", "internal/sync.runtime_doSpin", "internal/sync.throw", "internal/sync.runtime_nanotime", "internal/sync.runtime_SemacquireMutex", "sync/atomic.AddInt32", "(*internal/sync.Mutex).Unlock", "internal/race.ReleaseMerge", "(*internal/sync.Mutex).unlockSlow", "internal/sync.fatal", "internal/sync.runtime_Semrelease", "sync/atomic.StoreUint32", "internal/bytealg.MakeNoZero"], unfollowed := true, recurses := true, named := ["math/bits.divideError", "math/bits.overflowError"], apart := false, narrowed := true }
def ShuffleMixesUptoSaid : Prop := shuffleMixesUptoRow.holds Tryz.pinned (OpenSpec.upto shuffleMixesSpec)

/-- 'spandrellaw08.ShuffleClaims', WHERE WHAT IT READS IS OF BULK AT MOST 1048576: true; the input reads as it did. -/
def shuffleClaimsUptoRow : OpenClaim := { program := "ytbpenkaficiodaagreat", sum := "d19c32629e2509916963847b6ad70285a849613a47069c684fb7cec8f7e910fe", func := "spandrel/spandrellaw08.ShuffleClaims", spec := "shuffleClaims", inPlace := ["internal/abi.NoEscape", "math/bits.Add64", "sync/atomic.LoadUint32", "(*internal/sync.Mutex).Lock", "internal/race.Disable", "sync/atomic.CompareAndSwapInt32", "internal/race.Enable", "internal/race.Acquire", "(*internal/sync.Mutex).lockSlow", "internal/sync.runtime_canSpin", "internal/sync.runtime_doSpin", "internal/sync.throw", "internal/sync.runtime_nanotime", "internal/sync.runtime_SemacquireMutex", "sync/atomic.AddInt32", "(*internal/sync.Mutex).Unlock", "internal/race.ReleaseMerge", "(*internal/sync.Mutex).unlockSlow", "internal/sync.fatal", "internal/sync.runtime_Semrelease", "sync/atomic.StoreUint32", "internal/bytealg.MakeNoZero"], unfollowed := true, recurses := true, named := ["math/bits.divideError", "math/bits.overflowError"], apart := false, narrowed := true }
def ShuffleClaimsUptoSaid : Prop := shuffleClaimsUptoRow.holds Tryz.pinned (OpenSpec.upto shuffleClaimsSpec)

/-- 'spandrellaw08.ShuffleProves', WHERE WHAT IT READS IS OF BULK AT MOST 1048576: true; the input reads as it did. -/
def shuffleProvesUptoRow : OpenClaim := { program := "ytbpenkaficiodaagreat", sum := "d19c32629e2509916963847b6ad70285a849613a47069c684fb7cec8f7e910fe", func := "spandrel/spandrellaw08.ShuffleProves", spec := "shuffleProves", inPlace := ["internal/abi.NoEscape", "math/bits.Add64", "sync/atomic.LoadUint32", "(*internal/sync.Mutex).Lock", "internal/race.Disable", "sync/atomic.CompareAndSwapInt32", "internal/race.Enable", "internal/race.Acquire", "(*internal/sync.Mutex).lockSlow", "internal/sync.runtime_canSpin", "internal/sync.runtime_doSpin", "internal/sync.throw", "internal/sync.runtime_nanotime", "internal/sync.runtime_SemacquireMutex", "sync/atomic.AddInt32", "(*internal/sync.Mutex).Unlock", "internal/race.ReleaseMerge", "(*internal/sync.Mutex).unlockSlow", "internal/sync.fatal", "internal/sync.runtime_Semrelease", "sync/atomic.StoreUint32", "internal/bytealg.MakeNoZero"], unfollowed := true, recurses := true, named := ["math/bits.divideError", "math/bits.overflowError"], apart := false, narrowed := true }
def ShuffleProvesUptoSaid : Prop := shuffleProvesUptoRow.holds Tryz.pinned (OpenSpec.upto shuffleProvesSpec)

/-- 'spandrellaw08.ShuffleTakes', WHERE WHAT IT READS IS OF BULK AT MOST 1048576: true; the input reads as it did. -/
def shuffleTakesUptoRow : OpenClaim := { program := "ytbpenkaficiodaagreat", sum := "d19c32629e2509916963847b6ad70285a849613a47069c684fb7cec8f7e910fe", func := "spandrel/spandrellaw08.ShuffleTakes", spec := "shuffleTakes", inPlace := ["internal/abi.NoEscape", "math/bits.Add64", "sync/atomic.LoadUint32", "(*internal/sync.Mutex).Lock", "internal/race.Disable", "sync/atomic.CompareAndSwapInt32", "internal/race.Enable", "internal/race.Acquire", "(*internal/sync.Mutex).lockSlow", "internal/sync.runtime_canSpin", "internal/sync.runtime_doSpin", "internal/sync.throw", "internal/sync.runtime_nanotime", "internal/sync.runtime_SemacquireMutex", "sync/atomic.AddInt32", "(*internal/sync.Mutex).Unlock", "internal/race.ReleaseMerge", "(*internal/sync.Mutex).unlockSlow", "internal/sync.fatal", "internal/sync.runtime_Semrelease", "sync/atomic.StoreUint32", "internal/bytealg.MakeNoZero"], unfollowed := true, recurses := true, named := ["math/bits.divideError", "math/bits.overflowError"], apart := false, narrowed := true }
def ShuffleTakesUptoSaid : Prop := shuffleTakesUptoRow.holds Tryz.pinned (OpenSpec.upto shuffleTakesSpec)

/-- 'spandrellaw08.ShuffleTwice', WHERE WHAT IT READS IS OF BULK AT MOST 1048576: true; the input reads as it did. -/
def shuffleTwiceUptoRow : OpenClaim := { program := "ytbpenkaficiodaagreat", sum := "d19c32629e2509916963847b6ad70285a849613a47069c684fb7cec8f7e910fe", func := "spandrel/spandrellaw08.ShuffleTwice", spec := "shuffleTwice", inPlace := ["internal/abi.NoEscape", "math/bits.Add64", "sync/atomic.LoadUint32", "(*internal/sync.Mutex).Lock", "internal/race.Disable", "sync/atomic.CompareAndSwapInt32", "internal/race.Enable", "internal/race.Acquire", "(*internal/sync.Mutex).lockSlow", "internal/sync.runtime_canSpin", "internal/sync.runtime_doSpin", "internal/sync.throw", "internal/sync.runtime_nanotime", "internal/sync.runtime_SemacquireMutex", "sync/atomic.AddInt32", "(*internal/sync.Mutex).Unlock", "internal/race.ReleaseMerge", "(*internal/sync.Mutex).unlockSlow", "internal/sync.fatal", "internal/sync.runtime_Semrelease", "sync/atomic.StoreUint32", "internal/bytealg.MakeNoZero"], unfollowed := true, recurses := true, named := ["math/bits.divideError", "math/bits.overflowError"], apart := false, narrowed := true }
def ShuffleTwiceUptoSaid : Prop := shuffleTwiceUptoRow.holds Tryz.pinned (OpenSpec.upto shuffleTwiceSpec)

/-- 'spandrellaw08.ShuffleOpens', WHERE WHAT IT READS IS OF BULK AT MOST 1048576: true; the input reads as it did. -/
def shuffleOpensUptoRow : OpenClaim := { program := "ytbpenkaficiodaagreat", sum := "d19c32629e2509916963847b6ad70285a849613a47069c684fb7cec8f7e910fe", func := "spandrel/spandrellaw08.ShuffleOpens", spec := "shuffleOpens", inPlace := ["internal/abi.NoEscape", "math/bits.Add64", "sync/atomic.LoadUint32", "(*internal/sync.Mutex).Lock", "internal/race.Disable", "sync/atomic.CompareAndSwapInt32", "internal/race.Enable", "internal/race.Acquire", "(*internal/sync.Mutex).lockSlow", "internal/sync.runtime_canSpin", "internal/sync.runtime_doSpin", "internal/sync.throw", "internal/sync.runtime_nanotime", "internal/sync.runtime_SemacquireMutex", "sync/atomic.AddInt32", "(*internal/sync.Mutex).Unlock", "internal/race.ReleaseMerge", "(*internal/sync.Mutex).unlockSlow", "internal/sync.fatal", "internal/sync.runtime_Semrelease", "sync/atomic.StoreUint32", "internal/bytealg.MakeNoZero"], unfollowed := true, recurses := true, named := ["math/bits.divideError", "math/bits.overflowError"], apart := false, narrowed := true }
def ShuffleOpensUptoSaid : Prop := shuffleOpensUptoRow.holds Tryz.pinned (OpenSpec.upto shuffleOpensSpec)

/-- 'spandrellaw08.ShuffleFakes', WHERE WHAT IT READS IS OF BULK AT MOST 1048576: true; the input reads as it did. -/
def shuffleFakesUptoRow : OpenClaim := { program := "ytbpenkaficiodaagreat", sum := "d19c32629e2509916963847b6ad70285a849613a47069c684fb7cec8f7e910fe", func := "spandrel/spandrellaw08.ShuffleFakes", spec := "shuffleFakes", inPlace := ["internal/abi.NoEscape", "math/bits.Add64", "sync/atomic.LoadUint32", "(*internal/sync.Mutex).Lock", "internal/race.Disable", "sync/atomic.CompareAndSwapInt32", "internal/race.Enable", "internal/race.Acquire", "(*internal/sync.Mutex).lockSlow", "internal/sync.runtime_canSpin", "internal/sync.runtime_doSpin", "internal/sync.throw", "internal/sync.runtime_nanotime", "internal/sync.runtime_SemacquireMutex", "sync/atomic.AddInt32", "(*internal/sync.Mutex).Unlock", "internal/race.ReleaseMerge", "(*internal/sync.Mutex).unlockSlow", "internal/sync.fatal", "internal/sync.runtime_Semrelease", "sync/atomic.StoreUint32", "internal/bytealg.MakeNoZero"], unfollowed := true, recurses := true, named := ["math/bits.divideError", "math/bits.overflowError"], apart := false, narrowed := true }
def ShuffleFakesUptoSaid : Prop := shuffleFakesUptoRow.holds Tryz.pinned (OpenSpec.upto shuffleFakesSpec)

/-- 'spandrellaw08.ShuffleWhole', WHERE WHAT IT READS IS OF BULK AT MOST 1048576: true; the input reads as it did. -/
def shuffleWholeUptoRow : OpenClaim := { program := "ytbpenkaficiodaagreat", sum := "d19c32629e2509916963847b6ad70285a849613a47069c684fb7cec8f7e910fe", func := "spandrel/spandrellaw08.ShuffleWhole", spec := "shuffleWhole", inPlace := ["internal/abi.NoEscape", "math/bits.Add64", "sync/atomic.LoadUint32", "(*internal/sync.Mutex).Lock", "internal/race.Disable", "sync/atomic.CompareAndSwapInt32", "internal/race.Enable", "internal/race.Acquire", "(*internal/sync.Mutex).lockSlow", "internal/sync.runtime_canSpin", "internal/sync.runtime_doSpin", "internal/sync.throw", "internal/sync.runtime_nanotime", "internal/sync.runtime_SemacquireMutex", "sync/atomic.AddInt32", "(*internal/sync.Mutex).Unlock", "internal/race.ReleaseMerge", "(*internal/sync.Mutex).unlockSlow", "internal/sync.fatal", "internal/sync.runtime_Semrelease", "sync/atomic.StoreUint32", "internal/bytealg.MakeNoZero"], unfollowed := true, recurses := true, named := ["math/bits.divideError", "math/bits.overflowError"], apart := false, narrowed := true }
def ShuffleWholeUptoSaid : Prop := shuffleWholeUptoRow.holds Tryz.pinned (OpenSpec.upto shuffleWholeSpec)

/-- 'spandrellaw11.MixMixes', WHERE WHAT IT READS IS OF BULK AT MOST 1048576: true; the input reads as it did. -/
def mixMixesUptoRow : OpenClaim := { program := "ytbpenkaficiodaagreat", sum := "d19c32629e2509916963847b6ad70285a849613a47069c684fb7cec8f7e910fe", func := "spandrel/spandrellaw11.MixMixes", spec := "mixMixes", inPlace := ["internal/abi.NoEscape", "math/bits.Add64", "sync/atomic.LoadUint32", "(*internal/sync.Mutex).Lock", "internal/race.Disable", "sync/atomic.CompareAndSwapInt32", "internal/race.Enable", "internal/race.Acquire", "(*internal/sync.Mutex).lockSlow", "internal/sync.runtime_canSpin", "internal/sync.runtime_doSpin", "internal/sync.throw", "internal/sync.runtime_nanotime", "internal/sync.runtime_SemacquireMutex", "sync/atomic.AddInt32", "(*internal/sync.Mutex).Unlock", "internal/race.ReleaseMerge", "(*internal/sync.Mutex).unlockSlow", "internal/sync.fatal", "internal/sync.runtime_Semrelease", "sync/atomic.StoreUint32", "internal/bytealg.MakeNoZero"], unfollowed := true, recurses := true, named := ["math/bits.divideError", "math/bits.overflowError"], apart := false, narrowed := true }
def MixMixesUptoSaid : Prop := mixMixesUptoRow.holds Tryz.pinned (OpenSpec.upto mixMixesSpec)

/-- 'spandrellaw11.MixPasses', WHERE WHAT IT READS IS OF BULK AT MOST 1048576: true; the input reads as it did. -/
def mixPassesUptoRow : OpenClaim := { program := "ytbpenkaficiodaagreat", sum := "d19c32629e2509916963847b6ad70285a849613a47069c684fb7cec8f7e910fe", func := "spandrel/spandrellaw11.MixPasses", spec := "mixPasses", inPlace := ["internal/abi.NoEscape", "math/bits.Add64", "sync/atomic.LoadUint32", "(*internal/sync.Mutex).Lock", "internal/race.Disable", "sync/atomic.CompareAndSwapInt32", "internal/race.Enable", "internal/race.Acquire", "(*internal/sync.Mutex).lockSlow", "internal/sync.runtime_canSpin", "internal/sync.runtime_doSpin", "internal/sync.throw", "internal/sync.runtime_nanotime", "internal/sync.runtime_SemacquireMutex", "sync/atomic.AddInt32", "(*internal/sync.Mutex).Unlock", "internal/race.ReleaseMerge", "(*internal/sync.Mutex).unlockSlow", "internal/sync.fatal", "internal/sync.runtime_Semrelease", "sync/atomic.StoreUint32", "internal/bytealg.MakeNoZero"], unfollowed := true, recurses := true, named := ["math/bits.divideError", "math/bits.overflowError"], apart := false, narrowed := true }
def MixPassesUptoSaid : Prop := mixPassesUptoRow.holds Tryz.pinned (OpenSpec.upto mixPassesSpec)

/-- 'spandrellaw12.AuditBelieves', WHERE WHAT IT READS IS OF BULK AT MOST 1048576: true; the input reads as it did. -/
def auditBelievesUptoRow : OpenClaim := { program := "ytbpenkaficiodaagreat", sum := "d19c32629e2509916963847b6ad70285a849613a47069c684fb7cec8f7e910fe", func := "spandrel/spandrellaw12.AuditBelieves", spec := "auditBelieves", inPlace := ["internal/abi.NoEscape", "math/bits.Add64", "sync/atomic.LoadUint32", "(*internal/sync.Mutex).Lock", "internal/race.Disable", "sync/atomic.CompareAndSwapInt32", "internal/race.Enable", "internal/race.Acquire", "(*internal/sync.Mutex).lockSlow", "internal/sync.runtime_canSpin", "internal/sync.runtime_doSpin", "internal/sync.throw", "internal/sync.runtime_nanotime", "internal/sync.runtime_SemacquireMutex", "sync/atomic.AddInt32", "(*internal/sync.Mutex).Unlock", "internal/race.ReleaseMerge", "(*internal/sync.Mutex).unlockSlow", "internal/sync.fatal", "internal/sync.runtime_Semrelease", "sync/atomic.StoreUint32", "internal/bytealg.MakeNoZero"], unfollowed := true, recurses := true, named := ["math/bits.divideError", "math/bits.overflowError"], apart := false, narrowed := true }
def AuditBelievesUptoSaid : Prop := auditBelievesUptoRow.holds Tryz.pinned (OpenSpec.upto auditBelievesSpec)

end Rows
end Go.Proofs.YtbpenkaficiodaaGreat
