/-
  No cell of these rows narrows 'for every input' (looked for: loops, veiled, ifaces, maps, wideKeys, modest, calm, conditions, laid).
  DERIVED. THE GIVEN ROWS OF THIS SEAT. 9 by the template 'for every input the law returns true; each argument reads behind the call as it read before'; 0 by the template 'total and deterministic' (their statements: YtdjjfpcfclheiaaTotals.lean).
  GIVEN WITH THE SEED: the statements are not yours to turn. If you find one false, say at which input.
  Laid BY PROGRAM, IN A SANDBOX (cutbox-rows.mjs): the forced cells as the released guide's own fill.sh prints them over the translation 026dd961fc57773a… (all of the seat's roots in one cut). By AI agents, Wed Nov 11 2026. No macro, syntax, notation, axiom, sorry.
-/
import Derived.Test.YtdjjfpcfclheiaaChecked
import GoSem.Claim
import GoSem.ClaimJoined
import GoSem.ClaimMapViews
import Derived.JoinedTies
import Derived.KernelRfl
namespace Go.Proofs.Ytdjjfpcfclheiaa
/- THE CELL 'sum', in the pinned program and in every row, IS THE sha256 OF THE DUMP (.gsa) THAT YtdjjfpcfclheiaaProg.lean LOADS. Nothing in Lean hashes anything: it is a label: what it is worth is what the hold of that sum in a sandbox is worth. -/
noncomputable def Try.pinned : Pinned := { name := "ytdjjfpcfclheiaa", sum := "026dd961fc57773ad182110c2f9396d50d5bf04501ae39917cfa8d8ae4657847", checked := Try.checked }
namespace Rows
def none {H : Type} : Left H := { results := [], args := [] }

/-- 'tracerylaw02.TallyOrder': WHATEVER THE INPUT: true; the input reads as it did. -/
def tallyOrderSpec : ChangeSpec := { name := "tallyOrder", fn := fun _ => fun
  | [d] => { results := [.lit (.bool true)], args := [d] }
  | _ => none }
def tallyOrderRow : OpenClaim := { program := "ytdjjfpcfclheiaa", sum := "026dd961fc57773ad182110c2f9396d50d5bf04501ae39917cfa8d8ae4657847", func := "tracery/tracerylaw02.TallyOrder", spec := "tallyOrder", inPlace := ["sync/atomic.LoadUint32", "(*internal/sync.Mutex).Lock", "internal/race.Disable", "sync/atomic.CompareAndSwapInt32", "internal/race.Enable", "internal/race.Acquire", "(*internal/sync.Mutex).lockSlow", "internal/sync.runtime_canSpin", "internal/sync.runtime_doSpin", "internal/sync.throw", "internal/sync.runtime_nanotime", "internal/sync.runtime_SemacquireMutex", "sync/atomic.AddInt32", "(*internal/sync.Mutex).Unlock", "internal/race.ReleaseMerge", "(*internal/sync.Mutex).unlockSlow", "internal/sync.fatal", "internal/sync.runtime_Semrelease", "sync/atomic.StoreUint32", "sync/atomic.LoadInt64", "sync/atomic.AddInt64"], unfollowed := true, recurses := true, apart := false }
def TallyOrderSaid : Prop := tallyOrderRow.holds Try.pinned (OpenSpec.ofChange tallyOrderSpec)

/-- ITS FALSE NEIGHBOUR: 'it returns false'. Refute it at one input. -/
def tallyOrderWrong : ChangeSpec := { name := "tallyOrder", fn := fun _ => fun
  | [d] => { results := [.lit (.bool false)], args := [d] }
  | _ => none }
def TallyOrderWrongFalsely : Prop := tallyOrderRow.holds Try.pinned (OpenSpec.ofChange tallyOrderWrong)

/-- 'tracerylaw02.TallySum': WHATEVER THE INPUT: true; the input reads as it did. -/
def tallySumSpec : ChangeSpec := { name := "tallySum", fn := fun _ => fun
  | [d1, d2] => { results := [.lit (.bool true)], args := [d1, d2] }
  | _ => none }
def tallySumRow : OpenClaim := { program := "ytdjjfpcfclheiaa", sum := "026dd961fc57773ad182110c2f9396d50d5bf04501ae39917cfa8d8ae4657847", func := "tracery/tracerylaw02.TallySum", spec := "tallySum", inPlace := ["sync/atomic.LoadUint32", "(*internal/sync.Mutex).Lock", "internal/race.Disable", "sync/atomic.CompareAndSwapInt32", "internal/race.Enable", "internal/race.Acquire", "(*internal/sync.Mutex).lockSlow", "internal/sync.runtime_canSpin", "internal/sync.runtime_doSpin", "internal/sync.throw", "internal/sync.runtime_nanotime", "internal/sync.runtime_SemacquireMutex", "sync/atomic.AddInt32", "(*internal/sync.Mutex).Unlock", "internal/race.ReleaseMerge", "(*internal/sync.Mutex).unlockSlow", "internal/sync.fatal", "internal/sync.runtime_Semrelease", "sync/atomic.StoreUint32", "sync/atomic.LoadInt64", "sync/atomic.AddInt64"], unfollowed := true, recurses := true, apart := false }
def TallySumSaid : Prop := tallySumRow.holds Try.pinned (OpenSpec.ofChange tallySumSpec)

/-- ITS FALSE NEIGHBOUR: 'it returns false'. Refute it at one input. -/
def tallySumWrong : ChangeSpec := { name := "tallySum", fn := fun _ => fun
  | [d1, d2] => { results := [.lit (.bool false)], args := [d1, d2] }
  | _ => none }
def TallySumWrongFalsely : Prop := tallySumRow.holds Try.pinned (OpenSpec.ofChange tallySumWrong)

/-- 'tracerylaw02.TallyPlays': WHATEVER THE INPUT: true; the input reads as it did. -/
def tallyPlaysSpec : ChangeSpec := { name := "tallyPlays", fn := fun _ => fun
  | [d1, d2] => { results := [.lit (.bool true)], args := [d1, d2] }
  | _ => none }
def tallyPlaysRow : OpenClaim := { program := "ytdjjfpcfclheiaa", sum := "026dd961fc57773ad182110c2f9396d50d5bf04501ae39917cfa8d8ae4657847", func := "tracery/tracerylaw02.TallyPlays", spec := "tallyPlays", inPlace := ["sync/atomic.LoadUint32", "(*internal/sync.Mutex).Lock", "internal/race.Disable", "sync/atomic.CompareAndSwapInt32", "internal/race.Enable", "internal/race.Acquire", "(*internal/sync.Mutex).lockSlow", "internal/sync.runtime_canSpin", "internal/sync.runtime_doSpin", "internal/sync.throw", "internal/sync.runtime_nanotime", "internal/sync.runtime_SemacquireMutex", "sync/atomic.AddInt32", "(*internal/sync.Mutex).Unlock", "internal/race.ReleaseMerge", "(*internal/sync.Mutex).unlockSlow", "internal/sync.fatal", "internal/sync.runtime_Semrelease", "sync/atomic.StoreUint32", "sync/atomic.LoadInt64", "sync/atomic.AddInt64", "sync/atomic.StoreInt64"], unfollowed := true, recurses := true, apart := false }
def TallyPlaysSaid : Prop := tallyPlaysRow.holds Try.pinned (OpenSpec.ofChange tallyPlaysSpec)

/-- ITS FALSE NEIGHBOUR: 'it returns false'. Refute it at one input. -/
def tallyPlaysWrong : ChangeSpec := { name := "tallyPlays", fn := fun _ => fun
  | [d1, d2] => { results := [.lit (.bool false)], args := [d1, d2] }
  | _ => none }
def TallyPlaysWrongFalsely : Prop := tallyPlaysRow.holds Try.pinned (OpenSpec.ofChange tallyPlaysWrong)

/-- 'tracerylaw02.TallyCopies': WHATEVER THE INPUT: true; the input reads as it did. -/
def tallyCopiesSpec : ChangeSpec := { name := "tallyCopies", fn := fun _ => fun
  | [d1, d2] => { results := [.lit (.bool true)], args := [d1, d2] }
  | _ => none }
def tallyCopiesRow : OpenClaim := { program := "ytdjjfpcfclheiaa", sum := "026dd961fc57773ad182110c2f9396d50d5bf04501ae39917cfa8d8ae4657847", func := "tracery/tracerylaw02.TallyCopies", spec := "tallyCopies", inPlace := ["sync/atomic.LoadUint32", "(*internal/sync.Mutex).Lock", "internal/race.Disable", "sync/atomic.CompareAndSwapInt32", "internal/race.Enable", "internal/race.Acquire", "(*internal/sync.Mutex).lockSlow", "internal/sync.runtime_canSpin", "internal/sync.runtime_doSpin", "internal/sync.throw", "internal/sync.runtime_nanotime", "internal/sync.runtime_SemacquireMutex", "sync/atomic.AddInt32", "(*internal/sync.Mutex).Unlock", "internal/race.ReleaseMerge", "(*internal/sync.Mutex).unlockSlow", "internal/sync.fatal", "internal/sync.runtime_Semrelease", "sync/atomic.StoreUint32", "sync/atomic.LoadInt64", "sync/atomic.AddInt64", "sync/atomic.StoreInt64"], unfollowed := true, recurses := true, apart := false }
def TallyCopiesSaid : Prop := tallyCopiesRow.holds Try.pinned (OpenSpec.ofChange tallyCopiesSpec)

/-- ITS FALSE NEIGHBOUR: 'it returns false'. Refute it at one input. -/
def tallyCopiesWrong : ChangeSpec := { name := "tallyCopies", fn := fun _ => fun
  | [d1, d2] => { results := [.lit (.bool false)], args := [d1, d2] }
  | _ => none }
def TallyCopiesWrongFalsely : Prop := tallyCopiesRow.holds Try.pinned (OpenSpec.ofChange tallyCopiesWrong)

/-- 'tracerylaw21.NetOrder': WHATEVER THE INPUT: true; the input reads as it did. -/
def netOrderSpec : ChangeSpec := { name := "netOrder", fn := fun _ => fun
  | [d1, d2] => { results := [.lit (.bool true)], args := [d1, d2] }
  | _ => none }
def netOrderRow : OpenClaim := { program := "ytdjjfpcfclheiaa", sum := "026dd961fc57773ad182110c2f9396d50d5bf04501ae39917cfa8d8ae4657847", func := "tracery/tracerylaw21.NetOrder", spec := "netOrder", inPlace := ["sync/atomic.LoadUint32", "(*internal/sync.Mutex).Lock", "internal/race.Disable", "sync/atomic.CompareAndSwapInt32", "internal/race.Enable", "internal/race.Acquire", "(*internal/sync.Mutex).lockSlow", "internal/sync.runtime_canSpin", "internal/sync.runtime_doSpin", "internal/sync.throw", "internal/sync.runtime_nanotime", "internal/sync.runtime_SemacquireMutex", "sync/atomic.AddInt32", "(*internal/sync.Mutex).Unlock", "internal/race.ReleaseMerge", "(*internal/sync.Mutex).unlockSlow", "internal/sync.fatal", "internal/sync.runtime_Semrelease", "sync/atomic.StoreUint32", "sync/atomic.LoadInt64", "sync/atomic.AddInt64"], unfollowed := true, recurses := true, apart := false }
def NetOrderSaid : Prop := netOrderRow.holds Try.pinned (OpenSpec.ofChange netOrderSpec)

/-- ITS FALSE NEIGHBOUR: 'it returns false'. Refute it at one input. -/
def netOrderWrong : ChangeSpec := { name := "netOrder", fn := fun _ => fun
  | [d1, d2] => { results := [.lit (.bool false)], args := [d1, d2] }
  | _ => none }
def NetOrderWrongFalsely : Prop := netOrderRow.holds Try.pinned (OpenSpec.ofChange netOrderWrong)

/-- 'tracerylaw21.NetTurns': WHATEVER THE INPUT: true; the input reads as it did. -/
def netTurnsSpec : ChangeSpec := { name := "netTurns", fn := fun _ => fun
  | [d1, d2] => { results := [.lit (.bool true)], args := [d1, d2] }
  | _ => none }
def netTurnsRow : OpenClaim := { program := "ytdjjfpcfclheiaa", sum := "026dd961fc57773ad182110c2f9396d50d5bf04501ae39917cfa8d8ae4657847", func := "tracery/tracerylaw21.NetTurns", spec := "netTurns", inPlace := ["sync/atomic.LoadUint32", "(*internal/sync.Mutex).Lock", "internal/race.Disable", "sync/atomic.CompareAndSwapInt32", "internal/race.Enable", "internal/race.Acquire", "(*internal/sync.Mutex).lockSlow", "internal/sync.runtime_canSpin", "internal/sync.runtime_doSpin", "internal/sync.throw", "internal/sync.runtime_nanotime", "internal/sync.runtime_SemacquireMutex", "sync/atomic.AddInt32", "(*internal/sync.Mutex).Unlock", "internal/race.ReleaseMerge", "(*internal/sync.Mutex).unlockSlow", "internal/sync.fatal", "internal/sync.runtime_Semrelease", "sync/atomic.StoreUint32", "sync/atomic.LoadInt64", "sync/atomic.AddInt64"], unfollowed := true, recurses := true, apart := false }
def NetTurnsSaid : Prop := netTurnsRow.holds Try.pinned (OpenSpec.ofChange netTurnsSpec)

/-- ITS FALSE NEIGHBOUR: 'it returns false'. Refute it at one input. -/
def netTurnsWrong : ChangeSpec := { name := "netTurns", fn := fun _ => fun
  | [d1, d2] => { results := [.lit (.bool false)], args := [d1, d2] }
  | _ => none }
def NetTurnsWrongFalsely : Prop := netTurnsRow.holds Try.pinned (OpenSpec.ofChange netTurnsWrong)

/-- 'tracerylaw21.NetCounts': WHATEVER THE INPUT: true; the input reads as it did. -/
def netCountsSpec : ChangeSpec := { name := "netCounts", fn := fun _ => fun
  | [d] => { results := [.lit (.bool true)], args := [d] }
  | _ => none }
def netCountsRow : OpenClaim := { program := "ytdjjfpcfclheiaa", sum := "026dd961fc57773ad182110c2f9396d50d5bf04501ae39917cfa8d8ae4657847", func := "tracery/tracerylaw21.NetCounts", spec := "netCounts", inPlace := ["sync/atomic.LoadUint32", "(*internal/sync.Mutex).Lock", "internal/race.Disable", "sync/atomic.CompareAndSwapInt32", "internal/race.Enable", "internal/race.Acquire", "(*internal/sync.Mutex).lockSlow", "internal/sync.runtime_canSpin", "internal/sync.runtime_doSpin", "internal/sync.throw", "internal/sync.runtime_nanotime", "internal/sync.runtime_SemacquireMutex", "sync/atomic.AddInt32", "(*internal/sync.Mutex).Unlock", "internal/race.ReleaseMerge", "(*internal/sync.Mutex).unlockSlow", "internal/sync.fatal", "internal/sync.runtime_Semrelease", "sync/atomic.StoreUint32", "sync/atomic.LoadInt64", "sync/atomic.AddInt64"], unfollowed := true, recurses := true, apart := false }
def NetCountsSaid : Prop := netCountsRow.holds Try.pinned (OpenSpec.ofChange netCountsSpec)

/-- ITS FALSE NEIGHBOUR: 'it returns false'. Refute it at one input. -/
def netCountsWrong : ChangeSpec := { name := "netCounts", fn := fun _ => fun
  | [d] => { results := [.lit (.bool false)], args := [d] }
  | _ => none }
def NetCountsWrongFalsely : Prop := netCountsRow.holds Try.pinned (OpenSpec.ofChange netCountsWrong)

/-- 'tracerylaw21.NetPlays': WHATEVER THE INPUT: true; the input reads as it did. -/
def netPlaysSpec : ChangeSpec := { name := "netPlays", fn := fun _ => fun
  | [d] => { results := [.lit (.bool true)], args := [d] }
  | _ => none }
def netPlaysRow : OpenClaim := { program := "ytdjjfpcfclheiaa", sum := "026dd961fc57773ad182110c2f9396d50d5bf04501ae39917cfa8d8ae4657847", func := "tracery/tracerylaw21.NetPlays", spec := "netPlays", inPlace := ["sync/atomic.LoadUint32", "(*internal/sync.Mutex).Lock", "internal/race.Disable", "sync/atomic.CompareAndSwapInt32", "internal/race.Enable", "internal/race.Acquire", "(*internal/sync.Mutex).lockSlow", "internal/sync.runtime_canSpin", "internal/sync.runtime_doSpin", "internal/sync.throw", "internal/sync.runtime_nanotime", "internal/sync.runtime_SemacquireMutex", "sync/atomic.AddInt32", "(*internal/sync.Mutex).Unlock", "internal/race.ReleaseMerge", "(*internal/sync.Mutex).unlockSlow", "internal/sync.fatal", "internal/sync.runtime_Semrelease", "sync/atomic.StoreUint32", "sync/atomic.LoadInt64", "sync/atomic.AddInt64", "sync/atomic.StoreInt64"], unfollowed := true, recurses := true, apart := false }
def NetPlaysSaid : Prop := netPlaysRow.holds Try.pinned (OpenSpec.ofChange netPlaysSpec)

/-- ITS FALSE NEIGHBOUR: 'it returns false'. Refute it at one input. -/
def netPlaysWrong : ChangeSpec := { name := "netPlays", fn := fun _ => fun
  | [d] => { results := [.lit (.bool false)], args := [d] }
  | _ => none }
def NetPlaysWrongFalsely : Prop := netPlaysRow.holds Try.pinned (OpenSpec.ofChange netPlaysWrong)

/-- 'tracerylaw21.NetCopies': WHATEVER THE INPUT: true; the input reads as it did. -/
def netCopiesSpec : ChangeSpec := { name := "netCopies", fn := fun _ => fun
  | [d1, d2] => { results := [.lit (.bool true)], args := [d1, d2] }
  | _ => none }
def netCopiesRow : OpenClaim := { program := "ytdjjfpcfclheiaa", sum := "026dd961fc57773ad182110c2f9396d50d5bf04501ae39917cfa8d8ae4657847", func := "tracery/tracerylaw21.NetCopies", spec := "netCopies", inPlace := ["sync/atomic.LoadUint32", "(*internal/sync.Mutex).Lock", "internal/race.Disable", "sync/atomic.CompareAndSwapInt32", "internal/race.Enable", "internal/race.Acquire", "(*internal/sync.Mutex).lockSlow", "internal/sync.runtime_canSpin", "internal/sync.runtime_doSpin", "internal/sync.throw", "internal/sync.runtime_nanotime", "internal/sync.runtime_SemacquireMutex", "sync/atomic.AddInt32", "(*internal/sync.Mutex).Unlock", "internal/race.ReleaseMerge", "(*internal/sync.Mutex).unlockSlow", "internal/sync.fatal", "internal/sync.runtime_Semrelease", "sync/atomic.StoreUint32", "sync/atomic.LoadInt64", "sync/atomic.AddInt64", "sync/atomic.StoreInt64"], unfollowed := true, recurses := true, apart := false }
def NetCopiesSaid : Prop := netCopiesRow.holds Try.pinned (OpenSpec.ofChange netCopiesSpec)

/-- ITS FALSE NEIGHBOUR: 'it returns false'. Refute it at one input. -/
def netCopiesWrong : ChangeSpec := { name := "netCopies", fn := fun _ => fun
  | [d1, d2] => { results := [.lit (.bool false)], args := [d1, d2] }
  | _ => none }
def NetCopiesWrongFalsely : Prop := netCopiesRow.holds Try.pinned (OpenSpec.ofChange netCopiesWrong)

/- THE SECOND FORM. 'bulk': how many values and letters a reading holds, each counted each time it is reached (what is shared counts as often as it is met; a slice's spare places count too). A statement '..UptoSaid' is the law's where the arguments, and the package variables that the reading takes, are together of bulk at most 1048576: NARROWER than '..Said'. Prove '..Said' where nothing that the law and all that it calls make is longer than what came in: it says more and counts as full. Else prove '..UptoSaid'. A law counts once. -/
mutual
def uptoBulk {H : Type} : DataW H → Nat
  | .lit (.string bytes) => bytes.length + 1
  | .lit _ => 1
  | .nil => 1
  | .ptr d => uptoBulk d + 1
  | .slice elems spare => uptoBulkAll elems + uptoBulkAll spare + 1
  | .agg parts => uptoBulkAll parts + 1
  | .iface _ d => uptoBulk d + 1
  | .map entries => uptoBulkEntries entries + 1
  | .held _ => 1
def uptoBulkAll {H : Type} : List (DataW H) → Nat
  | [] => 0
  | d :: r => uptoBulk d + uptoBulkAll r
def uptoBulkEntries {H : Type} : List (Lit × DataW H) → Nat
  | [] => 0
  | x :: r => uptoBulkEntry x + uptoBulkEntries r
def uptoBulkEntry {H : Type} : Lit × DataW H → Nat
  | (.string bytes, d) => bytes.length + uptoBulk d + 1
  | (_, d) => uptoBulk d + 1
 end
def uptoSmall : (H : Type) → List (DataW H) → Bool := fun _ ds => decide (uptoBulkAll ds ≤ 1048576)
def OpenSpec.upto (s : _root_.Go.ChangeSpec) : _root_.Go.OpenSpec := { _root_.Go.OpenSpec.ofChange s with cond := some uptoSmall }

/-- 'tracerylaw02.TallyOrder', WHERE WHAT IT READS IS OF BULK AT MOST 1048576: true; the input reads as it did. -/
def tallyOrderUptoRow : OpenClaim := { program := "ytdjjfpcfclheiaa", sum := "026dd961fc57773ad182110c2f9396d50d5bf04501ae39917cfa8d8ae4657847", func := "tracery/tracerylaw02.TallyOrder", spec := "tallyOrder", inPlace := ["sync/atomic.LoadUint32", "(*internal/sync.Mutex).Lock", "internal/race.Disable", "sync/atomic.CompareAndSwapInt32", "internal/race.Enable", "internal/race.Acquire", "(*internal/sync.Mutex).lockSlow", "internal/sync.runtime_canSpin", "internal/sync.runtime_doSpin", "internal/sync.throw", "internal/sync.runtime_nanotime", "internal/sync.runtime_SemacquireMutex", "sync/atomic.AddInt32", "(*internal/sync.Mutex).Unlock", "internal/race.ReleaseMerge", "(*internal/sync.Mutex).unlockSlow", "internal/sync.fatal", "internal/sync.runtime_Semrelease", "sync/atomic.StoreUint32", "sync/atomic.LoadInt64", "sync/atomic.AddInt64"], unfollowed := true, recurses := true, apart := false, narrowed := true }
def TallyOrderUptoSaid : Prop := tallyOrderUptoRow.holds Try.pinned (OpenSpec.upto tallyOrderSpec)

/-- 'tracerylaw02.TallySum', WHERE WHAT IT READS IS OF BULK AT MOST 1048576: true; the input reads as it did. -/
def tallySumUptoRow : OpenClaim := { program := "ytdjjfpcfclheiaa", sum := "026dd961fc57773ad182110c2f9396d50d5bf04501ae39917cfa8d8ae4657847", func := "tracery/tracerylaw02.TallySum", spec := "tallySum", inPlace := ["sync/atomic.LoadUint32", "(*internal/sync.Mutex).Lock", "internal/race.Disable", "sync/atomic.CompareAndSwapInt32", "internal/race.Enable", "internal/race.Acquire", "(*internal/sync.Mutex).lockSlow", "internal/sync.runtime_canSpin", "internal/sync.runtime_doSpin", "internal/sync.throw", "internal/sync.runtime_nanotime", "internal/sync.runtime_SemacquireMutex", "sync/atomic.AddInt32", "(*internal/sync.Mutex).Unlock", "internal/race.ReleaseMerge", "(*internal/sync.Mutex).unlockSlow", "internal/sync.fatal", "internal/sync.runtime_Semrelease", "sync/atomic.StoreUint32", "sync/atomic.LoadInt64", "sync/atomic.AddInt64"], unfollowed := true, recurses := true, apart := false, narrowed := true }
def TallySumUptoSaid : Prop := tallySumUptoRow.holds Try.pinned (OpenSpec.upto tallySumSpec)

/-- 'tracerylaw02.TallyPlays', WHERE WHAT IT READS IS OF BULK AT MOST 1048576: true; the input reads as it did. -/
def tallyPlaysUptoRow : OpenClaim := { program := "ytdjjfpcfclheiaa", sum := "026dd961fc57773ad182110c2f9396d50d5bf04501ae39917cfa8d8ae4657847", func := "tracery/tracerylaw02.TallyPlays", spec := "tallyPlays", inPlace := ["sync/atomic.LoadUint32", "(*internal/sync.Mutex).Lock", "internal/race.Disable", "sync/atomic.CompareAndSwapInt32", "internal/race.Enable", "internal/race.Acquire", "(*internal/sync.Mutex).lockSlow", "internal/sync.runtime_canSpin", "internal/sync.runtime_doSpin", "internal/sync.throw", "internal/sync.runtime_nanotime", "internal/sync.runtime_SemacquireMutex", "sync/atomic.AddInt32", "(*internal/sync.Mutex).Unlock", "internal/race.ReleaseMerge", "(*internal/sync.Mutex).unlockSlow", "internal/sync.fatal", "internal/sync.runtime_Semrelease", "sync/atomic.StoreUint32", "sync/atomic.LoadInt64", "sync/atomic.AddInt64", "sync/atomic.StoreInt64"], unfollowed := true, recurses := true, apart := false, narrowed := true }
def TallyPlaysUptoSaid : Prop := tallyPlaysUptoRow.holds Try.pinned (OpenSpec.upto tallyPlaysSpec)

/-- 'tracerylaw02.TallyCopies', WHERE WHAT IT READS IS OF BULK AT MOST 1048576: true; the input reads as it did. -/
def tallyCopiesUptoRow : OpenClaim := { program := "ytdjjfpcfclheiaa", sum := "026dd961fc57773ad182110c2f9396d50d5bf04501ae39917cfa8d8ae4657847", func := "tracery/tracerylaw02.TallyCopies", spec := "tallyCopies", inPlace := ["sync/atomic.LoadUint32", "(*internal/sync.Mutex).Lock", "internal/race.Disable", "sync/atomic.CompareAndSwapInt32", "internal/race.Enable", "internal/race.Acquire", "(*internal/sync.Mutex).lockSlow", "internal/sync.runtime_canSpin", "internal/sync.runtime_doSpin", "internal/sync.throw", "internal/sync.runtime_nanotime", "internal/sync.runtime_SemacquireMutex", "sync/atomic.AddInt32", "(*internal/sync.Mutex).Unlock", "internal/race.ReleaseMerge", "(*internal/sync.Mutex).unlockSlow", "internal/sync.fatal", "internal/sync.runtime_Semrelease", "sync/atomic.StoreUint32", "sync/atomic.LoadInt64", "sync/atomic.AddInt64", "sync/atomic.StoreInt64"], unfollowed := true, recurses := true, apart := false, narrowed := true }
def TallyCopiesUptoSaid : Prop := tallyCopiesUptoRow.holds Try.pinned (OpenSpec.upto tallyCopiesSpec)

/-- 'tracerylaw21.NetOrder', WHERE WHAT IT READS IS OF BULK AT MOST 1048576: true; the input reads as it did. -/
def netOrderUptoRow : OpenClaim := { program := "ytdjjfpcfclheiaa", sum := "026dd961fc57773ad182110c2f9396d50d5bf04501ae39917cfa8d8ae4657847", func := "tracery/tracerylaw21.NetOrder", spec := "netOrder", inPlace := ["sync/atomic.LoadUint32", "(*internal/sync.Mutex).Lock", "internal/race.Disable", "sync/atomic.CompareAndSwapInt32", "internal/race.Enable", "internal/race.Acquire", "(*internal/sync.Mutex).lockSlow", "internal/sync.runtime_canSpin", "internal/sync.runtime_doSpin", "internal/sync.throw", "internal/sync.runtime_nanotime", "internal/sync.runtime_SemacquireMutex", "sync/atomic.AddInt32", "(*internal/sync.Mutex).Unlock", "internal/race.ReleaseMerge", "(*internal/sync.Mutex).unlockSlow", "internal/sync.fatal", "internal/sync.runtime_Semrelease", "sync/atomic.StoreUint32", "sync/atomic.LoadInt64", "sync/atomic.AddInt64"], unfollowed := true, recurses := true, apart := false, narrowed := true }
def NetOrderUptoSaid : Prop := netOrderUptoRow.holds Try.pinned (OpenSpec.upto netOrderSpec)

/-- 'tracerylaw21.NetTurns', WHERE WHAT IT READS IS OF BULK AT MOST 1048576: true; the input reads as it did. -/
def netTurnsUptoRow : OpenClaim := { program := "ytdjjfpcfclheiaa", sum := "026dd961fc57773ad182110c2f9396d50d5bf04501ae39917cfa8d8ae4657847", func := "tracery/tracerylaw21.NetTurns", spec := "netTurns", inPlace := ["sync/atomic.LoadUint32", "(*internal/sync.Mutex).Lock", "internal/race.Disable", "sync/atomic.CompareAndSwapInt32", "internal/race.Enable", "internal/race.Acquire", "(*internal/sync.Mutex).lockSlow", "internal/sync.runtime_canSpin", "internal/sync.runtime_doSpin", "internal/sync.throw", "internal/sync.runtime_nanotime", "internal/sync.runtime_SemacquireMutex", "sync/atomic.AddInt32", "(*internal/sync.Mutex).Unlock", "internal/race.ReleaseMerge", "(*internal/sync.Mutex).unlockSlow", "internal/sync.fatal", "internal/sync.runtime_Semrelease", "sync/atomic.StoreUint32", "sync/atomic.LoadInt64", "sync/atomic.AddInt64"], unfollowed := true, recurses := true, apart := false, narrowed := true }
def NetTurnsUptoSaid : Prop := netTurnsUptoRow.holds Try.pinned (OpenSpec.upto netTurnsSpec)

/-- 'tracerylaw21.NetCounts', WHERE WHAT IT READS IS OF BULK AT MOST 1048576: true; the input reads as it did. -/
def netCountsUptoRow : OpenClaim := { program := "ytdjjfpcfclheiaa", sum := "026dd961fc57773ad182110c2f9396d50d5bf04501ae39917cfa8d8ae4657847", func := "tracery/tracerylaw21.NetCounts", spec := "netCounts", inPlace := ["sync/atomic.LoadUint32", "(*internal/sync.Mutex).Lock", "internal/race.Disable", "sync/atomic.CompareAndSwapInt32", "internal/race.Enable", "internal/race.Acquire", "(*internal/sync.Mutex).lockSlow", "internal/sync.runtime_canSpin", "internal/sync.runtime_doSpin", "internal/sync.throw", "internal/sync.runtime_nanotime", "internal/sync.runtime_SemacquireMutex", "sync/atomic.AddInt32", "(*internal/sync.Mutex).Unlock", "internal/race.ReleaseMerge", "(*internal/sync.Mutex).unlockSlow", "internal/sync.fatal", "internal/sync.runtime_Semrelease", "sync/atomic.StoreUint32", "sync/atomic.LoadInt64", "sync/atomic.AddInt64"], unfollowed := true, recurses := true, apart := false, narrowed := true }
def NetCountsUptoSaid : Prop := netCountsUptoRow.holds Try.pinned (OpenSpec.upto netCountsSpec)

/-- 'tracerylaw21.NetPlays', WHERE WHAT IT READS IS OF BULK AT MOST 1048576: true; the input reads as it did. -/
def netPlaysUptoRow : OpenClaim := { program := "ytdjjfpcfclheiaa", sum := "026dd961fc57773ad182110c2f9396d50d5bf04501ae39917cfa8d8ae4657847", func := "tracery/tracerylaw21.NetPlays", spec := "netPlays", inPlace := ["sync/atomic.LoadUint32", "(*internal/sync.Mutex).Lock", "internal/race.Disable", "sync/atomic.CompareAndSwapInt32", "internal/race.Enable", "internal/race.Acquire", "(*internal/sync.Mutex).lockSlow", "internal/sync.runtime_canSpin", "internal/sync.runtime_doSpin", "internal/sync.throw", "internal/sync.runtime_nanotime", "internal/sync.runtime_SemacquireMutex", "sync/atomic.AddInt32", "(*internal/sync.Mutex).Unlock", "internal/race.ReleaseMerge", "(*internal/sync.Mutex).unlockSlow", "internal/sync.fatal", "internal/sync.runtime_Semrelease", "sync/atomic.StoreUint32", "sync/atomic.LoadInt64", "sync/atomic.AddInt64", "sync/atomic.StoreInt64"], unfollowed := true, recurses := true, apart := false, narrowed := true }
def NetPlaysUptoSaid : Prop := netPlaysUptoRow.holds Try.pinned (OpenSpec.upto netPlaysSpec)

/-- 'tracerylaw21.NetCopies', WHERE WHAT IT READS IS OF BULK AT MOST 1048576: true; the input reads as it did. -/
def netCopiesUptoRow : OpenClaim := { program := "ytdjjfpcfclheiaa", sum := "026dd961fc57773ad182110c2f9396d50d5bf04501ae39917cfa8d8ae4657847", func := "tracery/tracerylaw21.NetCopies", spec := "netCopies", inPlace := ["sync/atomic.LoadUint32", "(*internal/sync.Mutex).Lock", "internal/race.Disable", "sync/atomic.CompareAndSwapInt32", "internal/race.Enable", "internal/race.Acquire", "(*internal/sync.Mutex).lockSlow", "internal/sync.runtime_canSpin", "internal/sync.runtime_doSpin", "internal/sync.throw", "internal/sync.runtime_nanotime", "internal/sync.runtime_SemacquireMutex", "sync/atomic.AddInt32", "(*internal/sync.Mutex).Unlock", "internal/race.ReleaseMerge", "(*internal/sync.Mutex).unlockSlow", "internal/sync.fatal", "internal/sync.runtime_Semrelease", "sync/atomic.StoreUint32", "sync/atomic.LoadInt64", "sync/atomic.AddInt64", "sync/atomic.StoreInt64"], unfollowed := true, recurses := true, apart := false, narrowed := true }
def NetCopiesUptoSaid : Prop := netCopiesUptoRow.holds Try.pinned (OpenSpec.upto netCopiesSpec)

end Rows
end Go.Proofs.Ytdjjfpcfclheiaa
