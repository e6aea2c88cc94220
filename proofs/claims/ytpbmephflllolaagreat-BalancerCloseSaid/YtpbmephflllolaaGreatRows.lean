/-
  No cell of these rows narrows 'for every input' (looked for: loops, veiled, ifaces, maps, wideKeys, modest, calm, conditions, laid).
  DERIVED. THE GIVEN ROWS OF THIS SEAT. 5 by the template 'for every input the law returns true; each argument reads behind the call as it read before'; 0 by the template 'total and deterministic' (their statements: YtpbmephflllolaaGreatTotals.lean).
  GIVEN WITH THE SEED: the statements are not yours to turn. If you find one false, say at which input.
  Laid BY PROGRAM, IN A SANDBOX (cutbox-rows.mjs): the forced cells as the released guide's own fill.sh prints them over the translation 538f5824828e2e58… (all of the seat's roots in one cut). By AI agents, Wed Nov 11 2026. No macro, syntax, notation, axiom, sorry.
-/
import Derived.Test.YtpbmephflllolaaGreatChecked
import GoSem.Claim
import GoSem.ClaimJoined
import GoSem.ClaimMapViews
import Derived.JoinedTies
import Derived.KernelRfl
namespace Go.Proofs.YtpbmephflllolaaGreat
/- THE CELL 'sum', in the pinned program and in every row, IS THE sha256 OF THE DUMP (.gsa) THAT YtpbmephflllolaaGreatProg.lean LOADS. Nothing in Lean hashes anything: it is a label: what it is worth is what the hold of that sum in a sandbox is worth. -/
noncomputable def Tryz.pinned : Pinned := { name := "ytpbmephflllolaagreat", sum := "538f5824828e2e583990b3b02b7624dea6d03c9d879881fc3b19205cd9d344de", checked := Tryz.checked }
namespace Rows
def none {H : Type} : Left H := { results := [], args := [] }

/-- 'gangplanklaw24.BalancerDoes': WHATEVER THE INPUT: true; the input reads as it did. -/
def balancerDoesSpec : ChangeSpec := { name := "balancerDoes", fn := fun _ => fun
  | [d1, d2] => { results := [.lit (.bool true)], args := [d1, d2] }
  | _ => none }
def balancerDoesRow : OpenClaim := { program := "ytpbmephflllolaagreat", sum := "538f5824828e2e583990b3b02b7624dea6d03c9d879881fc3b19205cd9d344de", func := "gangplank/gangplanklaw24.BalancerDoes", spec := "balancerDoes", inPlace := ["sync/atomic.StorePointer", "internal/abi.NoEscape", "(*internal/sync.Mutex).Lock", "internal/race.Disable", "sync/atomic.CompareAndSwapInt32", "internal/race.Enable", "internal/race.Acquire", "(*internal/sync.Mutex).lockSlow", "internal/sync.runtime_canSpin", "internal/sync.runtime_doSpin", "internal/sync.throw", "internal/sync.runtime_nanotime", "internal/sync.runtime_SemacquireMutex", "sync/atomic.AddInt32", "(*internal/sync.Mutex).Unlock", "internal/race.ReleaseMerge", "(*internal/sync.Mutex).unlockSlow", "internal/sync.fatal", "internal/sync.runtime_Semrelease", "sync/atomic.LoadPointer"], unfollowed := true, recurses := true, apart := false }
def BalancerDoesSaid : Prop := balancerDoesRow.holds Tryz.pinned (OpenSpec.ofChange balancerDoesSpec)

/-- ITS FALSE NEIGHBOUR: 'it returns false'. Refute it at one input. -/
def balancerDoesWrong : ChangeSpec := { name := "balancerDoes", fn := fun _ => fun
  | [d1, d2] => { results := [.lit (.bool false)], args := [d1, d2] }
  | _ => none }
def BalancerDoesWrongFalsely : Prop := balancerDoesRow.holds Tryz.pinned (OpenSpec.ofChange balancerDoesWrong)

/-- 'gangplanklaw24.BalancerApart': WHATEVER THE INPUT: true; the input reads as it did. -/
def balancerApartSpec : ChangeSpec := { name := "balancerApart", fn := fun _ => fun
  | [d1, d2, d3] => { results := [.lit (.bool true)], args := [d1, d2, d3] }
  | _ => none }
def balancerApartRow : OpenClaim := { program := "ytpbmephflllolaagreat", sum := "538f5824828e2e583990b3b02b7624dea6d03c9d879881fc3b19205cd9d344de", func := "gangplank/gangplanklaw24.BalancerApart", spec := "balancerApart", inPlace := ["sync/atomic.StorePointer", "internal/abi.NoEscape", "(*internal/sync.Mutex).Lock", "internal/race.Disable", "sync/atomic.CompareAndSwapInt32", "internal/race.Enable", "internal/race.Acquire", "(*internal/sync.Mutex).lockSlow", "internal/sync.runtime_canSpin", "internal/sync.runtime_doSpin", "internal/sync.throw", "internal/sync.runtime_nanotime", "internal/sync.runtime_SemacquireMutex", "sync/atomic.AddInt32", "(*internal/sync.Mutex).Unlock", "internal/race.ReleaseMerge", "(*internal/sync.Mutex).unlockSlow", "internal/sync.fatal", "internal/sync.runtime_Semrelease", "sync/atomic.LoadPointer"], unfollowed := true, recurses := true, apart := false }
def BalancerApartSaid : Prop := balancerApartRow.holds Tryz.pinned (OpenSpec.ofChange balancerApartSpec)

/-- ITS FALSE NEIGHBOUR: 'it returns false'. Refute it at one input. -/
def balancerApartWrong : ChangeSpec := { name := "balancerApart", fn := fun _ => fun
  | [d1, d2, d3] => { results := [.lit (.bool false)], args := [d1, d2, d3] }
  | _ => none }
def BalancerApartWrongFalsely : Prop := balancerApartRow.holds Tryz.pinned (OpenSpec.ofChange balancerApartWrong)

/-- 'gangplanklaw24.BalancerClose': WHATEVER THE INPUT: true; the input reads as it did. -/
def balancerCloseSpec : ChangeSpec := { name := "balancerClose", fn := fun _ => fun
  | [d1, d2, d3, d4] => { results := [.lit (.bool true)], args := [d1, d2, d3, d4] }
  | _ => none }
def balancerCloseRow : OpenClaim := { program := "ytpbmephflllolaagreat", sum := "538f5824828e2e583990b3b02b7624dea6d03c9d879881fc3b19205cd9d344de", func := "gangplank/gangplanklaw24.BalancerClose", spec := "balancerClose", inPlace := ["sync/atomic.StorePointer", "internal/abi.NoEscape", "(*internal/sync.Mutex).Lock", "internal/race.Disable", "sync/atomic.CompareAndSwapInt32", "internal/race.Enable", "internal/race.Acquire", "(*internal/sync.Mutex).lockSlow", "internal/sync.runtime_canSpin", "internal/sync.runtime_doSpin", "internal/sync.throw", "internal/sync.runtime_nanotime", "internal/sync.runtime_SemacquireMutex", "sync/atomic.AddInt32", "(*internal/sync.Mutex).Unlock", "internal/race.ReleaseMerge", "(*internal/sync.Mutex).unlockSlow", "internal/sync.fatal", "internal/sync.runtime_Semrelease", "sync/atomic.LoadPointer"], unfollowed := true, recurses := true, apart := false }
def BalancerCloseSaid : Prop := balancerCloseRow.holds Tryz.pinned (OpenSpec.ofChange balancerCloseSpec)

/-- ITS FALSE NEIGHBOUR: 'it returns false'. Refute it at one input. -/
def balancerCloseWrong : ChangeSpec := { name := "balancerClose", fn := fun _ => fun
  | [d1, d2, d3, d4] => { results := [.lit (.bool false)], args := [d1, d2, d3, d4] }
  | _ => none }
def BalancerCloseWrongFalsely : Prop := balancerCloseRow.holds Tryz.pinned (OpenSpec.ofChange balancerCloseWrong)

/-- 'gangplanklaw24.BalancerModel': WHATEVER THE INPUT: true; the input reads as it did. -/
def balancerModelSpec : ChangeSpec := { name := "balancerModel", fn := fun _ => fun
  | [d1, d2] => { results := [.lit (.bool true)], args := [d1, d2] }
  | _ => none }
def balancerModelRow : OpenClaim := { program := "ytpbmephflllolaagreat", sum := "538f5824828e2e583990b3b02b7624dea6d03c9d879881fc3b19205cd9d344de", func := "gangplank/gangplanklaw24.BalancerModel", spec := "balancerModel", inPlace := ["sync/atomic.StorePointer", "internal/abi.NoEscape", "(*internal/sync.Mutex).Lock", "internal/race.Disable", "sync/atomic.CompareAndSwapInt32", "internal/race.Enable", "internal/race.Acquire", "(*internal/sync.Mutex).lockSlow", "internal/sync.runtime_canSpin", "internal/sync.runtime_doSpin", "internal/sync.throw", "internal/sync.runtime_nanotime", "internal/sync.runtime_SemacquireMutex", "sync/atomic.AddInt32", "(*internal/sync.Mutex).Unlock", "internal/race.ReleaseMerge", "(*internal/sync.Mutex).unlockSlow", "internal/sync.fatal", "internal/sync.runtime_Semrelease", "sync/atomic.LoadPointer"], unfollowed := true, recurses := true, apart := false }
def BalancerModelSaid : Prop := balancerModelRow.holds Tryz.pinned (OpenSpec.ofChange balancerModelSpec)

/-- ITS FALSE NEIGHBOUR: 'it returns false'. Refute it at one input. -/
def balancerModelWrong : ChangeSpec := { name := "balancerModel", fn := fun _ => fun
  | [d1, d2] => { results := [.lit (.bool false)], args := [d1, d2] }
  | _ => none }
def BalancerModelWrongFalsely : Prop := balancerModelRow.holds Tryz.pinned (OpenSpec.ofChange balancerModelWrong)

/-- 'gangplanklaw24.BalancerTwice': WHATEVER THE INPUT: true; the input reads as it did. -/
def balancerTwiceSpec : ChangeSpec := { name := "balancerTwice", fn := fun _ => fun
  | [d1, d2, d3] => { results := [.lit (.bool true)], args := [d1, d2, d3] }
  | _ => none }
def balancerTwiceRow : OpenClaim := { program := "ytpbmephflllolaagreat", sum := "538f5824828e2e583990b3b02b7624dea6d03c9d879881fc3b19205cd9d344de", func := "gangplank/gangplanklaw24.BalancerTwice", spec := "balancerTwice", inPlace := ["sync/atomic.StorePointer", "internal/abi.NoEscape", "(*internal/sync.Mutex).Lock", "internal/race.Disable", "sync/atomic.CompareAndSwapInt32", "internal/race.Enable", "internal/race.Acquire", "(*internal/sync.Mutex).lockSlow", "internal/sync.runtime_canSpin", "internal/sync.runtime_doSpin", "internal/sync.throw", "internal/sync.runtime_nanotime", "internal/sync.runtime_SemacquireMutex", "sync/atomic.AddInt32", "(*internal/sync.Mutex).Unlock", "internal/race.ReleaseMerge", "(*internal/sync.Mutex).unlockSlow", "internal/sync.fatal", "internal/sync.runtime_Semrelease", "sync/atomic.LoadPointer"], unfollowed := true, recurses := true, apart := false }
def BalancerTwiceSaid : Prop := balancerTwiceRow.holds Tryz.pinned (OpenSpec.ofChange balancerTwiceSpec)

/-- ITS FALSE NEIGHBOUR: 'it returns false'. Refute it at one input. -/
def balancerTwiceWrong : ChangeSpec := { name := "balancerTwice", fn := fun _ => fun
  | [d1, d2, d3] => { results := [.lit (.bool false)], args := [d1, d2, d3] }
  | _ => none }
def BalancerTwiceWrongFalsely : Prop := balancerTwiceRow.holds Tryz.pinned (OpenSpec.ofChange balancerTwiceWrong)

/- THE SECOND FORM. 'bulk': how many values and letters a reading holds, each counted each time it is reached (what is shared counts as often as it is met; a slice's spare places count too). A statement '..UptoSaid' is the law's where the arguments, and the package variables that the reading takes, are together of bulk at most 1048576: NARROWER than '..Said'. Prove '..Said' where nothing that the law and all that it calls make is longer than what came in: it says more and counts as full. Else prove '..UptoSaid'. A law counts once. -/
mutual
def uptoBulk {H : Type} : DataW H → Nat
  | .lit (.string bytes) => bytes.length + 1
  | .lit _ => 1
  | .nil => 1
  | .ptr d => uptoBulk d + 1
  | .slice elems spare => uptoBulkAll elems + uptoBulkAll spare + 1
  | .agg parts => uptoBulkAll parts + 1
  | .iface _ d => uptoBulk d + 1
  | .map entries => uptoBulkEntries entries + 1
  | .held _ => 1
def uptoBulkAll {H : Type} : List (DataW H) → Nat
  | [] => 0
  | d :: r => uptoBulk d + uptoBulkAll r
def uptoBulkEntries {H : Type} : List (Lit × DataW H) → Nat
  | [] => 0
  | x :: r => uptoBulkEntry x + uptoBulkEntries r
def uptoBulkEntry {H : Type} : Lit × DataW H → Nat
  | (.string bytes, d) => bytes.length + uptoBulk d + 1
  | (_, d) => uptoBulk d + 1
 end
def uptoSmall : (H : Type) → List (DataW H) → Bool := fun _ ds => decide (uptoBulkAll ds ≤ 1048576)
def OpenSpec.upto (s : _root_.Go.ChangeSpec) : _root_.Go.OpenSpec := { _root_.Go.OpenSpec.ofChange s with cond := some uptoSmall }

/-- 'gangplanklaw24.BalancerDoes', WHERE WHAT IT READS IS OF BULK AT MOST 1048576: true; the input reads as it did. -/
def balancerDoesUptoRow : OpenClaim := { program := "ytpbmephflllolaagreat", sum := "538f5824828e2e583990b3b02b7624dea6d03c9d879881fc3b19205cd9d344de", func := "gangplank/gangplanklaw24.BalancerDoes", spec := "balancerDoes", inPlace := ["sync/atomic.StorePointer", "internal/abi.NoEscape", "(*internal/sync.Mutex).Lock", "internal/race.Disable", "sync/atomic.CompareAndSwapInt32", "internal/race.Enable", "internal/race.Acquire", "(*internal/sync.Mutex).lockSlow", "internal/sync.runtime_canSpin", "internal/sync.runtime_doSpin", "internal/sync.throw", "internal/sync.runtime_nanotime", "internal/sync.runtime_SemacquireMutex", "sync/atomic.AddInt32", "(*internal/sync.Mutex).Unlock", "internal/race.ReleaseMerge", "(*internal/sync.Mutex).unlockSlow", "internal/sync.fatal", "internal/sync.runtime_Semrelease", "sync/atomic.LoadPointer"], unfollowed := true, recurses := true, apart := false, narrowed := true }
def BalancerDoesUptoSaid : Prop := balancerDoesUptoRow.holds Tryz.pinned (OpenSpec.upto balancerDoesSpec)

/-- 'gangplanklaw24.BalancerApart', WHERE WHAT IT READS IS OF BULK AT MOST 1048576: true; the input reads as it did. -/
def balancerApartUptoRow : OpenClaim := { program := "ytpbmephflllolaagreat", sum := "538f5824828e2e583990b3b02b7624dea6d03c9d879881fc3b19205cd9d344de", func := "gangplank/gangplanklaw24.BalancerApart", spec := "balancerApart", inPlace := ["sync/atomic.StorePointer", "internal/abi.NoEscape", "(*internal/sync.Mutex).Lock", "internal/race.Disable", "sync/atomic.CompareAndSwapInt32", "internal/race.Enable", "internal/race.Acquire", "(*internal/sync.Mutex).lockSlow", "internal/sync.runtime_canSpin", "internal/sync.runtime_doSpin", "internal/sync.throw", "internal/sync.runtime_nanotime", "internal/sync.runtime_SemacquireMutex", "sync/atomic.AddInt32", "(*internal/sync.Mutex).Unlock", "internal/race.ReleaseMerge", "(*internal/sync.Mutex).unlockSlow", "internal/sync.fatal", "internal/sync.runtime_Semrelease", "sync/atomic.LoadPointer"], unfollowed := true, recurses := true, apart := false, narrowed := true }
def BalancerApartUptoSaid : Prop := balancerApartUptoRow.holds Tryz.pinned (OpenSpec.upto balancerApartSpec)

/-- 'gangplanklaw24.BalancerClose', WHERE WHAT IT READS IS OF BULK AT MOST 1048576: true; the input reads as it did. -/
def balancerCloseUptoRow : OpenClaim := { program := "ytpbmephflllolaagreat", sum := "538f5824828e2e583990b3b02b7624dea6d03c9d879881fc3b19205cd9d344de", func := "gangplank/gangplanklaw24.BalancerClose", spec := "balancerClose", inPlace := ["sync/atomic.StorePointer", "internal/abi.NoEscape", "(*internal/sync.Mutex).Lock", "internal/race.Disable", "sync/atomic.CompareAndSwapInt32", "internal/race.Enable", "internal/race.Acquire", "(*internal/sync.Mutex).lockSlow", "internal/sync.runtime_canSpin", "internal/sync.runtime_doSpin", "internal/sync.throw", "internal/sync.runtime_nanotime", "internal/sync.runtime_SemacquireMutex", "sync/atomic.AddInt32", "(*internal/sync.Mutex).Unlock", "internal/race.ReleaseMerge", "(*internal/sync.Mutex).unlockSlow", "internal/sync.fatal", "internal/sync.runtime_Semrelease", "sync/atomic.LoadPointer"], unfollowed := true, recurses := true, apart := false, narrowed := true }
def BalancerCloseUptoSaid : Prop := balancerCloseUptoRow.holds Tryz.pinned (OpenSpec.upto balancerCloseSpec)

/-- 'gangplanklaw24.BalancerModel', WHERE WHAT IT READS IS OF BULK AT MOST 1048576: true; the input reads as it did. -/
def balancerModelUptoRow : OpenClaim := { program := "ytpbmephflllolaagreat", sum := "538f5824828e2e583990b3b02b7624dea6d03c9d879881fc3b19205cd9d344de", func := "gangplank/gangplanklaw24.BalancerModel", spec := "balancerModel", inPlace := ["sync/atomic.StorePointer", "internal/abi.NoEscape", "(*internal/sync.Mutex).Lock", "internal/race.Disable", "sync/atomic.CompareAndSwapInt32", "internal/race.Enable", "internal/race.Acquire", "(*internal/sync.Mutex).lockSlow", "internal/sync.runtime_canSpin", "internal/sync.runtime_doSpin", "internal/sync.throw", "internal/sync.runtime_nanotime", "internal/sync.runtime_SemacquireMutex", "sync/atomic.AddInt32", "(*internal/sync.Mutex).Unlock", "internal/race.ReleaseMerge", "(*internal/sync.Mutex).unlockSlow", "internal/sync.fatal", "internal/sync.runtime_Semrelease", "sync/atomic.LoadPointer"], unfollowed := true, recurses := true, apart := false, narrowed := true }
def BalancerModelUptoSaid : Prop := balancerModelUptoRow.holds Tryz.pinned (OpenSpec.upto balancerModelSpec)

/-- 'gangplanklaw24.BalancerTwice', WHERE WHAT IT READS IS OF BULK AT MOST 1048576: true; the input reads as it did. -/
def balancerTwiceUptoRow : OpenClaim := { program := "ytpbmephflllolaagreat", sum := "538f5824828e2e583990b3b02b7624dea6d03c9d879881fc3b19205cd9d344de", func := "gangplank/gangplanklaw24.BalancerTwice", spec := "balancerTwice", inPlace := ["sync/atomic.StorePointer", "internal/abi.NoEscape", "(*internal/sync.Mutex).Lock", "internal/race.Disable", "sync/atomic.CompareAndSwapInt32", "internal/race.Enable", "internal/race.Acquire", "(*internal/sync.Mutex).lockSlow", "internal/sync.runtime_canSpin", "internal/sync.runtime_doSpin", "internal/sync.throw", "internal/sync.runtime_nanotime", "internal/sync.runtime_SemacquireMutex", "sync/atomic.AddInt32", "(*internal/sync.Mutex).Unlock", "internal/race.ReleaseMerge", "(*internal/sync.Mutex).unlockSlow", "internal/sync.fatal", "internal/sync.runtime_Semrelease", "sync/atomic.LoadPointer"], unfollowed := true, recurses := true, apart := false, narrowed := true }
def BalancerTwiceUptoSaid : Prop := balancerTwiceUptoRow.holds Tryz.pinned (OpenSpec.upto balancerTwiceSpec)

end Rows
end Go.Proofs.YtpbmephflllolaaGreat
