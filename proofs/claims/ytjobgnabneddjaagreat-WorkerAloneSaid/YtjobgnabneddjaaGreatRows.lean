/-
  No cell of these rows narrows 'for every input' (looked for: loops, veiled, ifaces, maps, wideKeys, modest, calm, conditions, laid).
  DERIVED. THE GIVEN ROWS OF THIS SEAT. 11 by the template 'for every input the law returns true; each argument reads behind the call as it read before'; 0 by the template 'total and deterministic' (their statements: YtjobgnabneddjaaGreatTotals.lean).
  GIVEN WITH THE SEED: the statements are not yours to turn. If you find one false, say at which input.
  Laid BY PROGRAM, IN A SANDBOX (cutbox-rows.mjs): the forced cells as the released guide's own fill.sh prints them over the translation 3af703e27c4e2564… (all of the seat's roots in one cut). By AI agents, Wed Nov 11 2026. No macro, syntax, notation, axiom, sorry.
-/
import Derived.Test.YtjobgnabneddjaaGreatChecked
import GoSem.Claim
import GoSem.ClaimJoined
import GoSem.ClaimMapViews
import Derived.JoinedTies
import Derived.KernelRfl
namespace Go.Proofs.YtjobgnabneddjaaGreat
/- THE CELL 'sum', in the pinned program and in every row, IS THE sha256 OF THE DUMP (.gsa) THAT YtjobgnabneddjaaGreatProg.lean LOADS. Nothing in Lean hashes anything: it is a label: what it is worth is what the hold of that sum in a sandbox is worth. -/
noncomputable def Tryz.pinned : Pinned := { name := "ytjobgnabneddjaagreat", sum := "3af703e27c4e2564d7801bb6b2f851c094ba8dc38ca59a7e2c103d7ee14f6686", checked := Tryz.checked }
namespace Rows
def none {H : Type} : Left H := { results := [], args := [] }

/-- 'gangplanklaw19.WorkerWaits': WHATEVER THE INPUT: true; the input reads as it did. -/
def workerWaitsSpec : ChangeSpec := { name := "workerWaits", fn := fun _ => fun
  | [d1, d2, d3, d4] => { results := [.lit (.bool true)], args := [d1, d2, d3, d4] }
  | _ => none }
def workerWaitsRow : OpenClaim := { program := "ytjobgnabneddjaagreat", sum := "3af703e27c4e2564d7801bb6b2f851c094ba8dc38ca59a7e2c103d7ee14f6686", func := "gangplank/gangplanklaw19.WorkerWaits", spec := "workerWaits", inPlace := ["internal/abi.NoEscape", "sync/atomic.AddInt64"], unfollowed := true, recurses := true, apart := false }
def WorkerWaitsSaid : Prop := workerWaitsRow.holds Tryz.pinned (OpenSpec.ofChange workerWaitsSpec)

/-- ITS FALSE NEIGHBOUR: 'it returns false'. Refute it at one input. -/
def workerWaitsWrong : ChangeSpec := { name := "workerWaits", fn := fun _ => fun
  | [d1, d2, d3, d4] => { results := [.lit (.bool false)], args := [d1, d2, d3, d4] }
  | _ => none }
def WorkerWaitsWrongFalsely : Prop := workerWaitsRow.holds Tryz.pinned (OpenSpec.ofChange workerWaitsWrong)

/-- 'gangplanklaw20.ControlBusy': WHATEVER THE INPUT: true; the input reads as it did. -/
def controlBusySpec : ChangeSpec := { name := "controlBusy", fn := fun _ => fun
  | [d1, d2, d3] => { results := [.lit (.bool true)], args := [d1, d2, d3] }
  | _ => none }
def controlBusyRow : OpenClaim := { program := "ytjobgnabneddjaagreat", sum := "3af703e27c4e2564d7801bb6b2f851c094ba8dc38ca59a7e2c103d7ee14f6686", func := "gangplank/gangplanklaw20.ControlBusy", spec := "controlBusy", inPlace := ["sync/atomic.AddInt64"], unfollowed := true, recurses := true, apart := false }
def ControlBusySaid : Prop := controlBusyRow.holds Tryz.pinned (OpenSpec.ofChange controlBusySpec)

/-- ITS FALSE NEIGHBOUR: 'it returns false'. Refute it at one input. -/
def controlBusyWrong : ChangeSpec := { name := "controlBusy", fn := fun _ => fun
  | [d1, d2, d3] => { results := [.lit (.bool false)], args := [d1, d2, d3] }
  | _ => none }
def ControlBusyWrongFalsely : Prop := controlBusyRow.holds Tryz.pinned (OpenSpec.ofChange controlBusyWrong)

/-- 'gangplanklaw20.ControlLocks': WHATEVER THE INPUT: true; the input reads as it did. -/
def controlLocksSpec : ChangeSpec := { name := "controlLocks", fn := fun _ => fun
  | [d1, d2, d3, d4, d5] => { results := [.lit (.bool true)], args := [d1, d2, d3, d4, d5] }
  | _ => none }
def controlLocksRow : OpenClaim := { program := "ytjobgnabneddjaagreat", sum := "3af703e27c4e2564d7801bb6b2f851c094ba8dc38ca59a7e2c103d7ee14f6686", func := "gangplank/gangplanklaw20.ControlLocks", spec := "controlLocks", inPlace := ["sync/atomic.AddInt64"], unfollowed := true, recurses := true, apart := false }
def ControlLocksSaid : Prop := controlLocksRow.holds Tryz.pinned (OpenSpec.ofChange controlLocksSpec)

/-- ITS FALSE NEIGHBOUR: 'it returns false'. Refute it at one input. -/
def controlLocksWrong : ChangeSpec := { name := "controlLocks", fn := fun _ => fun
  | [d1, d2, d3, d4, d5] => { results := [.lit (.bool false)], args := [d1, d2, d3, d4, d5] }
  | _ => none }
def ControlLocksWrongFalsely : Prop := controlLocksRow.holds Tryz.pinned (OpenSpec.ofChange controlLocksWrong)

/-- 'gangplanklaw20.ControlSteps': WHATEVER THE INPUT: true; the input reads as it did. -/
def controlStepsSpec : ChangeSpec := { name := "controlSteps", fn := fun _ => fun
  | [d1, d2, d3, d4] => { results := [.lit (.bool true)], args := [d1, d2, d3, d4] }
  | _ => none }
def controlStepsRow : OpenClaim := { program := "ytjobgnabneddjaagreat", sum := "3af703e27c4e2564d7801bb6b2f851c094ba8dc38ca59a7e2c103d7ee14f6686", func := "gangplank/gangplanklaw20.ControlSteps", spec := "controlSteps", inPlace := ["sync/atomic.AddInt64"], unfollowed := true, recurses := true, apart := false }
def ControlStepsSaid : Prop := controlStepsRow.holds Tryz.pinned (OpenSpec.ofChange controlStepsSpec)

/-- ITS FALSE NEIGHBOUR: 'it returns false'. Refute it at one input. -/
def controlStepsWrong : ChangeSpec := { name := "controlSteps", fn := fun _ => fun
  | [d1, d2, d3, d4] => { results := [.lit (.bool false)], args := [d1, d2, d3, d4] }
  | _ => none }
def ControlStepsWrongFalsely : Prop := controlStepsRow.holds Tryz.pinned (OpenSpec.ofChange controlStepsWrong)

/-- 'gangplanklaw20.ControlSame': WHATEVER THE INPUT: true; the input reads as it did. -/
def controlSameSpec : ChangeSpec := { name := "controlSame", fn := fun _ => fun
  | [d1, d2, d3, d4] => { results := [.lit (.bool true)], args := [d1, d2, d3, d4] }
  | _ => none }
def controlSameRow : OpenClaim := { program := "ytjobgnabneddjaagreat", sum := "3af703e27c4e2564d7801bb6b2f851c094ba8dc38ca59a7e2c103d7ee14f6686", func := "gangplank/gangplanklaw20.ControlSame", spec := "controlSame", inPlace := ["sync/atomic.AddInt64"], unfollowed := true, recurses := true, apart := false }
def ControlSameSaid : Prop := controlSameRow.holds Tryz.pinned (OpenSpec.ofChange controlSameSpec)

/-- ITS FALSE NEIGHBOUR: 'it returns false'. Refute it at one input. -/
def controlSameWrong : ChangeSpec := { name := "controlSame", fn := fun _ => fun
  | [d1, d2, d3, d4] => { results := [.lit (.bool false)], args := [d1, d2, d3, d4] }
  | _ => none }
def ControlSameWrongFalsely : Prop := controlSameRow.holds Tryz.pinned (OpenSpec.ofChange controlSameWrong)

/-- 'gangplanklaw20.ControlSlots': WHATEVER THE INPUT: true; the input reads as it did. -/
def controlSlotsSpec : ChangeSpec := { name := "controlSlots", fn := fun _ => fun
  | [d1, d2, d3, d4] => { results := [.lit (.bool true)], args := [d1, d2, d3, d4] }
  | _ => none }
def controlSlotsRow : OpenClaim := { program := "ytjobgnabneddjaagreat", sum := "3af703e27c4e2564d7801bb6b2f851c094ba8dc38ca59a7e2c103d7ee14f6686", func := "gangplank/gangplanklaw20.ControlSlots", spec := "controlSlots", inPlace := ["sync/atomic.AddInt64"], unfollowed := true, recurses := true, apart := false }
def ControlSlotsSaid : Prop := controlSlotsRow.holds Tryz.pinned (OpenSpec.ofChange controlSlotsSpec)

/-- ITS FALSE NEIGHBOUR: 'it returns false'. Refute it at one input. -/
def controlSlotsWrong : ChangeSpec := { name := "controlSlots", fn := fun _ => fun
  | [d1, d2, d3, d4] => { results := [.lit (.bool false)], args := [d1, d2, d3, d4] }
  | _ => none }
def ControlSlotsWrongFalsely : Prop := controlSlotsRow.holds Tryz.pinned (OpenSpec.ofChange controlSlotsWrong)

/-- 'gangplanklaw19.WorkerSteps': WHATEVER THE INPUT: true; the input reads as it did. -/
def workerStepsSpec : ChangeSpec := { name := "workerSteps", fn := fun _ => fun
  | [d1, d2, d3, d4] => { results := [.lit (.bool true)], args := [d1, d2, d3, d4] }
  | _ => none }
def workerStepsRow : OpenClaim := { program := "ytjobgnabneddjaagreat", sum := "3af703e27c4e2564d7801bb6b2f851c094ba8dc38ca59a7e2c103d7ee14f6686", func := "gangplank/gangplanklaw19.WorkerSteps", spec := "workerSteps", inPlace := ["internal/abi.NoEscape", "sync/atomic.AddInt64"], unfollowed := true, recurses := true, apart := false }
def WorkerStepsSaid : Prop := workerStepsRow.holds Tryz.pinned (OpenSpec.ofChange workerStepsSpec)

/-- ITS FALSE NEIGHBOUR: 'it returns false'. Refute it at one input. -/
def workerStepsWrong : ChangeSpec := { name := "workerSteps", fn := fun _ => fun
  | [d1, d2, d3, d4] => { results := [.lit (.bool false)], args := [d1, d2, d3, d4] }
  | _ => none }
def WorkerStepsWrongFalsely : Prop := workerStepsRow.holds Tryz.pinned (OpenSpec.ofChange workerStepsWrong)

/-- 'gangplanklaw19.WorkerPinned': WHATEVER THE INPUT: true; the input reads as it did. -/
def workerPinnedSpec : ChangeSpec := { name := "workerPinned", fn := fun _ => fun
  | [d1, d2, d3, d4] => { results := [.lit (.bool true)], args := [d1, d2, d3, d4] }
  | _ => none }
def workerPinnedRow : OpenClaim := { program := "ytjobgnabneddjaagreat", sum := "3af703e27c4e2564d7801bb6b2f851c094ba8dc38ca59a7e2c103d7ee14f6686", func := "gangplank/gangplanklaw19.WorkerPinned", spec := "workerPinned", inPlace := ["internal/abi.NoEscape", "sync/atomic.AddInt64"], unfollowed := true, recurses := true, apart := false }
def WorkerPinnedSaid : Prop := workerPinnedRow.holds Tryz.pinned (OpenSpec.ofChange workerPinnedSpec)

/-- ITS FALSE NEIGHBOUR: 'it returns false'. Refute it at one input. -/
def workerPinnedWrong : ChangeSpec := { name := "workerPinned", fn := fun _ => fun
  | [d1, d2, d3, d4] => { results := [.lit (.bool false)], args := [d1, d2, d3, d4] }
  | _ => none }
def WorkerPinnedWrongFalsely : Prop := workerPinnedRow.holds Tryz.pinned (OpenSpec.ofChange workerPinnedWrong)

/-- 'gangplanklaw19.WorkerTwo': WHATEVER THE INPUT: true; the input reads as it did. -/
def workerTwoSpec : ChangeSpec := { name := "workerTwo", fn := fun _ => fun
  | [d1, d2, d3, d4] => { results := [.lit (.bool true)], args := [d1, d2, d3, d4] }
  | _ => none }
def workerTwoRow : OpenClaim := { program := "ytjobgnabneddjaagreat", sum := "3af703e27c4e2564d7801bb6b2f851c094ba8dc38ca59a7e2c103d7ee14f6686", func := "gangplank/gangplanklaw19.WorkerTwo", spec := "workerTwo", inPlace := ["internal/abi.NoEscape", "sync/atomic.AddInt64"], unfollowed := true, recurses := true, apart := false }
def WorkerTwoSaid : Prop := workerTwoRow.holds Tryz.pinned (OpenSpec.ofChange workerTwoSpec)

/-- ITS FALSE NEIGHBOUR: 'it returns false'. Refute it at one input. -/
def workerTwoWrong : ChangeSpec := { name := "workerTwo", fn := fun _ => fun
  | [d1, d2, d3, d4] => { results := [.lit (.bool false)], args := [d1, d2, d3, d4] }
  | _ => none }
def WorkerTwoWrongFalsely : Prop := workerTwoRow.holds Tryz.pinned (OpenSpec.ofChange workerTwoWrong)

/-- 'gangplanklaw19.WorkerAlone': WHATEVER THE INPUT: true; the input reads as it did. -/
def workerAloneSpec : ChangeSpec := { name := "workerAlone", fn := fun _ => fun
  | [d1, d2, d3, d4, d5] => { results := [.lit (.bool true)], args := [d1, d2, d3, d4, d5] }
  | _ => none }
def workerAloneRow : OpenClaim := { program := "ytjobgnabneddjaagreat", sum := "3af703e27c4e2564d7801bb6b2f851c094ba8dc38ca59a7e2c103d7ee14f6686", func := "gangplank/gangplanklaw19.WorkerAlone", spec := "workerAlone", inPlace := ["internal/abi.NoEscape", "sync/atomic.AddInt64"], unfollowed := true, recurses := true, apart := false }
def WorkerAloneSaid : Prop := workerAloneRow.holds Tryz.pinned (OpenSpec.ofChange workerAloneSpec)

/-- ITS FALSE NEIGHBOUR: 'it returns false'. Refute it at one input. -/
def workerAloneWrong : ChangeSpec := { name := "workerAlone", fn := fun _ => fun
  | [d1, d2, d3, d4, d5] => { results := [.lit (.bool false)], args := [d1, d2, d3, d4, d5] }
  | _ => none }
def WorkerAloneWrongFalsely : Prop := workerAloneRow.holds Tryz.pinned (OpenSpec.ofChange workerAloneWrong)

/-- 'gangplanklaw20.ControlAlone': WHATEVER THE INPUT: true; the input reads as it did. -/
def controlAloneSpec : ChangeSpec := { name := "controlAlone", fn := fun _ => fun
  | [d1, d2, d3] => { results := [.lit (.bool true)], args := [d1, d2, d3] }
  | _ => none }
def controlAloneRow : OpenClaim := { program := "ytjobgnabneddjaagreat", sum := "3af703e27c4e2564d7801bb6b2f851c094ba8dc38ca59a7e2c103d7ee14f6686", func := "gangplank/gangplanklaw20.ControlAlone", spec := "controlAlone", inPlace := ["sync/atomic.AddInt64"], unfollowed := true, recurses := true, apart := false }
def ControlAloneSaid : Prop := controlAloneRow.holds Tryz.pinned (OpenSpec.ofChange controlAloneSpec)

/-- ITS FALSE NEIGHBOUR: 'it returns false'. Refute it at one input. -/
def controlAloneWrong : ChangeSpec := { name := "controlAlone", fn := fun _ => fun
  | [d1, d2, d3] => { results := [.lit (.bool false)], args := [d1, d2, d3] }
  | _ => none }
def ControlAloneWrongFalsely : Prop := controlAloneRow.holds Tryz.pinned (OpenSpec.ofChange controlAloneWrong)

/- THE SECOND FORM. 'bulk': how many values and letters a reading holds, each counted each time it is reached (what is shared counts as often as it is met; a slice's spare places count too). A statement '..UptoSaid' is the law's where the arguments, and the package variables that the reading takes, are together of bulk at most 1048576: NARROWER than '..Said'. Prove '..Said' where nothing that the law and all that it calls make is longer than what came in: it says more and counts as full. Else prove '..UptoSaid'. A law counts once. -/
mutual
def uptoBulk {H : Type} : DataW H → Nat
  | .lit (.string bytes) => bytes.length + 1
  | .lit _ => 1
  | .nil => 1
  | .ptr d => uptoBulk d + 1
  | .slice elems spare => uptoBulkAll elems + uptoBulkAll spare + 1
  | .agg parts => uptoBulkAll parts + 1
  | .iface _ d => uptoBulk d + 1
  | .map entries => uptoBulkEntries entries + 1
  | .held _ => 1
def uptoBulkAll {H : Type} : List (DataW H) → Nat
  | [] => 0
  | d :: r => uptoBulk d + uptoBulkAll r
def uptoBulkEntries {H : Type} : List (Lit × DataW H) → Nat
  | [] => 0
  | x :: r => uptoBulkEntry x + uptoBulkEntries r
def uptoBulkEntry {H : Type} : Lit × DataW H → Nat
  | (.string bytes, d) => bytes.length + uptoBulk d + 1
  | (_, d) => uptoBulk d + 1
 end
def uptoSmall : (H : Type) → List (DataW H) → Bool := fun _ ds => decide (uptoBulkAll ds ≤ 1048576)
def OpenSpec.upto (s : _root_.Go.ChangeSpec) : _root_.Go.OpenSpec := { _root_.Go.OpenSpec.ofChange s with cond := some uptoSmall }

/-- 'gangplanklaw19.WorkerWaits', WHERE WHAT IT READS IS OF BULK AT MOST 1048576: true; the input reads as it did. -/
def workerWaitsUptoRow : OpenClaim := { program := "ytjobgnabneddjaagreat", sum := "3af703e27c4e2564d7801bb6b2f851c094ba8dc38ca59a7e2c103d7ee14f6686", func := "gangplank/gangplanklaw19.WorkerWaits", spec := "workerWaits", inPlace := ["internal/abi.NoEscape", "sync/atomic.AddInt64"], unfollowed := true, recurses := true, apart := false, narrowed := true }
def WorkerWaitsUptoSaid : Prop := workerWaitsUptoRow.holds Tryz.pinned (OpenSpec.upto workerWaitsSpec)

/-- 'gangplanklaw20.ControlBusy', WHERE WHAT IT READS IS OF BULK AT MOST 1048576: true; the input reads as it did. -/
def controlBusyUptoRow : OpenClaim := { program := "ytjobgnabneddjaagreat", sum := "3af703e27c4e2564d7801bb6b2f851c094ba8dc38ca59a7e2c103d7ee14f6686", func := "gangplank/gangplanklaw20.ControlBusy", spec := "controlBusy", inPlace := ["sync/atomic.AddInt64"], unfollowed := true, recurses := true, apart := false, narrowed := true }
def ControlBusyUptoSaid : Prop := controlBusyUptoRow.holds Tryz.pinned (OpenSpec.upto controlBusySpec)

/-- 'gangplanklaw20.ControlLocks', WHERE WHAT IT READS IS OF BULK AT MOST 1048576: true; the input reads as it did. -/
def controlLocksUptoRow : OpenClaim := { program := "ytjobgnabneddjaagreat", sum := "3af703e27c4e2564d7801bb6b2f851c094ba8dc38ca59a7e2c103d7ee14f6686", func := "gangplank/gangplanklaw20.ControlLocks", spec := "controlLocks", inPlace := ["sync/atomic.AddInt64"], unfollowed := true, recurses := true, apart := false, narrowed := true }
def ControlLocksUptoSaid : Prop := controlLocksUptoRow.holds Tryz.pinned (OpenSpec.upto controlLocksSpec)

/-- 'gangplanklaw20.ControlSteps', WHERE WHAT IT READS IS OF BULK AT MOST 1048576: true; the input reads as it did. -/
def controlStepsUptoRow : OpenClaim := { program := "ytjobgnabneddjaagreat", sum := "3af703e27c4e2564d7801bb6b2f851c094ba8dc38ca59a7e2c103d7ee14f6686", func := "gangplank/gangplanklaw20.ControlSteps", spec := "controlSteps", inPlace := ["sync/atomic.AddInt64"], unfollowed := true, recurses := true, apart := false, narrowed := true }
def ControlStepsUptoSaid : Prop := controlStepsUptoRow.holds Tryz.pinned (OpenSpec.upto controlStepsSpec)

/-- 'gangplanklaw20.ControlSame', WHERE WHAT IT READS IS OF BULK AT MOST 1048576: true; the input reads as it did. -/
def controlSameUptoRow : OpenClaim := { program := "ytjobgnabneddjaagreat", sum := "3af703e27c4e2564d7801bb6b2f851c094ba8dc38ca59a7e2c103d7ee14f6686", func := "gangplank/gangplanklaw20.ControlSame", spec := "controlSame", inPlace := ["sync/atomic.AddInt64"], unfollowed := true, recurses := true, apart := false, narrowed := true }
def ControlSameUptoSaid : Prop := controlSameUptoRow.holds Tryz.pinned (OpenSpec.upto controlSameSpec)

/-- 'gangplanklaw20.ControlSlots', WHERE WHAT IT READS IS OF BULK AT MOST 1048576: true; the input reads as it did. -/
def controlSlotsUptoRow : OpenClaim := { program := "ytjobgnabneddjaagreat", sum := "3af703e27c4e2564d7801bb6b2f851c094ba8dc38ca59a7e2c103d7ee14f6686", func := "gangplank/gangplanklaw20.ControlSlots", spec := "controlSlots", inPlace := ["sync/atomic.AddInt64"], unfollowed := true, recurses := true, apart := false, narrowed := true }
def ControlSlotsUptoSaid : Prop := controlSlotsUptoRow.holds Tryz.pinned (OpenSpec.upto controlSlotsSpec)

/-- 'gangplanklaw19.WorkerSteps', WHERE WHAT IT READS IS OF BULK AT MOST 1048576: true; the input reads as it did. -/
def workerStepsUptoRow : OpenClaim := { program := "ytjobgnabneddjaagreat", sum := "3af703e27c4e2564d7801bb6b2f851c094ba8dc38ca59a7e2c103d7ee14f6686", func := "gangplank/gangplanklaw19.WorkerSteps", spec := "workerSteps", inPlace := ["internal/abi.NoEscape", "sync/atomic.AddInt64"], unfollowed := true, recurses := true, apart := false, narrowed := true }
def WorkerStepsUptoSaid : Prop := workerStepsUptoRow.holds Tryz.pinned (OpenSpec.upto workerStepsSpec)

/-- 'gangplanklaw19.WorkerPinned', WHERE WHAT IT READS IS OF BULK AT MOST 1048576: true; the input reads as it did. -/
def workerPinnedUptoRow : OpenClaim := { program := "ytjobgnabneddjaagreat", sum := "3af703e27c4e2564d7801bb6b2f851c094ba8dc38ca59a7e2c103d7ee14f6686", func := "gangplank/gangplanklaw19.WorkerPinned", spec := "workerPinned", inPlace := ["internal/abi.NoEscape", "sync/atomic.AddInt64"], unfollowed := true, recurses := true, apart := false, narrowed := true }
def WorkerPinnedUptoSaid : Prop := workerPinnedUptoRow.holds Tryz.pinned (OpenSpec.upto workerPinnedSpec)

/-- 'gangplanklaw19.WorkerTwo', WHERE WHAT IT READS IS OF BULK AT MOST 1048576: true; the input reads as it did. -/
def workerTwoUptoRow : OpenClaim := { program := "ytjobgnabneddjaagreat", sum := "3af703e27c4e2564d7801bb6b2f851c094ba8dc38ca59a7e2c103d7ee14f6686", func := "gangplank/gangplanklaw19.WorkerTwo", spec := "workerTwo", inPlace := ["internal/abi.NoEscape", "sync/atomic.AddInt64"], unfollowed := true, recurses := true, apart := false, narrowed := true }
def WorkerTwoUptoSaid : Prop := workerTwoUptoRow.holds Tryz.pinned (OpenSpec.upto workerTwoSpec)

/-- 'gangplanklaw19.WorkerAlone', WHERE WHAT IT READS IS OF BULK AT MOST 1048576: true; the input reads as it did. -/
def workerAloneUptoRow : OpenClaim := { program := "ytjobgnabneddjaagreat", sum := "3af703e27c4e2564d7801bb6b2f851c094ba8dc38ca59a7e2c103d7ee14f6686", func := "gangplank/gangplanklaw19.WorkerAlone", spec := "workerAlone", inPlace := ["internal/abi.NoEscape", "sync/atomic.AddInt64"], unfollowed := true, recurses := true, apart := false, narrowed := true }
def WorkerAloneUptoSaid : Prop := workerAloneUptoRow.holds Tryz.pinned (OpenSpec.upto workerAloneSpec)

/-- 'gangplanklaw20.ControlAlone', WHERE WHAT IT READS IS OF BULK AT MOST 1048576: true; the input reads as it did. -/
def controlAloneUptoRow : OpenClaim := { program := "ytjobgnabneddjaagreat", sum := "3af703e27c4e2564d7801bb6b2f851c094ba8dc38ca59a7e2c103d7ee14f6686", func := "gangplank/gangplanklaw20.ControlAlone", spec := "controlAlone", inPlace := ["sync/atomic.AddInt64"], unfollowed := true, recurses := true, apart := false, narrowed := true }
def ControlAloneUptoSaid : Prop := controlAloneUptoRow.holds Tryz.pinned (OpenSpec.upto controlAloneSpec)

end Rows
end Go.Proofs.YtjobgnabneddjaaGreat
