/-
  No cell of these rows narrows 'for every input' (looked for: loops, veiled, ifaces, maps, wideKeys, modest, calm, conditions, laid).
  DERIVED. THE GIVEN ROWS OF THIS SEAT. 5 by the template 'for every input the law returns true; each argument reads behind the call as it read before'; 0 by the template 'total and deterministic' (their statements: YtcgiobkfgnclcaaTotals.lean).
  GIVEN WITH THE SEED: the statements are not yours to turn. If you find one false, say at which input.
  Laid BY PROGRAM, IN A SANDBOX (cutbox-rows.mjs): the forced cells as the released guide's own fill.sh prints them over the translation 38bdfb7bb62301bc… (all of the seat's roots in one cut). By AI agents, Wed Nov 11 2026. No macro, syntax, notation, axiom, sorry.
-/
import Derived.Test.YtcgiobkfgnclcaaChecked
import GoSem.Claim
import GoSem.ClaimJoined
import GoSem.ClaimMapViews
import Derived.JoinedTies
import Derived.KernelRfl
namespace Go.Proofs.Ytcgiobkfgnclcaa
/- THE CELL 'sum', in the pinned program and in every row, IS THE sha256 OF THE DUMP (.gsa) THAT YtcgiobkfgnclcaaProg.lean LOADS. Nothing in Lean hashes anything: it is a label: what it is worth is what the hold of that sum in a sandbox is worth. -/
noncomputable def Try.pinned : Pinned := { name := "ytcgiobkfgnclcaa", sum := "38bdfb7bb62301bcabd753a4d54f2ae84fc1034804495821af82e2be9a5243d4", checked := Try.checked }
namespace Rows
def none {H : Type} : Left H := { results := [], args := [] }

/-- 'gangplanklaw15.EpochDoes': WHATEVER THE INPUT: true; the input reads as it did. -/
def epochDoesSpec : ChangeSpec := { name := "epochDoes", fn := fun _ => fun
  | [d1, d2, d3] => { results := [.lit (.bool true)], args := [d1, d2, d3] }
  | _ => none }
def epochDoesRow : OpenClaim := { program := "ytcgiobkfgnclcaa", sum := "38bdfb7bb62301bcabd753a4d54f2ae84fc1034804495821af82e2be9a5243d4", func := "gangplank/gangplanklaw15.EpochDoes", spec := "epochDoes", unfollowed := true, recurses := true, apart := false }
def EpochDoesSaid : Prop := epochDoesRow.holds Try.pinned (OpenSpec.ofChange epochDoesSpec)

/-- ITS FALSE NEIGHBOUR: 'it returns false'. Refute it at one input. -/
def epochDoesWrong : ChangeSpec := { name := "epochDoes", fn := fun _ => fun
  | [d1, d2, d3] => { results := [.lit (.bool false)], args := [d1, d2, d3] }
  | _ => none }
def EpochDoesWrongFalsely : Prop := epochDoesRow.holds Try.pinned (OpenSpec.ofChange epochDoesWrong)

/-- 'gangplanklaw15.EpochOne': WHATEVER THE INPUT: true; the input reads as it did. -/
def epochOneSpec : ChangeSpec := { name := "epochOne", fn := fun _ => fun
  | [d1, d2] => { results := [.lit (.bool true)], args := [d1, d2] }
  | _ => none }
def epochOneRow : OpenClaim := { program := "ytcgiobkfgnclcaa", sum := "38bdfb7bb62301bcabd753a4d54f2ae84fc1034804495821af82e2be9a5243d4", func := "gangplank/gangplanklaw15.EpochOne", spec := "epochOne", unfollowed := true, recurses := true, apart := false }
def EpochOneSaid : Prop := epochOneRow.holds Try.pinned (OpenSpec.ofChange epochOneSpec)

/-- ITS FALSE NEIGHBOUR: 'it returns false'. Refute it at one input. -/
def epochOneWrong : ChangeSpec := { name := "epochOne", fn := fun _ => fun
  | [d1, d2] => { results := [.lit (.bool false)], args := [d1, d2] }
  | _ => none }
def EpochOneWrongFalsely : Prop := epochOneRow.holds Try.pinned (OpenSpec.ofChange epochOneWrong)

/-- 'gangplanklaw15.EpochRipe': WHATEVER THE INPUT: true; the input reads as it did. -/
def epochRipeSpec : ChangeSpec := { name := "epochRipe", fn := fun _ => fun
  | [d1, d2, d3, d4] => { results := [.lit (.bool true)], args := [d1, d2, d3, d4] }
  | _ => none }
def epochRipeRow : OpenClaim := { program := "ytcgiobkfgnclcaa", sum := "38bdfb7bb62301bcabd753a4d54f2ae84fc1034804495821af82e2be9a5243d4", func := "gangplank/gangplanklaw15.EpochRipe", spec := "epochRipe", unfollowed := true, recurses := true, apart := false }
def EpochRipeSaid : Prop := epochRipeRow.holds Try.pinned (OpenSpec.ofChange epochRipeSpec)

/-- ITS FALSE NEIGHBOUR: 'it returns false'. Refute it at one input. -/
def epochRipeWrong : ChangeSpec := { name := "epochRipe", fn := fun _ => fun
  | [d1, d2, d3, d4] => { results := [.lit (.bool false)], args := [d1, d2, d3, d4] }
  | _ => none }
def EpochRipeWrongFalsely : Prop := epochRipeRow.holds Try.pinned (OpenSpec.ofChange epochRipeWrong)

/-- 'gangplanklaw15.EpochAll': WHATEVER THE INPUT: true; the input reads as it did. -/
def epochAllSpec : ChangeSpec := { name := "epochAll", fn := fun _ => fun
  | [d1, d2, d3] => { results := [.lit (.bool true)], args := [d1, d2, d3] }
  | _ => none }
def epochAllRow : OpenClaim := { program := "ytcgiobkfgnclcaa", sum := "38bdfb7bb62301bcabd753a4d54f2ae84fc1034804495821af82e2be9a5243d4", func := "gangplank/gangplanklaw15.EpochAll", spec := "epochAll", unfollowed := true, recurses := true, apart := false }
def EpochAllSaid : Prop := epochAllRow.holds Try.pinned (OpenSpec.ofChange epochAllSpec)

/-- ITS FALSE NEIGHBOUR: 'it returns false'. Refute it at one input. -/
def epochAllWrong : ChangeSpec := { name := "epochAll", fn := fun _ => fun
  | [d1, d2, d3] => { results := [.lit (.bool false)], args := [d1, d2, d3] }
  | _ => none }
def EpochAllWrongFalsely : Prop := epochAllRow.holds Try.pinned (OpenSpec.ofChange epochAllWrong)

/-- 'gangplanklaw15.EpochPins': WHATEVER THE INPUT: true; the input reads as it did. -/
def epochPinsSpec : ChangeSpec := { name := "epochPins", fn := fun _ => fun
  | [d1, d2, d3] => { results := [.lit (.bool true)], args := [d1, d2, d3] }
  | _ => none }
def epochPinsRow : OpenClaim := { program := "ytcgiobkfgnclcaa", sum := "38bdfb7bb62301bcabd753a4d54f2ae84fc1034804495821af82e2be9a5243d4", func := "gangplank/gangplanklaw15.EpochPins", spec := "epochPins", unfollowed := true, recurses := true, apart := false }
def EpochPinsSaid : Prop := epochPinsRow.holds Try.pinned (OpenSpec.ofChange epochPinsSpec)

/-- ITS FALSE NEIGHBOUR: 'it returns false'. Refute it at one input. -/
def epochPinsWrong : ChangeSpec := { name := "epochPins", fn := fun _ => fun
  | [d1, d2, d3] => { results := [.lit (.bool false)], args := [d1, d2, d3] }
  | _ => none }
def EpochPinsWrongFalsely : Prop := epochPinsRow.holds Try.pinned (OpenSpec.ofChange epochPinsWrong)

/- THE SECOND FORM. 'bulk': how many values and letters a reading holds, each counted each time it is reached (what is shared counts as often as it is met; a slice's spare places count too). A statement '..UptoSaid' is the law's where the arguments, and the package variables that the reading takes, are together of bulk at most 1048576: NARROWER than '..Said'. Prove '..Said' where nothing that the law and all that it calls make is longer than what came in: it says more and counts as full. Else prove '..UptoSaid'. A law counts once. -/
mutual
def uptoBulk {H : Type} : DataW H → Nat
  | .lit (.string bytes) => bytes.length + 1
  | .lit _ => 1
  | .nil => 1
  | .ptr d => uptoBulk d + 1
  | .slice elems spare => uptoBulkAll elems + uptoBulkAll spare + 1
  | .agg parts => uptoBulkAll parts + 1
  | .iface _ d => uptoBulk d + 1
  | .map entries => uptoBulkEntries entries + 1
  | .held _ => 1
def uptoBulkAll {H : Type} : List (DataW H) → Nat
  | [] => 0
  | d :: r => uptoBulk d + uptoBulkAll r
def uptoBulkEntries {H : Type} : List (Lit × DataW H) → Nat
  | [] => 0
  | x :: r => uptoBulkEntry x + uptoBulkEntries r
def uptoBulkEntry {H : Type} : Lit × DataW H → Nat
  | (.string bytes, d) => bytes.length + uptoBulk d + 1
  | (_, d) => uptoBulk d + 1
 end
def uptoSmall : (H : Type) → List (DataW H) → Bool := fun _ ds => decide (uptoBulkAll ds ≤ 1048576)
def OpenSpec.upto (s : _root_.Go.ChangeSpec) : _root_.Go.OpenSpec := { _root_.Go.OpenSpec.ofChange s with cond := some uptoSmall }

/-- 'gangplanklaw15.EpochDoes', WHERE WHAT IT READS IS OF BULK AT MOST 1048576: true; the input reads as it did. -/
def epochDoesUptoRow : OpenClaim := { program := "ytcgiobkfgnclcaa", sum := "38bdfb7bb62301bcabd753a4d54f2ae84fc1034804495821af82e2be9a5243d4", func := "gangplank/gangplanklaw15.EpochDoes", spec := "epochDoes", unfollowed := true, recurses := true, apart := false, narrowed := true }
def EpochDoesUptoSaid : Prop := epochDoesUptoRow.holds Try.pinned (OpenSpec.upto epochDoesSpec)

/-- 'gangplanklaw15.EpochOne', WHERE WHAT IT READS IS OF BULK AT MOST 1048576: true; the input reads as it did. -/
def epochOneUptoRow : OpenClaim := { program := "ytcgiobkfgnclcaa", sum := "38bdfb7bb62301bcabd753a4d54f2ae84fc1034804495821af82e2be9a5243d4", func := "gangplank/gangplanklaw15.EpochOne", spec := "epochOne", unfollowed := true, recurses := true, apart := false, narrowed := true }
def EpochOneUptoSaid : Prop := epochOneUptoRow.holds Try.pinned (OpenSpec.upto epochOneSpec)

/-- 'gangplanklaw15.EpochRipe', WHERE WHAT IT READS IS OF BULK AT MOST 1048576: true; the input reads as it did. -/
def epochRipeUptoRow : OpenClaim := { program := "ytcgiobkfgnclcaa", sum := "38bdfb7bb62301bcabd753a4d54f2ae84fc1034804495821af82e2be9a5243d4", func := "gangplank/gangplanklaw15.EpochRipe", spec := "epochRipe", unfollowed := true, recurses := true, apart := false, narrowed := true }
def EpochRipeUptoSaid : Prop := epochRipeUptoRow.holds Try.pinned (OpenSpec.upto epochRipeSpec)

/-- 'gangplanklaw15.EpochAll', WHERE WHAT IT READS IS OF BULK AT MOST 1048576: true; the input reads as it did. -/
def epochAllUptoRow : OpenClaim := { program := "ytcgiobkfgnclcaa", sum := "38bdfb7bb62301bcabd753a4d54f2ae84fc1034804495821af82e2be9a5243d4", func := "gangplank/gangplanklaw15.EpochAll", spec := "epochAll", unfollowed := true, recurses := true, apart := false, narrowed := true }
def EpochAllUptoSaid : Prop := epochAllUptoRow.holds Try.pinned (OpenSpec.upto epochAllSpec)

/-- 'gangplanklaw15.EpochPins', WHERE WHAT IT READS IS OF BULK AT MOST 1048576: true; the input reads as it did. -/
def epochPinsUptoRow : OpenClaim := { program := "ytcgiobkfgnclcaa", sum := "38bdfb7bb62301bcabd753a4d54f2ae84fc1034804495821af82e2be9a5243d4", func := "gangplank/gangplanklaw15.EpochPins", spec := "epochPins", unfollowed := true, recurses := true, apart := false, narrowed := true }
def EpochPinsUptoSaid : Prop := epochPinsUptoRow.holds Try.pinned (OpenSpec.upto epochPinsSpec)

end Rows
end Go.Proofs.Ytcgiobkfgnclcaa
