/-
  No cell of these rows narrows 'for every input' (looked for: loops, veiled, ifaces, maps, wideKeys, modest, calm, conditions, laid).
  DERIVED. THE GIVEN ROWS OF THIS SEAT. 2 by the template 'for every input the law returns true; each argument reads behind the call as it read before'; 0 by the template 'total and deterministic' (their statements: YtlplkjgcfjdinaaTotals.lean).
  GIVEN WITH THE SEED: the statements are not yours to turn. If you find one false, say at which input.
  Laid BY PROGRAM, IN A SANDBOX (cutbox-rows.mjs): the forced cells as the released guide's own fill.sh prints them over the translation 94ebf33fd2dcea03… (all of the seat's roots in one cut). By AI agents, Wed Nov 11 2026. No macro, syntax, notation, axiom, sorry.
-/
import Derived.Test.YtlplkjgcfjdinaaChecked
import GoSem.Claim
import GoSem.ClaimJoined
import GoSem.ClaimMapViews
import Derived.JoinedTies
import Derived.KernelRfl
namespace Go.Proofs.Ytlplkjgcfjdinaa
/- THE CELL 'sum', in the pinned program and in every row, IS THE sha256 OF THE DUMP (.gsa) THAT YtlplkjgcfjdinaaProg.lean LOADS. Nothing in Lean hashes anything: it is a label: what it is worth is what the hold of that sum in a sandbox is worth. -/
noncomputable def Try.pinned : Pinned := { name := "ytlplkjgcfjdinaa", sum := "94ebf33fd2dcea03d39ea4c3062694c42b18a6da371c78eef267e40258a9e6d7", checked := Try.checked }
namespace Rows
def none {H : Type} : Left H := { results := [], args := [] }

/-- 'gangplanklaw23.WatchExcuses': WHATEVER THE INPUT: true; the input reads as it did. -/
def watchExcusesSpec : ChangeSpec := { name := "watchExcuses", fn := fun _ => fun
  | [d1, d2, d3] => { results := [.lit (.bool true)], args := [d1, d2, d3] }
  | _ => none }
def watchExcusesRow : OpenClaim := { program := "ytlplkjgcfjdinaa", sum := "94ebf33fd2dcea03d39ea4c3062694c42b18a6da371c78eef267e40258a9e6d7", func := "gangplank/gangplanklaw23.WatchExcuses", spec := "watchExcuses", inPlace := ["internal/abi.NoEscape"], unfollowed := true, recurses := true, apart := false }
def WatchExcusesSaid : Prop := watchExcusesRow.holds Try.pinned (OpenSpec.ofChange watchExcusesSpec)

/-- ITS FALSE NEIGHBOUR: 'it returns false'. Refute it at one input. -/
def watchExcusesWrong : ChangeSpec := { name := "watchExcuses", fn := fun _ => fun
  | [d1, d2, d3] => { results := [.lit (.bool false)], args := [d1, d2, d3] }
  | _ => none }
def WatchExcusesWrongFalsely : Prop := watchExcusesRow.holds Try.pinned (OpenSpec.ofChange watchExcusesWrong)

/-- 'gangplanklaw23.WatchIdle': WHATEVER THE INPUT: true; the input reads as it did. -/
def watchIdleSpec : ChangeSpec := { name := "watchIdle", fn := fun _ => fun
  | [d1, d2, d3, d4] => { results := [.lit (.bool true)], args := [d1, d2, d3, d4] }
  | _ => none }
def watchIdleRow : OpenClaim := { program := "ytlplkjgcfjdinaa", sum := "94ebf33fd2dcea03d39ea4c3062694c42b18a6da371c78eef267e40258a9e6d7", func := "gangplank/gangplanklaw23.WatchIdle", spec := "watchIdle", inPlace := ["internal/abi.NoEscape"], unfollowed := true, recurses := true, apart := false }
def WatchIdleSaid : Prop := watchIdleRow.holds Try.pinned (OpenSpec.ofChange watchIdleSpec)

/-- ITS FALSE NEIGHBOUR: 'it returns false'. Refute it at one input. -/
def watchIdleWrong : ChangeSpec := { name := "watchIdle", fn := fun _ => fun
  | [d1, d2, d3, d4] => { results := [.lit (.bool false)], args := [d1, d2, d3, d4] }
  | _ => none }
def WatchIdleWrongFalsely : Prop := watchIdleRow.holds Try.pinned (OpenSpec.ofChange watchIdleWrong)

/- THE SECOND FORM. 'bulk': how many values and letters a reading holds, each counted each time it is reached (what is shared counts as often as it is met; a slice's spare places count too). A statement '..UptoSaid' is the law's where the arguments, and the package variables that the reading takes, are together of bulk at most 1048576: NARROWER than '..Said'. Prove '..Said' where nothing that the law and all that it calls make is longer than what came in: it says more and counts as full. Else prove '..UptoSaid'. A law counts once. -/
mutual
def uptoBulk {H : Type} : DataW H → Nat
  | .lit (.string bytes) => bytes.length + 1
  | .lit _ => 1
  | .nil => 1
  | .ptr d => uptoBulk d + 1
  | .slice elems spare => uptoBulkAll elems + uptoBulkAll spare + 1
  | .agg parts => uptoBulkAll parts + 1
  | .iface _ d => uptoBulk d + 1
  | .map entries => uptoBulkEntries entries + 1
  | .held _ => 1
def uptoBulkAll {H : Type} : List (DataW H) → Nat
  | [] => 0
  | d :: r => uptoBulk d + uptoBulkAll r
def uptoBulkEntries {H : Type} : List (Lit × DataW H) → Nat
  | [] => 0
  | x :: r => uptoBulkEntry x + uptoBulkEntries r
def uptoBulkEntry {H : Type} : Lit × DataW H → Nat
  | (.string bytes, d) => bytes.length + uptoBulk d + 1
  | (_, d) => uptoBulk d + 1
 end
def uptoSmall : (H : Type) → List (DataW H) → Bool := fun _ ds => decide (uptoBulkAll ds ≤ 1048576)
def OpenSpec.upto (s : _root_.Go.ChangeSpec) : _root_.Go.OpenSpec := { _root_.Go.OpenSpec.ofChange s with cond := some uptoSmall }

/-- 'gangplanklaw23.WatchExcuses', WHERE WHAT IT READS IS OF BULK AT MOST 1048576: true; the input reads as it did. -/
def watchExcusesUptoRow : OpenClaim := { program := "ytlplkjgcfjdinaa", sum := "94ebf33fd2dcea03d39ea4c3062694c42b18a6da371c78eef267e40258a9e6d7", func := "gangplank/gangplanklaw23.WatchExcuses", spec := "watchExcuses", inPlace := ["internal/abi.NoEscape"], unfollowed := true, recurses := true, apart := false, narrowed := true }
def WatchExcusesUptoSaid : Prop := watchExcusesUptoRow.holds Try.pinned (OpenSpec.upto watchExcusesSpec)

/-- 'gangplanklaw23.WatchIdle', WHERE WHAT IT READS IS OF BULK AT MOST 1048576: true; the input reads as it did. -/
def watchIdleUptoRow : OpenClaim := { program := "ytlplkjgcfjdinaa", sum := "94ebf33fd2dcea03d39ea4c3062694c42b18a6da371c78eef267e40258a9e6d7", func := "gangplank/gangplanklaw23.WatchIdle", spec := "watchIdle", inPlace := ["internal/abi.NoEscape"], unfollowed := true, recurses := true, apart := false, narrowed := true }
def WatchIdleUptoSaid : Prop := watchIdleUptoRow.holds Try.pinned (OpenSpec.upto watchIdleSpec)

end Rows
end Go.Proofs.Ytlplkjgcfjdinaa
