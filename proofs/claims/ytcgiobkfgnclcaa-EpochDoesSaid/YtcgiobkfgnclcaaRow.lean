/- From a law's walk to what a row asks: the law returned true and the world has but grown. No condition. -/
import Derived.Test.YtcgiobkfgnclcaaRows
import Derived.Test.YtcgiobkfgnclcaaIter
import Derived.WalkKit
import Derived.ProofKit
import Derived.OpenShut
namespace Go.Proofs.Ytcgiobkfgnclcaa
open Go Go.RowKit
theorem grown_of {w w' : World} (h : But [] w w') (hk : Sk NoX w w') : Grown w w' := by
  refine ⟨⟨hk.2.2.2.1, hk.2.2.2.2.1, fun i hi => ?_⟩, hk.2.2.2.2.2, h.1⟩
  have h1 : w.heap[i]? = some w.heap[i] := Array.getElem?_eq_getElem hi
  have h2 : w'.heap[i]? = some w.heap[i] := h.2 i _ (by simp) h1
  rw [h1, h2]
  cases w.heap[i] <;> simp
theorem law_calls {f : FuncId} {args : Array Value} {w : World} (h : Fn PR NoX f args w (fun v w' => v = .bool true ∧ But [] w w')) :
    Calls PR f args w fun e w' => e = .returned (.bool true) ∧ Grown w w' :=
  Calls.mono h fun _ w' ⟨v, he, ⟨hv, hb⟩, hs⟩ => ⟨by rw [he, hv], grown_of hb hs⟩
theorem own : ownKnob PR.godebug = none := by kernel_rfl
end Go.Proofs.Ytcgiobkfgnclcaa
