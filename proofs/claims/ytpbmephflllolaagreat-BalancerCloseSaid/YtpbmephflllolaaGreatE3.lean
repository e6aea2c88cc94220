/- The proof of a given statement, a part of it (Names). No condition but what each lemma says. -/
import Derived.Test.YtpbmephflllolaaGreatChecked
import Derived.Test.YtpbmephflllolaaGreatE2
set_option linter.unusedVariables false
set_option linter.unusedSimpArgs false
namespace Go.Proofs.YtpbmephflllolaaGreat
open Go
noncomputable abbrev PR : Program := Tryz.prog
theorem mixed : PR.follows .mixedOrders = true := by kernel_rfl
abbrev B5 : Nat → Prop := fun _ => False
theorem A7 {P : Program} {f : FuncId} {fn : Func} (hf : P.funcs[f]? = some fn) (hn : (fn.name == "runtime.NumGoroutine") = false) (hb : fn.body.isNone = false) : A9 P f := by
 intro args w
 simp only [callFunc, Sem.run_bind, run_program, Result.andThen_ok, hf, hn, hb, Bool.false_eq_true, if_false, Sem.run_pure]
theorem Fn.use {P : Program} {X : Nat → Prop} {f : FuncId} {args : Array Value} {w : World} {R K : Value → WP} (h : Fn P B5 f args w R) (hk : ∀ v w', R v w' → Sk B5 w w' → K v w') : Fn P X f args w K :=
 Calls.mono h fun _ w' ⟨v, he, hr, hs⟩ => ⟨v, he, hk v w' hr hs, hs.mono fun _ h => h.elim⟩
theorem Fn.mono {P : Program} {X : Nat → Prop} {f : FuncId} {args : Array Value} {w : World} {R K : Value → WP} (h : Fn P X f args w R) (hk : ∀ v w', R v w' → K v w') : Fn P X f args w K :=
 Calls.mono h fun _ w' ⟨v, he, hr, hs⟩ => ⟨v, he, hk v w' hr, hs⟩
end Go.Proofs.YtpbmephflllolaaGreat
