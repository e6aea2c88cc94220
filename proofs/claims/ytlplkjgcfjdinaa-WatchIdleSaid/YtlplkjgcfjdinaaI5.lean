/- The proof of a given statement, a part of it (Eq). No condition but what each lemma says. -/
import Derived.Laws.StructEq
import Derived.Test.YtlplkjgcfjdinaaI4
set_option linter.unusedVariables false
set_option linter.unusedSimpArgs false
namespace Go.Proofs.Ytlplkjgcfjdinaa
open Go
@[simp] theorem B8U {P : Program} {K : Value → WP} (f : Bool → Value) (b : Bool) : A0 P (f <$> asBool (.bool b)) K = K (f b) := D6 (fun w => by simp [asBool]) K
@[simp] theorem B7V (t : Bool) (A : (Value → WP) → WP) (F : Value → WP) (w : World) : gj undef t A F w = F undef w := rfl
@[simp] theorem B6s (w : World) (a : Addr) : w.drew.cell? a = w.cell? a := rfl
section
variable {P : Program} {t : TypeId} {d : TypeDesc} {n m : Nat} {z : Value}
def EqV (P : Program) (d : Nat) (t : TypeId) (x y : Value) (r : Bool) : Prop := ∀ w, (Op.equalIn d t x y).run P w = .ok r w
theorem B28 {k q : IntKind} {a b : Int} {e : Nat} (h : TI P t (.int k) n m z) : EqV P (e + 1) t (.int q a) (.int q b) (decide (a = b)) := by
 intro w
 simp only [Op.equalIn, Sem.run_bind, h.run_und, Result.andThen_ok, if_true, Sem.run_pure]
 rfl
theorem B41 {xs ys : Array Value} {r : Bool} {x y : Operand} {K : Value → WP} {w : World} (hg : P.eqGuardType P.depth t = false) (he : EqV P 10000 t (.agg xs) (.agg ys) r) :
  A6 P (Z1 .eql t x y (.agg xs) (.agg ys)) K w = K (.bool r) w :=
 P8 (by
  have := he w
  have h1 : (eqGuard .eql t x y (.agg xs) (.agg ys)).run P w = .ok () w := by simp [eqGuard, hg]
  simp [Z1, h1, binOp, Op.equal, Op.maxDepth, this]) K
theorem B19 {u : TypeId} {a : Option Addr} {e : Nat} (h : TI P t (.pointer u) n m z) : EqV P (e + 1) t (.pointer a) (.pointer none) a.isNone := by
 intro w
 cases a with
 | none => simp only [Op.equalIn, Sem.run_bind, h.run_und, Result.andThen_ok, Sem.run_pure, Option.isNone]
 | some a => simp only [Op.equalIn, Sem.run_bind, h.run_und, Result.andThen_ok, Sem.run_pure]; rfl
theorem B3Z {u : TypeId} {a : Option Addr} (h : TI P t (.pointer u) n m z) : EqV P 10000 t (.pointer a) (.pointer none) a.isNone := B19 (e := 9999) h
theorem B3A {u : TypeId} {a : Option Addr} {x y : Operand} {K : Value → WP} {w : World} (h : TI P t (.pointer u) n m z) :
  A6 P (Z1 .eql t x y (.pointer a) (.pointer none)) K w = K (.bool a.isNone) w :=
 P8 (by
  have he := B3Z (a := a) h w
  have h1 : (eqGuard .eql t x y (.pointer a) (.pointer none)).run P w = .ok () w := by simp [eqGuard]
  simp [Z1, h1, binOp, Op.equal, Op.maxDepth, he]) K
end
end Go.Proofs.Ytlplkjgcfjdinaa
