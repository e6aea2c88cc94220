/- The proof of a given statement, a part of it (Eq). No condition but what each lemma says. -/
import Derived.Laws.StructEq
import Derived.Test.YtpbmephflllolaaGreatE4
set_option linter.unusedVariables false
set_option linter.unusedSimpArgs false
namespace Go.Proofs.YtpbmephflllolaaGreat
open Go
@[simp] theorem C64 {P : Program} {K : Value → WP} (f : Bool → Value) (b : Bool) : A0 P (f <$> asBool (.bool b)) K = K (f b) := E6 (fun w => by simp [asBool]) K
@[simp] theorem C5r (t : Bool) (A : (Value → WP) → WP) (F : Value → WP) (w : World) : gj undef t A F w = F undef w := rfl
@[simp] theorem C38 (w : World) (a : Addr) : w.drew.cell? a = w.cell? a := rfl
section
variable {P : Program} {t : TypeId} {d : TypeDesc} {n m : Nat} {z : Value}
def EqV (P : Program) (d : Nat) (t : TypeId) (x y : Value) (r : Bool) : Prop := ∀ w, (Op.equalIn d t x y).run P w = .ok r w
def EqF (P : Program) (d : Nat) (xs ys : Array Value) (fs : List Field) (r : Bool) : Prop := ∀ w, (Op.eqFields d xs ys fs).run P w = .ok r w
theorem A93 {k q : IntKind} {a b : Int} {e : Nat} (h : TI P t (.int k) n m z) : EqV P (e + 1) t (.int q a) (.int q b) (decide (a = b)) := by
 intro w
 simp only [Op.equalIn, Sem.run_bind, h.run_und, Result.andThen_ok, if_true, Sem.run_pure]
 rfl
theorem B8W {a b : Bool} {e : Nat} (h : TI P t .bool n m z) : EqV P (e + 1) t (.bool a) (.bool b) (a == b) := by
 intro w
 simp only [Op.equalIn, Sem.run_bind, h.run_und, Result.andThen_ok, Sem.run_pure]
theorem C01 {e : Nat} {xs ys : Array Value} : EqF P e xs ys [] true := fun w => by simp [Op.eqFields]
theorem A4a {e : Nat} {xs ys : Array Value} {f : Field} {fs : List Field} {a b : Value} {r s : Bool} (hn : (f.name == "_") = false) (hz : TI P f.type d n m z) (hd : N2 d = false)
  (ha : xs[f.offset]? = some a) (hb : ys[f.offset]? = some b) (he : EqV P e f.type a b r) (hs : EqF P e xs ys fs s) : EqF P e xs ys (f :: fs) (r && s) := by
 intro w
 have hn' : f.name ≠ "_" := by simpa using hn
 have h1 : (part f.type xs f.offset).run P w = .ok a w := by simp [part, hz.run_agg, hd, ha]
 have h2 : (part f.type ys f.offset).run P w = .ok b w := by simp [part, hz.run_agg, hd, hb]
 simp only [Op.eqFields, if_pos hn', Sem.run_bind, h1, h2, he w, Result.andThen_ok]
 cases r
 ·simp
 ·simpa using hs w
theorem B5K {fs : Array Field} {e : Nat} {xs ys : Array Value} {r : Bool} (h : TI P t (.struct fs) n m z) (hp : P.stoodInHeld t = false) (hs : EqF P e xs ys fs.toList r) : EqV P (e + 1) t (.agg xs) (.agg ys) r := by
 intro w
 have hu : P.underlying t = some (.struct fs) := h.und
 have hf : P.fieldsOf t = fs := by simp [Program.fieldsOf, hu]
 rw [run_equalIn_struct (P := P) w e t xs ys (by rw [hf]; exact hu) hp, hf]
 exact hs w
theorem C2r {xs ys : Array Value} {r : Bool} {x y : Operand} {K : Value → WP} {w : World} (hg : P.eqGuardType P.depth t = false) (he : EqV P 10000 t (.agg xs) (.agg ys) r) :
  A6 P (N4 .eql t x y (.agg xs) (.agg ys)) K w = K (.bool r) w :=
 S5 (by
  have := he w
  have h1 : (eqGuard .eql t x y (.agg xs) (.agg ys)).run P w = .ok () w := by simp [eqGuard, hg]
  simp [N4, h1, binOp, Op.equal, Op.maxDepth, this]) K
theorem B8y {u : TypeId} {a : Option Addr} {e : Nat} (h : TI P t (.pointer u) n m z) : EqV P (e + 1) t (.pointer a) (.pointer none) a.isNone := by
 intro w
 cases a with
 | none => simp only [Op.equalIn, Sem.run_bind, h.run_und, Result.andThen_ok, Sem.run_pure, Option.isNone]
 | some a => simp only [Op.equalIn, Sem.run_bind, h.run_und, Result.andThen_ok, Sem.run_pure]; rfl
theorem B4S {u : TypeId} {a : Option Addr} (h : TI P t (.pointer u) n m z) : EqV P 10000 t (.pointer a) (.pointer none) a.isNone := B8y (e := 9999) h
theorem B4B {u : TypeId} {a : Option Addr} {x y : Operand} {K : Value → WP} {w : World} (h : TI P t (.pointer u) n m z) :
  A6 P (N4 .eql t x y (.pointer a) (.pointer none)) K w = K (.bool a.isNone) w :=
 S5 (by
  have he := B4S (a := a) h w
  have h1 : (eqGuard .eql t x y (.pointer a) (.pointer none)).run P w = .ok () w := by simp [eqGuard]
  simp [N4, h1, binOp, Op.equal, Op.maxDepth, he]) K
theorem C0e {u : TypeId} {a : Option Addr} {x y : Operand} {K : Value → WP} {w : World} (h : TI P t (.pointer u) n m z) :
  A6 P (N4 .neq t x y (.pointer a) (.pointer none)) K w = K (.bool (!a.isNone)) w :=
 S5 (by
  have he := B4S (a := a) h w
  have h1 : (eqGuard .neq t x y (.pointer a) (.pointer none)).run P w = .ok () w := by simp [eqGuard]
  simp [N4, h1, binOp, Op.equal, Op.maxDepth, he]) K
end
end Go.Proofs.YtpbmephflllolaaGreat
