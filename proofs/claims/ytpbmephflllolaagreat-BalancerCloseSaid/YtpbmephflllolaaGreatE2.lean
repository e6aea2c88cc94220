/- The proof of a given statement, a part of it (Vc Sound Sound2). No condition but what each lemma says. -/
import Derived.RangeFuncIn
import Derived.Test.YtpbmephflllolaaGreatE1
set_option linter.unusedVariables false
set_option linter.unusedSimpArgs false
namespace Go.Proofs.YtpbmephflllolaaGreat
open Go
abbrev D3 := List (Nat × Value)
def D3.get : D3 → Nat → Option Value
 | [], _ => none
 | (i, v) :: r, t => match Nat.beq i t with | true => some v | false => D3.get r t
def D3.Ok (n : Nat) (e : D3) (a : Act) : Prop := a.tmps.size = n ∧ ∀ t v, t < n → e.get t = some v → a.tmps[t]? = some v
def D3.put (e : D3) (d : Option Tmp) (v : Value) : D3 := match d with | some t => (t, v) :: e | none => e
theorem D3.Ok.put {n : Nat} {e : D3} {a : Act} (h : e.Ok n a) (d : Option Tmp) (v : Value) : (e.put d v).Ok n (a.put d v) := by
 cases d with
 | none => exact h
 | some t =>
  refine ⟨by simpa [Act.put] using h.1, fun u x hu hx => ?_⟩
  simp only [D3.put, D3.get] at hx
  by_cases htu : t = u
  ·subst htu; simp at hx; subst hx; simp [Act.put, h.1, hu]
  ·have : Nat.beq t u = false := by
    cases hb : Nat.beq t u with
    | false => rfl
    | true => exact absurd (Nat.eq_of_beq_eq_true hb) htu
   rw [this] at hx; simp only [] at hx
   simp only [Act.put, Array.getElem?_setIfInBounds_ne htu]
   exact h.2 u x hu hx
theorem D3.Ok.cons {n t : Nat} {v : Value} {e : D3} {a : Act} (h : e.Ok n a) (hv : t < n → a.tmps[t]? = some v) : D3.Ok n ((t, v) :: e) a := by
 refine ⟨h.1, fun u x hu hx => ?_⟩
 simp only [D3.get] at hx
 by_cases htu : t = u
 ·subst htu; simp at hx; subst hx; exact hv hu
 ·have : Nat.beq t u = false := by
   cases hb : Nat.beq t u with
   | false => rfl
   | true => exact absurd (Nat.eq_of_beq_eq_true hb) htu
  rw [this] at hx; exact h.2 u x hu hx
theorem D3.Ok.nil {n : Nat} {a : Act} (h : a.tmps.size = n) : D3.Ok n [] a := ⟨h, fun _ _ _ h => by cases h⟩
def ev (n : Nat) (e : D3) : Operand → Option Value
 | .tmp t => match Nat.blt t n with | true => e.get t | false => none
 | .const v => some v
 | .global g => some (.pointer (some ⟨g, 0, none⟩))
 | .func f => some (.func (.func f) #[] #[])
theorem D9 {n : Nat} {e : D3} {a : Act} (h : e.Ok n a) {x : Operand} {v : Value} (hx : ev n e x = some v) : a.eval x = v := by
 cases x with
 | tmp t =>
  simp only [ev] at hx
  cases hb : Nat.blt t n with
  | false => rw [hb] at hx; cases hx
  | true =>
   rw [hb] at hx
   have := h.2 t v (by simpa using hb) hx
   simp [Act.eval, this]
 | const u => cases hx; rfl
 | global g => cases hx; rfl
 | func f => cases hx; rfl
def evs (n : Nat) (e : D3) : List Operand → Option (List Value)
 | [] => some []
 | x :: xs => match ev n e x, evs n e xs with | some v, some vs => some (v :: vs) | _, _ => none
theorem B7Y {n : Nat} {e : D3} {a : Act} (h : e.Ok n a) {xs : List Operand} {vs : List Value} (hx : evs n e xs = some vs) : xs.map a.eval = vs := by
 induction xs generalizing vs with
 | nil => cases hx; rfl
 | cons x xs ih =>
  simp only [evs] at hx
  split at hx
  ·rename_i v us h1 h2; cases hx; simp [D9 h h1, ih h2]
  ·cases hx
def E0 : WP := fun _ => False
def A0 (P : Program) (s : Sem Value) (K : Value → WP) : WP := fun w => ∃ v, (∀ w', s.run P w' = .ok v w') ∧ K v w
def A6 (P : Program) (s : Sem Value) (K : Value → WP) : WP := fun w => ∃ v, s.run P w = .ok v w ∧ K v w
def B1 (P : Program) (X : Nat → Prop) (s : Sem Value) (K : Value → WP) : WP := fun w => ∃ v w', s.run P w = .ok v w' ∧ Sk X w w' ∧ K v w'
def C3 (P : Program) (X : Nat → Prop) (s : Sem Unit) (K : WP) : WP := fun w => ∃ w', s.run P w = .ok () w' ∧ Sk X w w' ∧ K w'
def Fn (P : Program) (X : Nat → Prop) (f : FuncId) (args : Array Value) (w : World) (R : Value → WP) : Prop :=
 Calls P f args w fun e w' => ∃ v, e = .returned v ∧ R v w' ∧ Sk X w w'
def A9 (P : Program) (f : FuncId) : Prop := ∀ args w, (callFunc f args).run P w = .ok (.enter f args) w
def s7 (P : Program) (X : Nat → Prop) (f : FuncId) (args : List Value) (K : Value → WP) : WP := fun w => A9 P f ∧ Fn P X f args.toArray w K
def B2 (P : Program) (X : Nat → Prop) (f : FuncId) (args : List Value) (K : Value → WP) : WP := fun w =>
 s7 P X f args K w ∨ ∃ v w', (callFunc f args.toArray).run P w = .ok (.value v) w' ∧ Sk X w w' ∧ K v w'
def yie (P : Program) (X : Nat → Prop) (l : Nat) (args : List Value) (K : Value → WP) : WP := fun w =>
 ∃ f tmps asg body, (Instr.yield l args.toArray).run P w = .ok (.round l f tmps asg body) w ∧ B2d P l f tmps asg body w fun v w' => K v w' ∧ Sk X w w'
def H3 (P : Program) (X : Nat → Prop) (g : Value) (args : List Value) (K : Value → WP) : WP :=
 match g with
 | .func (.func f) first cap => B2 P X f (first.toList ++ args ++ cap.toList) K
 | .func (.yield l) first _ => yie P X l (first.toList ++ args) K
 | .func fn first cap => fun w => ∃ f args', (invoke (.fn fn cap) (first ++ args.toArray)).run P w = .ok (.enter f args') w ∧ Fn P X f args' w K
 | _ => E0
def inv (P : Program) (X : Nat → Prop) (g : Value) (name : String) (args : List Value) (K : Value → WP) : WP := fun w =>
 ∃ f args', (callMethod g name args.toArray).run P w = .ok (.enter f args') w ∧ Fn P X f args' w K
def C5 (c : Value) (A B : WP) : WP := fun w => (c = .bool true ∧ A w) ∨ (c = .bool false ∧ B w)
def gd (g : Value) (want : Bool) (yes no : WP) : WP := match g with | .bool b => (match b, want with | true, true => yes | false, false => yes | _, _ => no) | _ => no
def gj (g : Value) (want : Bool) (A : (Value → WP) → WP) (F : Value → WP) : WP := gd g want (A F) (F undef)
def q9 (w w' : World) : Prop := w.heap.size ≤ w'.heap.size ∧ ∀ (r : Nat) o, w.heap[r]? = some o → (∀ lo, o ≠ Obj.loop lo) → w'.heap[r]? = some o
theorem q9.refl (w : World) : q9 w w := ⟨Nat.le_refl _, fun _ _ h _ => h⟩
theorem q9.trans {a b c : World} (h : q9 a b) (h' : q9 b c) : q9 a c := ⟨Nat.le_trans h.1 h'.1, fun r o e n => h'.2 r o (h.2 r o e n) n⟩
def j1 (w w' : World) : Prop := w'.heap.size = w.heap.size ∧ ∀ r : Nat, (∀ lo, w.heap[r]? ≠ some (Obj.loop lo)) → w'.heap[r]? = w.heap[r]?
theorem j1.ext {w w' : World} (h : j1 w w') : q9 w w' := ⟨by rw [h.1]; exact Nat.le_refl _, fun r o e n => by rw [h.2 r (by rw [e]; intro lo hh; exact n lo (Option.some.inj hh))]; exact e⟩
def bgn (K : WP) : WP := fun w => ∀ w', j1 w w' → K w'
def U0 (w w' : World) : Prop := w'.heap.size = w.heap.size ∧ ∀ r : Nat, (∀ d, w.heap[r]? ≠ some (Obj.deferred d)) → w'.heap[r]? = w.heap[r]?
theorem U0.refl (w : World) : U0 w w := ⟨rfl, fun _ _ => rfl⟩
theorem U0.trans {a b c : World} (h : U0 a b) (h' : U0 b c) : U0 a c := by
 refine ⟨h'.1.trans h.1, fun r hr => ?_⟩
 have := h.2 r hr
 rw [h'.2 r (by rw [this]; exact hr), this]
def drw (K : WP) : WP := fun w => K { w with drawn := w.drawn + 1 }
def V5 (K : WP) : WP := fun w => ∀ w', U0 w w' → K w'
def Z7 (w w' : World) : Prop := w.heap.size ≤ w'.heap.size ∧ ∀ (r : Nat) o, w.heap[r]? = some o → w'.heap[r]? = some o
theorem Z7.refl (w : World) : Z7 w w := ⟨Nat.le_refl _, fun _ _ h => h⟩
theorem Z7.trans {a b c : World} (h : Z7 a b) (h' : Z7 b c) : Z7 a c := ⟨Nat.le_trans h.1 h'.1, fun r o e => h'.2 r o (h.2 r o e)⟩
theorem Z7.ext {a b : World} (h : Z7 a b) : q9 a b := ⟨h.1, fun r o e _ => h.2 r o e⟩
theorem q9.all {a b : World} (h : q9 a b) (hk : Sk (fun _ => False) a b) : Z7 a b := by
 refine ⟨h.1, fun r o e => ?_⟩
 by_cases hl : ∃ lo, o = Obj.loop lo
 ·obtain ⟨lo, rfl⟩ := hl; exact hk.2.2.1 r lo (fun h => h) e
 ·exact h.2 r o e fun lo hlo => hl ⟨lo, hlo⟩
@[reducible] def VF (β : Type) : Nat → Type
 | 0 => β
 | n + 1 => Value → VF β n
abbrev VF.lam {β : Type} : (n : Nat) → (List Value → β) → VF β n
 | 0, f => f []
 | n + 1, f => fun v => VF.lam n fun vs => f (v :: vs)
def VF.app {β : Type} (d : β) : (n : Nat) → VF β n → List Value → β
 | 0, f, _ => f
 | n + 1, f, v :: vs => VF.app d n (f v) vs
 | _ + 1, _, [] => d
theorem VF.app_lam {β : Type} (d : β) : ∀ (n : Nat) (f : List Value → β) (vs : List Value), vs.length = n → VF.app d n (VF.lam n f) vs = f vs
 | 0, f, [], _ => rfl
 | n + 1, f, v :: vs, h => VF.app_lam d n (fun us => f (v :: us)) vs (by simpa using h)
def jn {n : Nat} (F : VF WP n) (A : VF WP n → WP) : WP := A F
def kt {n : Nat} (F : VF WP n) (A : VF WP n → WP) : WP := A F
def lp {n : Nat} (F : VF WP n → VF WP n) : VF WP n := VF.lam n fun vs w =>
 ∃ (I : List Value → WP) (μ : List Value → World → Nat), I vs w ∧ ∀ vs w, vs.length = n → I vs w → VF.app E0 n (F (VF.lam n fun vs' w' => I vs' w' ∧ μ vs' w' < μ vs w)) vs w
def rng {N : Nat} (P : Program) (X : Nat → Prop) (body : VF ((Option Code → WP) → WP) N) (g : Value) (KJ : Option Code → WP) : WP := fun w =>
 ∃ f first cap, g = .func (.func f) first cap ∧
 ∀ (l : Nat) (Pd : Option Code → WP) (w0 : World), w.heap.size ≤ l → (∀ j w w', Pd j w → Sk (fun _ => False) w w' → Pd j w') → Z7 w w0 → Pd none w0 →
  (∀ (args : List Value) (R : Option Code → WP) (w1 : World), args.length = N → Pd none w1 →
   VF.app (fun _ => E0) N body args (fun j w2 => ∀ w3, j1 w2 w3 → Pd j w3 → R j w3) w1 → yie P (fun r => r = l) l args (fun v w3 => ∃ j : Option Code, v = .bool j.isNone ∧ R j w3) w1) →
  s7 P (fun r => X r ∨ r = l) f (first.toList ++ [.func (.yield l) #[] #[]] ++ cap.toList) (fun _ w' => ∃ j, Pd j w' ∧ ∀ w'', j1 w' w'' → KJ j w'') w0
structure Kont where
 exit : Nat → D3 → WP
 ret : D3 → WP
abbrev w1 (x : Option Value) (K : Value → WP) : WP := match x with | some v => K v | none => E0
abbrev w2 (x y : Option Value) (K : Value → Value → WP) : WP := w1 x fun a => w1 y fun b => K a b
abbrev wl (x : Option (List Value)) (K : List Value → WP) : WP := match x with | some v => K v | none => E0
abbrev wo (x : Option Operand) (f : Operand → Option Value) (K : Option Value → WP) : WP := match x with | none => K none | some o => w1 (f o) fun v => K (some v)
def A2P : Builtin → Bool
 | .len | .cap | .max | .min => true
 | _ => false
def A3W : Builtin → Bool
 | .append | .copy | .clear | .delete | .unsafeSliceData | .unsafeString => true
 | _ => false
def A8 (b : Builtin) (argTypes : Array TypeId) (type : TypeId) (args : List Value) : Sem Value :=
 match b with
 | .append => Builtin.append_ argTypes type args.toArray
 | .cap => Builtin.cap_ argTypes type args.toArray
 | .clear => Builtin.clear_ argTypes type args.toArray
 | .copy => Builtin.copy_ argTypes type args.toArray
 | .delete => Builtin.delete_ argTypes type args.toArray
 | .len => Builtin.len_ argTypes type args.toArray
 | .max => Builtin.max_ argTypes type args.toArray
 | .min => Builtin.min_ argTypes type args.toArray
 | .unsafeSliceData => Builtin.unsafeSliceData_ argTypes type args.toArray
 | .unsafeString => Builtin.unsafeString_ argTypes type args.toArray
 | _ => stuck ""
inductive QS where
 | mv (v : Value) | pu (s : Sem Value) | rd (s : Sem Value)
def F5 (v : Value) : Sem Value :=
 match v with
 | .pointer none | .nilIface | .nilFunc => runtimePanic .nilDeref
 | .func (.method _) _ _ => stuck ""
 | x => pure x
def A4D (P : Program) (t : TypeId) : Bool := match P.underlying t with | some (.int _) | some .bool | some .string => true | _ => false
def B0e (P : Program) (t : TypeId) : Bool := match P.underlying t with | some (.slice _) | some (.pointer _) | some .unsafePointer => true | _ => false
def B9f (P : Program) (t : TypeId) : Bool := match P.underlying t with | some (.map ..) => true | _ => false
def N4 (op : BinOp) (t : TypeId) (x y : Operand) (a b : Value) : Sem Value := do eqGuard op t x y a b; binOp op t a b
def B16 : BinOp → Bool
 | .eql | .neq => true
 | _ => false
def d9 (P : Program) (ρ : Operand → Option Value) : Op → Option QS
 | .move x | .assign x => (ρ x).map .mv
 | .pick c a b => match ρ c, ρ a, ρ b with | some c, some a, some b => some (.pu (do pure (if ← asBool c then a else b))) | _, _, _ => none
 | .nilCheck x => (ρ x).map fun v => .pu (F5 v)
 | .binOp op t x y _ => match ρ x, ρ y with | some a, some b => (match B16 op, A4D P t with | true, false => some (.rd (N4 op t x y a b)) | _, _ => some (.pu (binOp op t a b))) | _, _ => none
 | .unOp op _ x => (ρ x).map fun v => .pu (Op.unary op v)
 | .fieldAddr s x f => (ρ x).map fun v => .pu (Instr.fieldAt s v f)
 | .field s x f => (ρ x).map fun v => .pu (Instr.field s v f)
 | .indexAddr t x i => match ρ x, ρ i with | some a, some b => some (.pu (Instr.indexAt t a b)) | _, _ => none
 | .index t x i => match ρ x, ρ i with | some a, some b => some (.pu (Instr.index t a b)) | _, _ => none
 | .extract x i => (ρ x).map fun v => .pu (Instr.extract v i)
 | .load t x => (ρ x).map fun v => .rd (Instr.loadAt t v)
 | .build t parts => match evs' ρ (parts.toList.map (·.2)) with | some vs => some (.pu (Instr.build t ((parts.toList.map (·.1)).zip vs).toArray)) | none => none
 | .slice t x lo hi mx => match ρ x, ov ρ lo, ov ρ hi, ov ρ mx with | some a, some lo, some hi, some mx => some (.pu (Instr.sliceAt t a lo hi mx)) | _, _, _, _ => none
 | .convert s d x => (ρ x).map fun v => match B0e P s with | true => .rd (convert s d v) | false => .pu (convert s d v)
 | .makeInterface t x => (ρ x).map fun v => .pu (Instr.makeInterface t v)
 | .makeFunc fn first cap => match evs' ρ first.toList, evs' ρ cap.toList with | some a, some b => some (.pu (Instr.makeFunc fn a.toArray b.toArray)) | _, _ => none
 | .typeAssert x t u ok => (ρ x).map fun v => .pu (Instr.typeAssert v t u ok)
 | .lookup t x i ok => match ρ x, ρ i with | some a, some b => some (.rd (Instr.lookup t a b ok)) | _, _ => none
 | .call c => match c.callee with
  | .builtin b => match A2P b with
   | true => match evs' ρ c.args.toList with | some vs => some (match B9f P (c.argTypes.getD 0 0) with | true => .rd (A8 b c.argTypes 0 vs) | false => .pu (A8 b c.argTypes 0 vs)) | none => none
   | false => none
  | _ => none
 | _ => none
where
 evs' (ρ : Operand → Option Value) : List Operand → Option (List Value)
  | [] => some []
  | x :: xs => match ρ x, evs' ρ xs with | some v, some vs => some (v :: vs) | _, _ => none
 ov (ρ : Operand → Option Value) : Option Operand → Option (Option Value)
  | none => some none
  | some x => match ρ x with | some v => some (some v) | none => none
def B4W (P : Program) (q : QS) (K : Value → WP) : WP :=
 match q with
 | .mv v => K v
 | .pu s => A0 P s K
 | .rd s => A6 P s K
def B2Q (P : Program) (X : Nat → Prop) (n : Nat) (e : D3) (o : Oper) (K : Value → WP) : WP :=
 match o.op with
 | .alloc t => B1 P X (Instr.alloc t true (.tuple #[])) K
 | .box t x => w1 (ev n e x) fun v => B1 P X (Instr.box t v) K
 | .buildSlice t len parts => wl (evs n e (parts.toList.map (·.2))) fun vs => B1 P X (Instr.buildSlice t len ((parts.toList.map (·.1)).zip vs).toArray) K
 | .store t x y => w2 (ev n e x) (ev n e y) fun a b => C3 P X (Instr.storeAt t a b) (K undef)
 | .makeSlice t l c => w2 (ev n e l) (ev n e c) fun a b => B1 P X (Instr.makeSlice t a b) K
 | .makeMap t r => wo r (ev n e) fun r => B1 P X (Instr.makeMap t r) K
 | .mapUpdate t m k x => w2 (ev n e m) (ev n e k) fun a b => w1 (ev n e x) fun c => C3 P X (Instr.mapUpdate t a b c) (K undef)
 | .insert t m k x => w2 (ev n e m) (ev n e k) fun a b => w1 (ev n e x) fun c => C3 P X (Instr.mapUpdate t a b c) (K undef)
 | .mapEntry t m k => w2 (ev n e m) (ev n e k) fun a b => B1 P X (Instr.mapEntry t a b) K
 | .entryStore t m s x => w2 (ev n e m) (ev n e s) fun a b => w1 (ev n e x) fun c => C3 P X (Instr.entryStore t a b c) (K undef)
 | .range t x => w1 (ev n e x) fun v => B1 P X (Instr.range t v) K
 | .next x str => w1 (ev n e x) fun v => B1 P X (Instr.next v str o.type) K
 | .call c => wl (evs n e c.args.toList) fun args => match c.callee with
  | .value f => w1 (ev n e f) fun g => H3 P X g args K
  | .invoke r name => w1 (ev n e r) fun g => inv P X g name args K
  | .builtin b => match A3W b with
   | true => B1 P X (A8 b c.argTypes o.type args) K
   | false => E0
 | _ => E0
def B8C (P : Program) (X : Nat → Prop) (n : Nat) (e : D3) (o : Oper) (K : Value → WP) : WP :=
 match d9 P (ev n e) o.op with
 | some q => B4W P q K
 | none => B2Q P X n e o K
def A14 (ops : Array Oper) (n : Nat) (e : D3) (o : Oper) : Option (Option Value × Bool) :=
 match o.guard with
 | none => none
 | some (j, want) => match (ops[j]?).bind (·.dst) with
  | some d => some (match Nat.blt d n with | true => e.get d | false => none, want)
  | none => some (none, want)
abbrev A0H (ops : Array Oper) (n : Nat) (e : D3) (o : Oper) (A : (Value → WP) → WP) (F : Value → WP) : WP :=
 match A14 ops n e o with
 | none => A F
 | some (some g, want) => gj g want A F
 | some (none, _) => E0
def A81 (P : Program) (X : Nat → Prop) (n : Nat) (ops : Array Oper) : List Oper → D3 → (D3 → WP) → WP
 | [], e, K => K e
 | o :: rest, e, K => A0H ops n e o (fun J => B8C P X n e o J) fun v => A81 P X n ops rest (e.put o.dst v) K
abbrev Rd := Option (Value × Bool) × Sem Value × Value
def Rd.ok (P : Program) (p : Rd) (w : World) : Prop :=
 match p with
 | (none, s, v) => s.run P w = .ok v w
 | (some (g, want), s, v) => g = .bool want → s.run P w = .ok v w
def watch (P : Program) : List Rd → WP → WP
 | [], K => K
 | p :: l, K => fun w => Rd.ok P p w ∧ watch P l K w
def C0J : Op → Bool
 | .move _ | .assign _ | .pick .. | .nilCheck _ | .binOp .. | .unOp .. | .fieldAddr .. | .field .. | .indexAddr .. | .index .. | .extract .. | .load .. | .build .. | .slice ..
 | .convert .. | .makeInterface .. | .makeFunc .. | .typeAssert .. | .lookup .. => true
 | .call { callee := .builtin b, .. } => A2P b
 | _ => false
def A0d (ops : Array Oper) (i : Nat) : Bool := match ops[i]? with | some o => C0J o.op | none => false
def anc (ops : Array Oper) : Array Nat := Region.before ops
def d8 (ops : Array Oper) (L : Array Bool) : List (Nat × Rd) → List Rd
 | [] => []
 | (i, p) :: r => match (List.range ops.size).any fun j => !A0d ops j && L.getD j false && (anc ops |>.getD j 0).testBit i with
  | true => d8 ops L r
  | false => p :: d8 ops L r
def V1 (ops : Array Oper) (n : Nat) (e : D3) (o : Oper) : Option (Value × Bool) :=
 match A14 ops n e o with
 | some (some g, want) => some (g, want)
 | _ => none
def s8 (P : Program) (X : Nat → Prop) (n : Nat) (ops : Array Oper) (rec : Array Bool → List (Nat × Rd) → D3 → WP) (L : Array Bool) (S : List (Nat × Rd)) (e : D3) (i : Nat) : WP :=
 match ops[i]? with
 | none => E0
 | some o => A0H ops n e o (fun J => B2Q P X n e o J) fun v => watch P (d8 ops (L.setIfInBounds i true) S) (rec (L.setIfInBounds i true) S (e.put o.dst v))
def both (A B : WP) : WP := fun w => A w ∧ B w
def A6r (f : Nat → WP) : List Nat → WP
 | [] => fun _ => True
 | i :: is => both (f i) (A6r f is)
def B0s (P : Program) (n : Nat) (ops : Array Oper) (rec : Array Bool → List (Nat × Rd) → D3 → WP) (L : Array Bool) (S : List (Nat × Rd)) (e : D3) (i : Nat) : WP :=
 match ops[i]? with
 | none => E0
 | some o =>
  match Region.free .any ops L i, d9 P (ev n e) o.op with
  | true, some (.mv v) => A0H ops n e o (fun J => J v) fun v => rec (L.setIfInBounds i true) S (e.put o.dst v)
  | true, some (.pu s) => A0H ops n e o (fun J => A0 P s J) fun v => rec (L.setIfInBounds i true) S (e.put o.dst v)
  | true, some (.rd s) => A0H ops n e o (fun J => A6 P s J) fun v => rec (L.setIfInBounds i true) ((i, V1 ops n e o, s, v) :: S) (e.put o.dst v)
  | _, _ => E0
def Y7 (P : Program) (X : Nat → Prop) (n : Nat) (ops : Array Oper) (K : D3 → WP) : Nat → Array Bool → List (Nat × Rd) → D3 → WP
 | 0, L, _, e => match Region.ready .any ops L with | [] => K e | _ => E0
 | fuel + 1, L, S, e =>
  match (Region.ready .any ops L).find? (A0d ops) with
  | some i => B0s P n ops (Y7 P X n ops K fuel) L S e i
  | none =>
   match Region.ready .any ops L with
   | [] => K e
   | [i] => s8 P X n ops (Y7 P X n ops K fuel) L S e i
   | is => A6r (s8 P X n ops (Y7 P X n ops K fuel) L S e) is
def W7 : List Oper → List Nat
 | [] => []
 | o :: r => match o.dst with | some d => d :: W7 r | none => W7 r
def U4 : Code → List Nat
 | .region _ ops _ => W7 ops.toList
 | .seq a b => U4 a ++ U4 b
 | .cond _ a b => U4 a ++ U4 b
 | .block _ a => U4 a
 | .loop a => U4 a
 | .scope a => U4 a
 | _ => []
def A4g : Code → Bool
 | .skip | .label _ => true
 | .region .. => true
 | .seq a b => A4g a && A4g b
 | _ => false
def has (e : D3) (t : Nat) : Bool := match e.get t with | some _ => true | none => false
def nub : List Nat → List Nat
 | [] => []
 | x :: r => match (nub r).elem x with | true => nub r | false => x :: nub r
def tst (m t : Nat) : Bool := Nat.beq (Nat.land (Nat.shiftRight m t) 1) 1
def A0k : List Oper → Nat
 | [] => 0
 | o :: r => match o.dst with | some d => Nat.lor (Nat.shiftLeft 1 d) (A0k r) | none => A0k r
def bits : Code → Nat
 | .region _ ops _ => A0k ops.toList
 | .seq a b => Nat.lor (bits a) (bits b)
 | .cond _ a b => Nat.lor (bits a) (bits b)
 | .block _ a => bits a
 | .loop a => bits a
 | .scope a => bits a
 | _ => 0
def A9W : D3 → Nat
 | [] => 0
 | p :: r => Nat.lor (Nat.shiftLeft 1 p.1) (A9W r)
def A9v (c : Code) (e : D3) : List Nat := nub ((U4 c).filter fun t => tst (A9W e) t)
def A11 (e : D3) (m : Nat) : D3 := e.filter fun p => !(tst m p.1)
def A4q (e : D3) : List Nat → Option (List Value)
 | [] => some []
 | t :: ts => match e.get t, A4q e ts with | some v, some vs => some (v :: vs) | _, _ => none
def x2 (i : Nat) : Code → Bool
 | .seq a b => x2 i a || x2 i b
 | .cond _ a b => x2 i a || x2 i b
 | .block _ a => x2 i a
 | .loop a => x2 i a
 | .scope a => x2 i a
 | .rangeFunc .. => true
 | .exit j => Nat.beq j i
 | _ => false
def A7s : Code → Option Nat
 | .skip | .label _ => some 0
 | .region _ ops _ => some (A0k ops.toList)
 | .seq a b => match A7s a, A7s b with | some x, some y => some (Nat.lor x y) | _, _ => none
 | .cond _ a b => match A7s a, A7s b with | none, y => y | x, none => x | some x, some y => some (Nat.land x y)
 | .block i a => match x2 i a with | true => some 0 | false => A7s a
 | .scope a => A7s a
 | .rangeFunc .. => some 0
 | _ => none
def B10 : List Oper → Nat
 | [] => 0
 | o :: r => match o.dst with | some d => Nat.lor (Nat.land (Nat.shiftLeft 1 d) (A0k r)) (B10 r) | none => B10 r
def A5s : Code → Nat
 | .region _ ops _ => B10 ops.toList
 | .seq a b => Nat.lor (Nat.land (bits a) (bits b)) (Nat.lor (A5s a) (A5s b))
 | .cond _ a b => Nat.lor (Nat.land (bits a) (bits b)) (Nat.lor (A5s a) (A5s b))
 | .block _ a => A5s a
 | .loop a => A5s a
 | .scope a => A5s a
 | _ => 0
def C1U (c : Code) : Nat := match A7s c with | some m => Nat.land (A5s c) m | none => 0
def C1W (c : Code) (e : D3) : List Nat := nub ((U4 c).filter fun t => tst (Nat.lor (A9W e) (C1U c)) t)
def vc (P : Program) (X : Nat → Prop) (n : Nat) (rd : Bool) : Code → D3 → (D3 → WP) → Kont → WP
 | .skip, e, k, _ => k e
 | .label _, e, k, _ => k e
 | .region _ ops false, e, k, _ => A81 P X n ops ops.toList e k
 | .region _ ops true, e, k, _ => match Region.noSelect ops with
  | true => drw (Y7 P X n ops k ops.size (Array.replicate ops.size false) [] e)
  | false => E0
 | .seq a b, e, k, x =>
  match A4g a with
  | true => vc P X n rd a e (fun e' => vc P X n rd b e' k x) x
  | false =>
   let S := C1W a e
   jn (n := S.length) (VF.lam S.length fun vs => vc P X n rd b (S.zip vs ++ A11 e (bits a)) k x)
    fun J => vc P X n rd a e (fun e' => wl (A4q e' S) fun vs => VF.app E0 S.length J vs) x
 | .cond c a b, e, k, x => w1 (ev n e c) fun v => C5 v (vc P X n rd a e k x) (vc P X n rd b e k x)
 | .block id a, e, k, x => vc P X n rd a e k { x with exit := fun i e' => match Nat.beq i id with | true => k e' | false => x.exit i e' }
 | .loop a, e, _, x =>
  let S := A9v a e
  wl (A4q e S) fun vs => VF.app E0 S.length (lp (n := S.length) fun self => VF.lam S.length fun vs =>
   vc P X n rd a (S.zip vs ++ A11 e (bits a)) (fun e' => wl (A4q e' S) fun vs => VF.app E0 S.length self vs) x) vs
 | .rangeFunc g ps asg body, e, k, x =>
  match rd with
  | true => E0
  | false => match nub ps.toList == ps.toList with
   | false => E0
   | true => w1 (ev n e g) fun gv =>
   rng (N := ps.size) P X (VF.lam ps.size fun args KJ => vc P (fun _ => False) n true asg (ps.toList.zip args ++ e)
     (fun e1 => bgn (vc P (fun _ => False) n true body e1 (fun _ => KJ none) { exit := fun i _ => KJ (some (.exit i)), ret := fun _ => KJ (some .ret) })) { exit := fun _ _ => E0, ret := fun _ => E0 }) gv
    fun j => match j with | none => k e | some (.exit i) => x.exit i e | some .ret => x.ret e | some _ => E0
 | .exit id, e, _, x => x.exit id e
 | .scope a, e, k, x => vc P X n rd a e k x
 | .ret, e, _, x => x.ret e
 | .goto _, _, _, _ => E0
 | .refuse _, _, _, _ => E0
def H7 : Code → Bool
 | .seq a b => H7 a || H7 b
 | .cond _ a b => H7 a || H7 b
 | .block _ a => H7 a
 | .loop a => H7 a
 | .scope a => H7 a
 | .rangeFunc .. => true
 | _ => false
inductive RV where
 | v (x : Value) | c (t : TypeId) (p : Value)
def RV.sem : RV → Sem Value
 | .v x => pure x
 | .c t p => do loadVar t (← asAddr p)
def A2U : List RV → Sem (List Value)
 | [] => pure []
 | r :: rs => do
  let x ← r.sem
  let xs ← A2U rs
  pure (x :: xs)
def one (l : List Value) : Value := match l with | [x] => x | l => .tuple l.toArray
def E3 (l : List RV) : Sem Value := do pure (one (← A2U l))
def rvs (n : Nat) (e : D3) : List ResultVar → Option (List RV)
 | [] => some []
 | .tmp t :: rs => match ev n e (.tmp t), rvs n e rs with | some v, some l => some (.v v :: l) | _, _ => none
 | .cell t u :: rs => match ev n e (.tmp t), rvs n e rs with | some v, some l => some (.c u v :: l) | _, _ => none
def B2Z : List RV → Option (List Value)
 | [] => some []
 | .v x :: rs => match B2Z rs with | some l => some (x :: l) | none => none
 | .c .. :: _ => none
def S7 (P : Program) (n : Nat) (rs : List ResultVar) (R : Value → WP) (e : D3) : WP :=
 match rvs n e rs with
 | none => E0
 | some l => match B2Z l with
  | some vs => R (one vs)
  | none => A6 P (E3 l) R
def y3 (i : Nat) : List Value → D3
 | [] => []
 | v :: vs => (i, v) :: y3 (i + 1) vs
def A6q (P : Program) (X : Nat → Prop) (fn : Func) (args : List Value) (R : Value → WP) : WP :=
 match fn.body with
 | none => E0
 | some c => match Nat.ble args.length fn.ntmps with
  | false => E0
  | true => match H7 c with
   | true => vc P X fn.ntmps false c (y3 0 args) (fun e => V5 (S7 P fn.ntmps fn.results.toList R e)) { exit := fun _ _ => E0, ret := fun e => V5 (S7 P fn.ntmps fn.results.toList R e) }
   | false => vc P X fn.ntmps false c (y3 0 args) (S7 P fn.ntmps fn.results.toList R) { exit := fun _ _ => E0, ret := S7 P fn.ntmps fn.results.toList R }
end Go.Proofs.YtpbmephflllolaaGreat
namespace Go.Proofs.YtpbmephflllolaaGreat
open Go
def QS.sem : QS → Sem Value
 | .mv v => pure v
 | .pu s => s
 | .rd s => s
theorem y5 {n : Nat} {e : D3} {a : Act} (h : e.Ok n a) : ∀ {xs : List Operand} {vs : List Value}, d9.evs' (ev n e) xs = some vs → xs.map a.eval = vs := by
 intro xs
 induction xs with
 | nil => intro vs hx; cases hx; rfl
 | cons x xs ih =>
  intro vs hx
  simp only [d9.evs'] at hx
  split at hx
  ·rename_i v us h1 h2; cases hx; simp [D9 h h1, ih h2]
  ·cases hx
theorem A4p {n : Nat} {e : D3} {a : Act} (h : e.Ok n a) {x : Option Operand} {v : Option Value} (hx : d9.ov (ev n e) x = some v) : x.map a.eval = v := by
 cases x with
 | none => cases hx; rfl
 | some x =>
  simp only [d9.ov] at hx
  split at hx
  ·rename_i v h1; cases hx; simp [D9 h h1]
  ·cases hx
theorem B27 (ps : Array (Nat × Operand)) (f : Operand → Value) : ((ps.toList.map (·.1)).zip ((ps.toList.map (·.2)).map f)).toArray = ps.map fun (i, x) => (i, f x) := by
 obtain ⟨l⟩ := ps
 simp only [List.map_toArray]
 induction l with
 | nil => rfl
 | cons p l ih => obtain ⟨i, x⟩ := p; simpa using ih
theorem H0 {P : Program} {s : Sem Value} {w w' : World} {v : Value} (h : s.run P w = .ok v w') :
  (do pure (Next.value (← s)) : Sem Next).run P w = .ok (.value v) w' := by simp [h]
theorem B0y {P : Program} {t : TypeId} {d : Nat} {x y : Value} {w w' : World} {r : Bool} (hsc : A4D P t = true) (hxy : (x = .nilIface ∧ y = .nilIface) ∨ ∃ a b, x = .agg a ∧ y = .agg b) :
  (Op.equalIn (d + 1) t x y).run P w ≠ .ok r w' := by
 unfold A4D at hsc
 unfold Op.equalIn
 cases hu : P.underlying t with
 | none => rw [hu] at hsc; cases hsc
 | some u =>
  rw [hu] at hsc
  rcases hxy with ⟨rfl, rfl⟩ | ⟨a, b, rfl, rfl⟩ <;> cases u <;> first | (cases hsc; done) | simp [underlying, hu]
theorem B5r {P : Program} {op : BinOp} {t : TypeId} {x y : Operand} {a b : Value} {w w' : World} {v : Value} (hr : (binOp op t a b).run P w = .ok v w')
  (hs : B16 op = false ∨ A4D P t = true) : (eqGuard op t x y a b).run P w = .ok () w := by
 have hst : ((a = .nilIface ∧ b = .nilIface) ∨ ∃ a' b', a = .agg a' ∧ b = .agg b') → A4D P t = true → B16 op = true → False := by
  intro hxy hsc he
  have hne : ∀ r w1, (Op.equal t a b).run P w ≠ .ok r w1 := fun r w1 => by
   unfold Op.equal Op.maxDepth
   exact B0y (d := 9999) hsc hxy
  have h1 : ∃ f : Bool → Value, binOp op t a b = (do let r ← Op.equal t a b; pure (f r)) := by
   rcases hxy with ⟨rfl, rfl⟩ | ⟨a', b', rfl, rfl⟩ <;> cases op <;> first | (cases he; done) | exact ⟨_, rfl⟩
  obtain ⟨f, h1⟩ := h1
  rw [h1, Sem.run_bind] at hr
  cases h2 : (Op.equal t a b).run P w with
  | ok r w1 => exact hne r w1 h2
  | halt h w1 => rw [h2] at hr; cases hr
 unfold eqGuard
 cases he : B16 op with
 | false => cases op <;> first | (cases he; done) | rfl
 | true =>
  have hsc := hs.resolve_left (by simp [he])
  cases a
  case nilIface =>
   cases b
   case nilIface => exact (hst (.inl ⟨rfl, rfl⟩) hsc he).elim
   all_goals (cases op <;> first | (cases he; done) | rfl)
  case agg a' =>
   cases b
   case agg b' => exact (hst (.inr ⟨_, _, rfl, rfl⟩) hsc he).elim
   all_goals (cases op <;> first | (cases he; done) | rfl)
  all_goals (cases op <;> first | (cases he; done) | rfl)
theorem A29 {P : Program} {n : Nat} {e : D3} {a : Act} {ro : Option Nat} (h : e.Ok n a) {o : Oper} {q : QS} (hq : d9 P (ev n e) o.op = some q)
  {w w' : World} {v : Value} (hr : q.sem.run P w = .ok v w') : (o.semAt ro a.eval).run P w = .ok (.value v) w' := by
 have hd : ∀ c, o.op ≠ .defer c := by intro c hc; rw [hc] at hq; simp [d9] at hq
 rw [Oper.semAt_eq ro _ _ hd]
 unfold execOp
 cases hop : o.op <;> rw [hop] at hq <;> simp only [d9, Option.map_eq_some_iff, reduceCtorEq] at hq <;> simp only []
 case move x => obtain ⟨u, h1, rfl⟩ := hq; rw [D9 h h1]; simpa [QS.sem] using hr
 case assign x => obtain ⟨u, h1, rfl⟩ := hq; rw [D9 h h1]; simpa [QS.sem] using hr
 case pick c x y =>
  split at hq
  ·rename_i c a b h1 h2 h3; cases hq; rw [D9 h h1, D9 h h2, D9 h h3]
   simp only [QS.sem, Sem.run_bind] at hr ⊢
   cases hb : (asBool c).run P w with
   | ok t w1 => rw [hb] at hr; simp at hr ⊢; exact hr
   | halt x w1 => rw [hb] at hr; simp at hr
  ·cases hq
 case load t x => obtain ⟨u, h1, rfl⟩ := hq; rw [D9 h h1]; exact H0 hr
 case nilCheck x =>
  obtain ⟨u, h1, rfl⟩ := hq; rw [D9 h h1]
  simp only [QS.sem, F5] at hr
  split at hr
  all_goals first
   | (simp [runtimePanic] at hr; done)
   | (simp at hr; done)
   | skip
  simp at hr
  obtain ⟨rfl, rfl⟩ := hr
  split <;> simp_all
 case binOp op t x y t' =>
  split at hq
  ·rename_i u v' h1 h2
   rw [D9 h h1, D9 h h2]
   have key : (N4 op t x y u v').run P w = .ok v w' := by
    split at hq
    ·cases hq; exact hr
    ·rename_i hne
     cases hq
     have hr : (binOp op t u v').run P w = .ok v w' := hr
     unfold N4
     rw [Sem.run_bind, B5r hr (by
      cases h1 : B16 op <;> cases h2 : A4D P t <;> simp_all)]
     exact hr
   exact H0 key
  ·cases hq
 case unOp op t x => obtain ⟨u, h1, rfl⟩ := hq; rw [D9 h h1]; exact H0 hr
 case fieldAddr s x f => obtain ⟨u, h1, rfl⟩ := hq; rw [D9 h h1]; exact H0 hr
 case field s x f => obtain ⟨u, h1, rfl⟩ := hq; rw [D9 h h1]; exact H0 hr
 case extract x i => obtain ⟨u, h1, rfl⟩ := hq; rw [D9 h h1]; exact H0 hr
 case convert s d x =>
  obtain ⟨u, h1, rfl⟩ := hq; rw [D9 h h1]
  cases hb : B0e P s <;> rw [hb] at hr <;> exact H0 hr
 case makeInterface t x => obtain ⟨u, h1, rfl⟩ := hq; rw [D9 h h1]; exact H0 hr
 case typeAssert x t u ok => obtain ⟨u, h1, rfl⟩ := hq; rw [D9 h h1]; exact H0 hr
 case indexAddr t x i =>
  split at hq
  ·rename_i a b h1 h2; cases hq; rw [D9 h h1, D9 h h2]; exact H0 hr
  ·cases hq
 case index t x i =>
  split at hq
  ·rename_i a b h1 h2; cases hq; rw [D9 h h1, D9 h h2]; exact H0 hr
  ·cases hq
 case lookup t x i ok =>
  split at hq
  ·rename_i a b h1 h2; cases hq; rw [D9 h h1, D9 h h2]; exact H0 hr
  ·cases hq
 case build t parts =>
  split at hq
  ·rename_i vs h1; cases hq
   have h2 := y5 h h1
   rw [← B27, h2]; exact H0 hr
  ·cases hq
 case makeFunc fn first cap =>
  split at hq
  ·rename_i u1 u2 h1 h2; cases hq
   have h3 := y5 h h1
   have h4 := y5 h h2
   have e1 : first.map a.eval = u1.toArray := Array.toList_inj.1 (by simp [h3])
   have e2 : cap.map a.eval = u2.toArray := Array.toList_inj.1 (by simp [h4])
   rw [e1, e2]; exact H0 hr
  ·cases hq
 case slice t x lo hi mx =>
  split at hq
  ·rename_i a b c d h1 h2 h3 h4; cases hq
   rw [D9 h h1, A4p h h2, A4p h h3, A4p h h4]; exact H0 hr
  ·cases hq
 case call c =>
  split at hq
  ·rename_i b hb
   split at hq
   ·rename_i hqb
    split at hq
    ·rename_i vs h1; cases hq
     have hr : (A8 b c.argTypes 0 vs).run P w = .ok v w' := by
      cases hm : B9f P (c.argTypes.getD 0 0) <;> rw [hm] at hr <;> exact hr
     have h2 := y5 h h1
     have e1 : c.args.map a.eval = vs.toArray := Array.toList_inj.1 (by simp [h2])
     obtain ⟨cs, e2⟩ : ∃ cs, resolve a.eval c o.type = pure { target := .builtin b c.argTypes o.type cs, args := vs.toArray } := ⟨_, by simp only [resolve, hb, e1]; rfl⟩
     rw [e2]
     cases b <;> first | (exfalso; simp [A2P] at hqb; done) | exact H0 hr
    ·cases hq
   ·cases hq
  ·cases hq
 all_goals cases hq
theorem B9N {P : Program} {q : QS} {K : Value → WP} {w : World} (h : B4W P q K w) :
  ∃ v, q.sem.run P w = .ok v w ∧ K v w := by
 cases q with
 | mv v => exact ⟨v, rfl, h⟩
 | pu s => obtain ⟨v, h1, h2⟩ := h; exact ⟨v, h1 w, h2⟩
 | rd s => exact h
theorem C2E {P : Program} {X : Nat → Prop} {g : Value} {args : List Value} {K : Value → WP} {w : World} (h : H3 P X g args K w) :
  ∃ d, (Deferred.ofValue g args.toArray).run P w = .ok d w ∧
   ((∃ f args', (invoke d.target d.args).run P w = .ok (.enter f args') w ∧ Fn P X f args' w K) ∨
    (∃ l f tmps asg body, (invoke d.target d.args).run P w = .ok (.round l f tmps asg body) w ∧ B2d P l f tmps asg body w fun v w' => K v w' ∧ Sk X w w') ∨
    (∃ v w', (invoke d.target d.args).run P w = .ok (.value v) w' ∧ Sk X w w' ∧ K v w')) := by
 unfold H3 at h
 split at h
 ·rename_i f first cap
  have e1 : (first.toList ++ args ++ cap.toList).toArray = (first ++ args.toArray) ++ cap := by simp
  rcases h with h | ⟨v, w', h1, h2, h3⟩
  ·have h2 := h.2
   rw [e1] at h2
   exact ⟨_, rfl, .inl ⟨f, _, h.1 ((first ++ args.toArray) ++ cap) w, h2⟩⟩
  ·rw [e1] at h1
   exact ⟨_, rfl, .inr (.inr ⟨v, w', h1, h2, h3⟩)⟩
 ·rename_i l first cap
  obtain ⟨f, tmps, asg, body, h1, h2⟩ := h
  have e1 : (first.toList ++ args).toArray = first ++ args.toArray := by simp
  rw [e1] at h1
  exact ⟨_, rfl, .inr (.inl ⟨l, f, tmps, asg, body, h1, h2⟩)⟩
 ·rename_i fn first cap _ _
  obtain ⟨f, args', h1, h2⟩ := h
  exact ⟨_, rfl, .inl ⟨f, args', h1, h2⟩⟩
 ·exact h.elim
theorem A3V {P : Program} {X : Nat → Prop} {ro : Option Nat} {o : Oper} {a : Act} {w w' : World} {K : Value → WP} {v : Value}
  (hr : (o.semAt ro a.eval).run P w = .ok (.value v) w') (hs : Sk X w w') (hK : K v w') : Z8 P X ro o a w K := by
 unfold Z8; rw [hr]; exact ⟨hK, hs⟩
theorem A0D {P : Program} {X : Nat → Prop} {ro : Option Nat} {o : Oper} {a : Act} {w : World} {K : Value → WP} {s : Sem Value} (hd : ∀ c, o.op ≠ .defer c)
  (he : execOp a.eval o = (do pure (Next.value (← s)) : Sem Next)) (h : B1 P X s K w) : Z8 P X ro o a w K := by
 obtain ⟨v, w', h1, h2, h3⟩ := h
 refine A3V (v := v) (w' := w') ?_ h2 h3
 rw [Oper.semAt_eq ro _ _ hd, he]; exact H0 h1
theorem A9F {P : Program} {X : Nat → Prop} {ro : Option Nat} {o : Oper} {a : Act} {w : World} {K : Value → WP} {s : Sem Unit} (hd : ∀ c, o.op ≠ .defer c)
  (he : execOp a.eval o = (do s; pure Next.skip : Sem Next)) (h : C3 P X s (K undef) w) : Z8 P X ro o a w K := by
 obtain ⟨w', h1, h2, h3⟩ := h
 unfold Z8
 have : (o.semAt ro a.eval).run P w = .ok .skip w' := by rw [Oper.semAt_eq ro _ _ hd, he]; simp [h1]
 rw [this]; exact ⟨h3, h2⟩
theorem G8 {x : Option Value} {K : Value → WP} {w : World} (h : w1 x K w) : ∃ v, x = some v ∧ K v w := by
 cases x with
 | none => exact h.elim
 | some v => exact ⟨v, rfl, h⟩
theorem A4B {x : Option (List Value)} {K : List Value → WP} {w : World} (h : wl x K w) : ∃ v, x = some v ∧ K v w := by
 cases x with
 | none => exact h.elim
 | some v => exact ⟨v, rfl, h⟩
theorem B4U {P : Program} {X : Nat → Prop} {n : Nat} {e : D3} {a : Act} {ro : Option Nat} (hok : e.Ok n a) {o : Oper} {K : Value → WP} {w : World}
  (h : B2Q P X n e o K w) : Z8 P X ro o a w K := by
 obtain ⟨dst, op, type, pos, after, guard⟩ := o
 cases op
 case alloc t =>
  have h : B1 P X (Instr.alloc t true (.tuple #[])) K w := h
  exact A0D (fun _ h => by cases h) rfl h
 case box t x =>
  obtain ⟨v, h1, h⟩ := G8 h
  exact A0D (fun _ h => by cases h) (by simp only [execOp, D9 hok h1]) h
 case buildSlice t len parts =>
  obtain ⟨vs, h1, h⟩ := A4B h
  have h2 := B7Y hok h1
  have h : B1 P X (Instr.buildSlice t len ((parts.toList.map (·.1)).zip vs).toArray) K w := h
  have h3 := B27 parts a.eval
  rw [h2] at h3
  rw [h3] at h
  exact A0D (fun _ h => by cases h) rfl h
 case store t x y =>
  obtain ⟨u, h1, h⟩ := G8 h
  obtain ⟨v, h2, h⟩ := G8 h
  exact A9F (fun _ h => by cases h) (by simp only [execOp, D9 hok h1, D9 hok h2]) h
 case makeSlice t x y =>
  obtain ⟨u, h1, h⟩ := G8 h
  obtain ⟨v, h2, h⟩ := G8 h
  exact A0D (fun _ h => by cases h) (by simp only [execOp, D9 hok h1, D9 hok h2]) h
 case makeMap t r =>
  cases r with
  | none => exact A0D (fun _ h => by cases h) rfl h
  | some r =>
   obtain ⟨u, h1, h⟩ := G8 h
   exact A0D (fun _ h => by cases h) (by simp only [execOp, Option.map_some, D9 hok h1]) h
 case mapUpdate t m k x =>
  obtain ⟨u, h1, h⟩ := G8 h
  obtain ⟨v, h2, h⟩ := G8 h
  obtain ⟨y, h3, h⟩ := G8 h
  exact A9F (fun _ h => by cases h) (by simp only [execOp, D9 hok h1, D9 hok h2, D9 hok h3]) h
 case insert t m k x =>
  obtain ⟨u, h1, h⟩ := G8 h
  obtain ⟨v, h2, h⟩ := G8 h
  obtain ⟨y, h3, h⟩ := G8 h
  exact A9F (fun _ h => by cases h) (by simp only [execOp, D9 hok h1, D9 hok h2, D9 hok h3]) h
 case mapEntry t m k =>
  obtain ⟨u, h1, h⟩ := G8 h
  obtain ⟨v, h2, h⟩ := G8 h
  exact A0D (fun _ h => by cases h) (by simp only [execOp, D9 hok h1, D9 hok h2]) h
 case entryStore t m k x =>
  obtain ⟨u, h1, h⟩ := G8 h
  obtain ⟨v, h2, h⟩ := G8 h
  obtain ⟨y, h3, h⟩ := G8 h
  exact A9F (fun _ h => by cases h) (by simp only [execOp, D9 hok h1, D9 hok h2, D9 hok h3]) h
 case range t x =>
  obtain ⟨v, h1, h⟩ := G8 h
  exact A0D (fun _ h => by cases h) (by simp only [execOp, D9 hok h1]) h
 case next x str =>
  obtain ⟨v, h1, h⟩ := G8 h
  exact A0D (fun _ h => by cases h) (by simp only [execOp, D9 hok h1]) h
 case call c =>
  obtain ⟨callee, cargs, ctypes⟩ := c
  obtain ⟨args, h1, h0⟩ := A4B h
  clear h
  have h2 := B7Y hok h1
  have e1 : cargs.map a.eval = args.toArray := Array.toList_inj.1 (by simpa using h2)
  cases callee with
  | value f =>
   obtain ⟨g, h3, h⟩ := G8 h0
   obtain ⟨d, hd1, hd2⟩ := C2E h
   have hres : (resolve a.eval ⟨.value f, cargs, ctypes⟩ type).run P w = .ok d w := by simp only [resolve, e1, D9 hok h3]; exact hd1
   have hx : Oper.semAt ro a.eval ⟨dst, .call ⟨.value f, cargs, ctypes⟩, type, pos, after, guard⟩ = (do let d ← resolve a.eval ⟨.value f, cargs, ctypes⟩ type; invoke d.target d.args) :=
    Oper.semAt_eq ro _ _ fun _ h => by cases h
   rcases hd2 with ⟨f, args', h4, h5⟩ | ⟨l, f, tmps, asg, body, h4, h5⟩ | ⟨v, w', h4, h5, h6⟩
   ·unfold Z8
    rw [hx, Sem.run_bind, hres, Result.andThen_ok, h4]; exact ⟨Sk.refl _ _, h5⟩
   ·unfold Z8
    rw [hx, Sem.run_bind, hres, Result.andThen_ok, h4]; exact ⟨Sk.refl _ _, h5⟩
   ·unfold Z8
    rw [hx, Sem.run_bind, hres, Result.andThen_ok, h4]; exact ⟨h6, h5⟩
  | invoke r name =>
   obtain ⟨g, h3, h⟩ := G8 h0
   obtain ⟨f, args', h4, h5⟩ := h
   have hres : (resolve a.eval ⟨.invoke r name, cargs, ctypes⟩ type).run P w = .ok { target := .fn (.method name) #[], args := #[g] ++ args.toArray } w := by
    simp only [resolve, e1, D9 hok h3]; rfl
   have hx : Oper.semAt ro a.eval ⟨dst, .call ⟨.invoke r name, cargs, ctypes⟩, type, pos, after, guard⟩ = (do let d ← resolve a.eval ⟨.invoke r name, cargs, ctypes⟩ type; invoke d.target d.args) :=
    Oper.semAt_eq ro _ _ fun _ h => by cases h
   have hi : (invoke (.fn (.method name) #[]) (#[g] ++ args.toArray)).run P w = .ok (.enter f args') w := by
    simp only [invoke]
    simpa using h4
   unfold Z8
   rw [hx, Sem.run_bind, hres, Result.andThen_ok, hi]; exact ⟨Sk.refl _ _, h5⟩
  | builtin b =>
   cases hl : A3W b with
   | false => simp only [hl] at h0; exact h0.elim
   | true =>
    simp only [hl] at h0
    obtain ⟨v, w', h3, h4, h5⟩ := h0
    refine A3V (v := v) (w' := w') ?_ h4 h5
    obtain ⟨cs, e2⟩ : ∃ cs, resolve a.eval ⟨.builtin b, cargs, ctypes⟩ type = pure { target := .builtin b ctypes type cs, args := args.toArray } := ⟨_, by simp only [resolve, e1]; rfl⟩
    have hx : Oper.semAt ro a.eval ⟨dst, .call ⟨.builtin b, cargs, ctypes⟩, type, pos, after, guard⟩ = (do let d ← resolve a.eval ⟨.builtin b, cargs, ctypes⟩ type; invoke d.target d.args) :=
     Oper.semAt_eq ro _ _ fun _ h => by cases h
    rw [hx, e2]
    cases b <;> first | (exfalso; simp [A3W] at hl; done) | exact H0 h3
 all_goals exact (h : E0 w).elim
theorem B9e {P : Program} {X : Nat → Prop} {n : Nat} {e : D3} {a : Act} {ro : Option Nat} (hok : e.Ok n a) {o : Oper} {K : Value → WP} {w : World}
  (h : B8C P X n e o K w) : Z8 P X ro o a w K := by
 unfold B8C at h
 cases hq : d9 P (ev n e) o.op with
 | some q =>
  rw [hq] at h
  obtain ⟨v, h1, h2⟩ := B9N h
  exact A3V (A29 hok hq h1) (Sk.refl _ _) h2
 | none => rw [hq] at h; exact B4U hok h
theorem u7 {ops : Array Oper} {n : Nat} {e : D3} {a : Act} (hok : e.Ok n a) {o : Oper} {A : (Value → WP) → WP} {F : Value → WP} {w : World} (h : A0H ops n e o A F w) :
  (Region.wanted o (yielded ops a.tmps) = true ∧ A F w) ∨ (Region.wanted o (yielded ops a.tmps) = false ∧ F undef w ∧ ∃ g want, V1 ops n e o = some (g, want) ∧ g ≠ .bool want) := by
 unfold A0H at h
 unfold V1
 unfold Region.wanted
 cases hgo : A14 ops n e o with
 | none =>
  rw [hgo] at h
  have : o.guard = none := by
   unfold A14 at hgo
   cases hg : o.guard with
   | none => rfl
   | some jw => rw [hg] at hgo; simp only [] at hgo; split at hgo <;> cases hgo
  rw [this]; exact .inl ⟨rfl, h⟩
 | some gw =>
  obtain ⟨g?, want⟩ := gw
  rw [hgo] at h
  cases g? with
  | none => exact h.elim
  | some g =>
   simp only [] at h ⊢
   unfold A14 at hgo
   cases hg : o.guard with
   | none => rw [hg] at hgo; cases hgo
   | some jw =>
    obtain ⟨j, want'⟩ := jw
    rw [hg] at hgo; simp only [] at hgo ⊢
    cases hd : (ops[j]?).bind (·.dst) with
    | none => rw [hd] at hgo; simp at hgo
    | some d =>
     rw [hd] at hgo; simp only [Option.some.injEq, Prod.mk.injEq] at hgo
     obtain ⟨h1, rfl⟩ := hgo
     cases hb : Nat.blt d n with
     | false => rw [hb] at h1; cases h1
     | true =>
      rw [hb] at h1
      have ht := hok.2 d g (by simpa using hb) h1
      unfold yielded
      rw [hd]; simp only [Option.bind_some, ht]
      cases g
      case bool b => cases b <;> cases want' <;> first | exact .inl ⟨rfl, h⟩ | exact .inr ⟨rfl, h, _, _, rfl, (by simp)⟩
      all_goals exact .inr ⟨rfl, h, _, _, rfl, (by simp)⟩
theorem B4z {ops : Array Oper} {n : Nat} {e : D3} {a : Act} (hok : e.Ok n a) {o : Oper} (hw : Region.wanted o (yielded ops a.tmps) = true) {g : Value} {want : Bool}
  (hg : V1 ops n e o = some (g, want)) : g = .bool want := by
 have h : A0H ops n e o (fun _ _ => False) (fun _ _ => True) default ∨ g = .bool want := by
  unfold V1 at hg
  unfold A0H
  cases hgo : A14 ops n e o with
  | none => rw [hgo] at hg; cases hg
  | some gw =>
   obtain ⟨g?, want'⟩ := gw
   rw [hgo] at hg
   cases g? with
   | none => cases hg
   | some g' =>
    cases hg
    simp only [gj, gd]
    cases g
    case bool b => cases b <;> cases want <;> simp
    all_goals simp
 rcases h with h | h
 ·rcases u7 hok h with ⟨_, h1⟩ | ⟨h1, _⟩
  ·exact h1.elim
  ·rw [hw] at h1; cases h1
 ·exact h
theorem C1m {P : Program} {X : Nat → Prop} {n : Nat} {ro : Option Nat} {ops : Array Oper} {K : D3 → WP} : ∀ (l : List Oper) (i : Nat), ops.toList.drop i = l → ∀ (e : D3) (a : Act) (w : World),
  e.Ok n a → A81 P X n ops l e K w → S1 P X ro ops (fun a w => ∃ e', D3.Ok n e' a ∧ K e' w) (List.range' i l.length) a w := by
 intro l
 induction l with
 | nil => intro i _ e a w hok h; exact ⟨e, hok, h⟩
 | cons o l ih =>
  intro i hi e a w hok h
  have hlt : i < ops.toList.length := by
   rcases Nat.lt_or_ge i ops.toList.length with h1 | h1
   ·exact h1
   ·rw [List.drop_eq_nil_of_le h1] at hi; cases hi
  rw [List.drop_eq_getElem_cons hlt] at hi
  obtain ⟨h1, h2⟩ := List.cons.inj hi
  have ho : ops[i]? = some o := by rw [← h1]; simp at hlt ⊢
  simp only [List.length_cons, List.range'_succ, S1]
  unfold W4
  rw [ho]; simp only []
  rcases u7 hok h with ⟨hw, hy⟩ | ⟨hw, hn, _⟩
  ·rw [if_pos hw]
   exact (B9e hok hy).mono fun v w' hv => ih (i + 1) h2 _ _ _ (hok.put _ _) hv
  ·rw [if_neg (by simp [hw])]
   exact ih (i + 1) h2 _ _ _ (hok.put _ _) hn
theorem B7S (acc : Array Nat) (i : Nat) : ∀ (l : List Edge) (s : Nat),
  (l.foldl (fun s e => if Region.binds .any e then s ||| 2 ^ e.on ||| acc.getD e.on 0 else s) s).testBit i = true →
  s.testBit i = true ∨ ∃ e ∈ l, Region.binds .any e = true ∧ (e.on = i ∨ (acc.getD e.on 0).testBit i = true) := by
 intro l
 induction l with
 | nil => intro s h; exact .inl h
 | cons e l ih =>
  intro s h
  rw [List.foldl_cons] at h
  rcases ih _ h with h1 | ⟨e', he', h2⟩
  ·by_cases hb : Region.binds .any e = true
   ·rw [if_pos hb, Nat.testBit_or, Nat.testBit_or, Nat.testBit_two_pow] at h1
    simp only [Bool.or_eq_true, decide_eq_true_eq] at h1
    rcases h1 with (h1 | h1) | h1
    ·exact .inl h1
    ·exact .inr ⟨e, List.mem_cons_self .., hb, .inl h1⟩
    ·exact .inr ⟨e, List.mem_cons_self .., hb, .inr h1⟩
   ·rw [if_neg hb] at h1; exact .inl h1
  ·exact .inr ⟨e', List.mem_cons_of_mem _ he', h2⟩
def B0g (pre : List Oper) (acc : Array Nat) : Prop :=
 acc.size = pre.length ∧ ∀ j i, (acc.getD j 0).testBit i = true →
  ∃ o, pre[j]? = some o ∧ ∃ e ∈ o.after, Region.binds .any e = true ∧ (e.on = i ∨ (e.on < j ∧ (acc.getD e.on 0).testBit i = true))
theorem B3q : ∀ (l pre : List Oper) (acc : Array Nat), B0g pre acc →
  B0g (pre ++ l) (l.foldl (fun acc o => acc.push (o.after.foldl (fun s e => if Region.binds .any e then s ||| 2 ^ e.on ||| acc.getD e.on 0 else s) 0)) acc) := by
 intro l
 induction l with
 | nil => intro pre acc h; simpa using h
 | cons o l ih =>
  intro pre acc h
  rw [List.foldl_cons]
  have := ih (pre ++ [o]) (acc.push (o.after.foldl (fun s e => if Region.binds .any e then s ||| 2 ^ e.on ||| acc.getD e.on 0 else s) 0)) ?_
  ·simpa using this
  ·have old : ∀ j, j < acc.size → (acc.push (o.after.foldl (fun s e => if Region.binds .any e then s ||| 2 ^ e.on ||| acc.getD e.on 0 else s) 0)).getD j 0 = acc.getD j 0 := by
    intro j hj
    simp [Array.getElem?_push, hj, Nat.ne_of_lt hj]
   refine ⟨by simp [h.1], fun j i hb => ?_⟩
   rcases Nat.lt_trichotomy j acc.size with hj | hj | hj
   ·rw [old j hj] at hb
    obtain ⟨o', ho', e, he, h1, h2⟩ := h.2 j i hb
    refine ⟨o', ?_, e, he, h1, ?_⟩
    ·rw [List.getElem?_append_left (by rw [← h.1]; exact hj)]; exact ho'
    ·rcases h2 with h2 | ⟨h2, h3⟩
     ·exact .inl h2
     ·exact .inr ⟨h2, by rw [old _ (by omega)]; exact h3⟩
   ·have e1 : (acc.push (o.after.foldl (fun s e => if Region.binds .any e then s ||| 2 ^ e.on ||| acc.getD e.on 0 else s) 0)).getD j 0 = o.after.foldl (fun s e => if Region.binds .any e then s ||| 2 ^ e.on ||| acc.getD e.on 0 else s) 0 := by
     rw [hj]; simp
    rw [e1, ← Array.foldl_toList] at hb
    rcases B7S acc i _ _ hb with hb | ⟨e, he, h1, h2⟩
    ·simp at hb
    ·refine ⟨o, by rw [hj, h.1]; simp, e, by simpa using he, h1, ?_⟩
     rcases h2 with h2 | h2
     ·exact .inl h2
     ·rcases Nat.lt_or_ge e.on acc.size with hl | hl
      ·exact .inr ⟨by omega, by rw [old _ hl]; exact h2⟩
      ·rw [Array.getD_eq_getD_getElem?, Array.getElem?_eq_none hl] at h2; simp at h2
   ·rw [Array.getD_eq_getD_getElem?, Array.getElem?_eq_none (by simp; omega)] at hb; simp at hb
theorem B3D (ops : Array Oper) (j i : Nat) (h : ((Region.before ops).getD j 0).testBit i = true) :
  ∃ o, ops[j]? = some o ∧ ∃ e ∈ o.after, Region.binds .any e = true ∧ (e.on = i ∨ (e.on < j ∧ ((Region.before ops).getD e.on 0).testBit i = true)) := by
 have key := B3q ops.toList [] #[] ⟨rfl, fun j i h => by simp at h⟩
 have e1 : Region.before ops = ops.toList.foldl (fun acc o => acc.push (o.after.foldl (fun s e => if Region.binds .any e then s ||| 2 ^ e.on ||| acc.getD e.on 0 else s) 0)) #[] := by
  unfold Region.before
  rw [← Array.foldl_toList]
 rw [← e1] at key
 obtain ⟨o, ho, r⟩ := key.2 j i h
 exact ⟨o, by simpa using ho, r⟩
theorem B51 {ops : Array Oper} {L : Array Bool} (hc : r7 ops L) {i : Nat} : ∀ j, L.getD j false = true → ((anc ops).getD j 0).testBit i = true → L.getD i false = true := by
 intro j
 induction j using Nat.strongRecOn with
 | _ j ih =>
  intro hj hb
  obtain ⟨o, ho, e, he, h1, h2⟩ := B3D ops j i hb
  have h3 := hc j o ho hj e he h1
  rcases h2 with rfl | ⟨h2, h4⟩
  ·exact h3
  ·exact ih _ h2 h3 h4
theorem A0q {ops : Array Oper} {L : Array Bool} {i : Nat} (hq : A0d ops i = true) : ∀ S, d8 ops (L.setIfInBounds i true) S = d8 ops L S := by
 have key : ∀ k, ((List.range ops.size).any fun j => !A0d ops j && (L.setIfInBounds i true).getD j false && ((anc ops).getD j 0).testBit k) =
   (List.range ops.size).any fun j => !A0d ops j && L.getD j false && ((anc ops).getD j 0).testBit k := by
  intro k
  congr 1
  funext j
  by_cases hij : i = j
  ·subst hij; simp [hq]
  ·rw [getD_set_ne false hij]
 intro S
 induction S with
 | nil => rfl
 | cons p S ih => obtain ⟨k, p⟩ := p; simp only [d8, key, ih]
theorem T9.mono {P : Program} {X : Nat → Prop} {ro : Option Nat} {ops : Array Oper} {G G' : Array Bool → World → Prop} {Q : Act → World → Prop} (hg : ∀ L w, G L w → G' L w) :
  ∀ (fuel : Nat) (L : Array Bool) (a : Act) (w : World), T9 P X ro ops G Q fuel L a w → T9 P X ro ops G' Q fuel L a w := by
 intro fuel
 induction fuel with
 | zero => exact fun L a w h => ⟨hg _ _ h.1, h.2⟩
 | succ fuel ih => exact fun L a w h => ⟨hg _ _ h.1, h.2.1, fun j hj => (h.2.2 j hj).mono fun a w => ih _ a w⟩
def M6 (P : Program) (ops : Array Oper) (S : List (Nat × Rd)) (L : Array Bool) (w : World) : Prop := ∀ p ∈ d8 ops L S, Rd.ok P p w
theorem B19 {P : Program} {K : WP} {w : World} : ∀ (l : List Rd), watch P l K w → (∀ p ∈ l, Rd.ok P p w) ∧ K w := by
 intro l
 induction l with
 | nil => exact fun h => ⟨fun p hp => absurd hp List.not_mem_nil, h⟩
 | cons p l ih =>
  intro h
  obtain ⟨h1, h2⟩ := ih h.2
  refine ⟨fun q hp => ?_, h2⟩
  rcases List.mem_cons.1 hp with rfl | hp
  ·exact h.1
  ·exact h1 q hp
theorem A74 {ops : Array Oper} (hs : Region.noSelect ops = true) (j : Nat) (o : Oper) (cs : Array SelectCase) (b : Bool) (ho : ops[j]? = some o) : o.op ≠ .select cs b :=
 Region.noSelect_spec hs j o cs b ho
theorem C00 {P : Program} {X : Nat → Prop} {n : Nat} {ro : Option Nat} {ops : Array Oper} {K : D3 → WP} (hs : Region.noSelect ops = true) : ∀ (fuel : Nat) (L : Array Bool)
  (S : List (Nat × Rd)) (e : D3) (a : Act) (w : World), r7 ops L → e.Ok n a → M6 P ops S L w → Y7 P X n ops K fuel L S e w →
  T9 P X ro ops (M6 P ops S) (fun a w => ∃ e', D3.Ok n e' a ∧ K e' w) fuel L a w := by
 intro fuel
 induction fuel with
 | zero =>
  intro L S e a w hc hok hw h
  unfold Y7 at h
  cases hr : Region.ready .any ops L with
  | nil => rw [hr] at h; exact ⟨hw, hr, e, hok, h⟩
  | cons i is => rw [hr] at h; exact h.elim
 | succ fuel ih =>
  have hstep : ∀ (L : Array Bool) (S : List (Nat × Rd)) (e : D3) (a : Act) (w : World), r7 ops L → e.Ok n a → ∀ i ∈ Region.ready .any ops L,
    s8 P X n ops (Y7 P X n ops K fuel) L S e i w →
    W4 P X ro ops i (T9 P X ro ops (M6 P ops S) (fun a w => ∃ e', D3.Ok n e' a ∧ K e' w) fuel (L.setIfInBounds i true)) a w := by
   intro L S e a w hc hok i hi h
   unfold s8 at h
   unfold W4
   cases ho : ops[i]? with
   | none => rw [ho] at h; exact h.elim
   | some o =>
    rw [ho] at h; simp only [] at h ⊢
    rcases u7 hok h with ⟨hw, hy⟩ | ⟨hw, hn, _⟩
    ·rw [if_pos hw]
     refine (B4U hok hy).mono fun v w' hv => ?_
     obtain ⟨h1, h2⟩ := B19 _ hv
     exact ih _ _ _ _ _ (hc.set hi) (hok.put _ _) h1 h2
    ·rw [if_neg (by simp [hw])]
     obtain ⟨h1, h2⟩ := B19 _ hn
     exact ih _ _ _ _ _ (hc.set hi) (hok.put _ _) h1 h2
  intro L S e a w hc hok hW h
  unfold Y7 at h
  cases hf : (Region.ready .any ops L).find? (A0d ops) with
  | some i =>
   rw [hf] at h; simp only [B0s] at h
   have hi := List.mem_of_find?_eq_some hf
   have hqi : A0d ops i = true := by simpa using List.find?_some hf
   cases ho : ops[i]? with
   | none => rw [ho] at h; exact h.elim
   | some o =>
    rw [ho] at h; simp only [] at h
    cases hfree : Region.free .any ops L i with
    | false => rw [hfree] at h; exact h.elim
    | true =>
     rw [hfree] at h
     have first : ∀ (v : Value) (St : World → Prop) (S' : List (Nat × Rd)), s5 P ro ops o v St a →
       (∀ L w, M6 P ops S' L w → M6 P ops S L w) →
       (∀ L w, r7 ops L → L.getD i true = false → M6 P ops S' (L.setIfInBounds i true) w → St w) →
       M6 P ops S' (L.setIfInBounds i true) w →
       Y7 P X n ops K fuel (L.setIfInBounds i true) S' (e.put o.dst v) w →
       T9 P X ro ops (M6 P ops S) (fun a w => ∃ e', D3.Ok n e' a ∧ K e' w) (fuel + 1) L a w := by
      intro v St S' hq hm hst hwt hd
      refine B7W (Gi := M6 P ops S') ho (A74 hs) ?_ hst fuel L a w hc (Region.free_spec ho hfree) hi hq ?_
      ·intro L w hg p hp
       exact hg p (by rw [A0q hqi]; exact hp)
      ·exact T9.mono (fun L w hg => ⟨hm L w hg, hg⟩) _ _ _ _ (ih _ _ _ _ _ (hc.set hi) (hok.put _ _) hwt hd)
     have keep : M6 P ops S (L.setIfInBounds i true) w := by
      intro p hp; rw [A0q hqi] at hp; exact hW p hp
     cases hq : d9 P (ev n e) o.op with
     | none => rw [hq] at h; exact h.elim
     | some q =>
      rw [hq] at h
      have skip : Region.wanted o (yielded ops a.tmps) = false → Y7 P X n ops K fuel (L.setIfInBounds i true) S (e.put o.dst undef) w →
        T9 P X ro ops (M6 P ops S) (fun a w => ∃ e', D3.Ok n e' a ∧ K e' w) (fuel + 1) L a w := fun hw hn =>
       first undef (fun _ => True) S (.inr ⟨hw, rfl⟩) (fun _ _ h => h) (fun _ _ _ _ _ => trivial) keep hn
      cases q with
      | mv v =>
       rcases u7 hok h with ⟨hw, hy⟩ | ⟨hw, hn, _⟩
       ·exact first v (fun _ => True) S (.inl ⟨hw, fun w' _ => A29 hok hq rfl⟩) (fun _ _ h => h) (fun _ _ _ _ _ => trivial) keep hy
       ·exact skip hw hn
      | pu s =>
       rcases u7 hok h with ⟨hw, v, hv, hy⟩ | ⟨hw, hn, _⟩
       ·exact first v (fun _ => True) S (.inl ⟨hw, fun w' _ => A29 hok hq (hv w')⟩) (fun _ _ h => h) (fun _ _ _ _ _ => trivial) keep hy
       ·exact skip hw hn
      | rd s =>
       have sub : ∀ (p : Rd) (L : Array Bool) (w : World), M6 P ops ((i, p) :: S) L w → M6 P ops S L w := by
        intro p L w hg q hq
        refine hg q ?_
        simp only [d8]
        split
        ·exact hq
        ·exact List.mem_cons_of_mem _ hq
       have add : ∀ (p : Rd), Rd.ok P p w → M6 P ops ((i, p) :: S) (L.setIfInBounds i true) w := by
        intro p hp q hq
        rw [A0q hqi] at hq
        simp only [d8] at hq
        split at hq
        ·exact hW q hq
        ·rcases List.mem_cons.1 hq with rfl | hq
         ·exact hp
         ·exact hW q hq
       rcases u7 hok h with ⟨hw, v, hv, hy⟩ | ⟨hw, hn, g, want, hgv, hne⟩
       ·refine first v (fun w' => s.run P w' = .ok v w') ((i, V1 ops n e o, s, v) :: S) (.inl ⟨hw, fun w' hw' => A29 hok hq hw'⟩) (sub _) ?_ (add _ ?_) hy
        ·intro L w hc hli hg
         have hin : (V1 ops n e o, s, v) ∈ d8 ops (L.setIfInBounds i true) ((i, V1 ops n e o, s, v) :: S) := by
          rw [A0q hqi]
          simp only [d8]
          split
          ·rename_i hany
           obtain ⟨j, _, hj⟩ := List.any_eq_true.1 hany
           simp only [Bool.and_eq_true] at hj
           have := B51 hc j hj.1.2 hj.2
           rcases Nat.lt_or_ge i L.size with h' | h'
           ·simp [h'] at this hli; rw [this] at hli; cases hli
           ·simp [Array.getElem?_eq_none h'] at this
          ·exact List.mem_cons_self ..
         have hok2 := hg _ hin
         cases hgv : V1 ops n e o with
         | none => rw [hgv] at hok2; exact hok2
         | some gw =>
          obtain ⟨g, want⟩ := gw
          rw [hgv] at hok2
          exact hok2 (B4z hok hw hgv)
        ·cases hgv : V1 ops n e o with
         | none => exact hv
         | some gw => exact fun _ => hv
       ·refine first undef (fun _ => True) ((i, V1 ops n e o, s, undef) :: S) (.inr ⟨hw, rfl⟩) (sub _) (fun _ _ _ _ _ => trivial) (add _ ?_) hn
        rw [hgv]
        exact fun h => absurd h hne
  | none =>
   rw [hf] at h; simp only [] at h
   cases hr : Region.ready .any ops L with
   | nil => rw [hr] at h; exact ⟨hW, fun _ => ⟨e, hok, h⟩, fun j hj => (by rw [hr] at hj; cases hj)⟩
   | cons i is =>
    cases is with
    | nil =>
     rw [hr] at h; simp only [] at h
     refine ⟨hW, fun h0 => (by rw [hr] at h0; cases h0), fun j hj => ?_⟩
     have hj' := hj
     rw [hr] at hj'
     simp only [List.mem_cons, List.not_mem_nil, or_false] at hj'
     subst hj'
     exact hstep L S e a w hc hok _ hj h
    | cons i' is =>
     rw [hr] at h; simp only [] at h
     refine ⟨hW, fun h0 => (by rw [hr] at h0; cases h0), ?_⟩
     have all : ∀ js, (∀ j ∈ js, j ∈ Region.ready .any ops L) → A6r (s8 P X n ops (Y7 P X n ops K fuel) L S e) js w → ∀ j ∈ js,
       W4 P X ro ops j (T9 P X ro ops (M6 P ops S) (fun a w => ∃ e', D3.Ok n e' a ∧ K e' w) fuel (L.setIfInBounds j true)) a w := by
      intro js
      induction js with
      | nil => intro _ _ j hj; cases hj
      | cons k js ih2 =>
       intro hm h j hj
       have h : s8 P X n ops (Y7 P X n ops K fuel) L S e k w ∧ A6r (s8 P X n ops (Y7 P X n ops K fuel) L S e) js w := h
       rcases List.mem_cons.1 hj with rfl | hj
       ·exact hstep L S e a w hc hok _ (hm _ (List.mem_cons_self ..)) h.1
       ·exact ih2 (fun j hj => hm j (List.mem_cons_of_mem _ hj)) h.2 j hj
     intro j hj
     exact all _ (fun j hj => by rw [hr]; exact hj) h j (by rw [← hr]; exact hj)
theorem B2A (ops : Array Oper) (m : Nat) : r7 ops (Array.replicate m false) := by
 intro j o _ hL
 simp [Array.getElem?_replicate] at hL
 split at hL <;> simp at hL
theorem B5p {P : Program} {X : Nat → Prop} {n : Nat} {ro : Option Nat} {ops : Array Oper} {K : D3 → WP} {e : D3} {a : Act} {w : World} (hs : Region.noSelect ops = true) (hok : e.Ok n a)
  (h : Y7 P X n ops K ops.size (Array.replicate ops.size false) [] e w) :
  T9 P X ro ops (M6 P ops []) (fun a w => ∃ e', D3.Ok n e' a ∧ K e' w) ops.size (Array.replicate ops.size false) a w :=
 C00 hs _ _ _ _ _ _ (B2A _ _) hok (fun _ hp => absurd hp List.not_mem_nil) h
end Go.Proofs.YtpbmephflllolaaGreat
namespace Go.Proofs.YtpbmephflllolaaGreat
open Go
def B9H (n : Nat) (k : D3 → WP) (x : Kont) : Ex → Act → World → Prop
 | .nrm, a, w => ∃ e, D3.Ok n e a ∧ k e w
 | .exit i, a, w => ∃ e, D3.Ok n e a ∧ x.exit i e w
 | .ret, a, w => ∃ e, D3.Ok n e a ∧ x.ret e w
 | .goto _, _, _ => False
def U1 (ds : List Nat) (a a' : Act) : Prop := ∀ t, t ∉ ds → a'.tmps[t]? = a.tmps[t]?
theorem U1.refl (ds : List Nat) (a : Act) : U1 ds a a := fun _ _ => rfl
theorem U1.trans {ds es : List Nat} {a b c : Act} (h : U1 ds a b) (h' : U1 es b c) : U1 (ds ++ es) a c := fun t ht => by
 rw [h' t fun hh => ht (List.mem_append_right _ hh), h t fun hh => ht (List.mem_append_left _ hh)]
theorem U1.mono {ds es : List Nat} {a b : Act} (h : U1 ds a b) (hs : ∀ t ∈ ds, t ∈ es) : U1 es a b := fun t ht => h t fun hh => ht (hs t hh)
def Q3 (c : Code) (a a' : Act) : Prop := U1 (U4 c) a a' ∧ (H7 c = false → a'.defers = a.defers)
theorem Q3.seq {c d : Code} {a b e : Act} (h : Q3 c a b) (h' : Q3 d b e) : Q3 (.seq c d) a e :=
 ⟨U1.trans h.1 h'.1, fun hr => by
  simp only [H7, Bool.or_eq_false_iff] at hr
  rw [h'.2 hr.2, h.2 hr.1]⟩
theorem Q3.seqL {c d : Code} {a b : Act} (h : Q3 c a b) : Q3 (.seq c d) a b :=
 ⟨h.1.mono fun t ht => List.mem_append_left _ ht, fun hr => by
  simp only [H7, Bool.or_eq_false_iff] at hr
  rw [h.2 hr.1]⟩
theorem Q3.condL {o : Operand} {c d : Code} {a b : Act} (h : Q3 c a b) : Q3 (.cond o c d) a b :=
 ⟨h.1.mono fun t ht => List.mem_append_left _ ht, fun hr => by
  simp only [H7, Bool.or_eq_false_iff] at hr
  rw [h.2 hr.1]⟩
theorem Q3.condR {o : Operand} {c d : Code} {a b : Act} (h : Q3 d a b) : Q3 (.cond o c d) a b :=
 ⟨h.1.mono fun t ht => List.mem_append_right _ ht, fun hr => by
  simp only [H7, Bool.or_eq_false_iff] at hr
  rw [h.2 hr.2]⟩
theorem B3k {ops : List Oper} {o : Oper} {d : Tmp} (ho : o ∈ ops) (hd : o.dst = some d) : d ∈ W7 ops := by
 induction ops with
 | nil => cases ho
 | cons p ops ih =>
  simp only [W7]
  rcases List.mem_cons.1 ho with rfl | ho
  ·rw [hd]; exact List.mem_cons_self ..
  ·cases p.dst with
   | none => exact ih ho
   | some e => exact List.mem_cons_of_mem _ (ih ho)
theorem B2e {ops : Array Oper} {i : Nat} {o : Oper} (ho : ops[i]? = some o) (a : Act) (v : Value) : U1 (W7 ops.toList) a (a.put o.dst v) := by
 intro t ht
 cases hd : o.dst with
 | none => rfl
 | some d =>
  have : d ∈ W7 ops.toList := B3k (by simpa using Array.mem_of_getElem? ho) hd
  have hne : d ≠ t := fun h => ht (h ▸ this)
  simp [Act.put, Array.getElem?_setIfInBounds_ne hne]
theorem B7T {P : Program} {X : Nat → Prop} {ro : Option Nat} {ops : Array Oper} {i : Nat} {K : Act → World → Prop} {a : Act} {w : World} (h : W4 P X ro ops i K a w) :
  W4 P X ro ops i (fun a' w' => K a' w' ∧ U1 (W7 ops.toList) a a') a w := by
 unfold W4 at *
 cases ho : ops[i]? with
 | none => rw [ho] at h; exact ⟨h, U1.refl _ _⟩
 | some o =>
  rw [ho] at h; simp only [] at h ⊢
  by_cases hw : Region.wanted o (yielded ops a.tmps) = true
  ·rw [if_pos hw] at h ⊢; exact h.mono fun v w' hv => ⟨hv, B2e ho a v⟩
  ·rw [if_neg hw] at h ⊢; exact ⟨h, B2e ho a _⟩
theorem B3T {P : Program} {X : Nat → Prop} {ro : Option Nat} {ops : Array Oper} {Q Q' : Act → World → Prop} (hq : ∀ a w, Q a w → Q' a w) : ∀ (l : List Nat) (a : Act) (w : World),
  S1 P X ro ops Q l a w → S1 P X ro ops Q' l a w := by
 intro l
 induction l with
 | nil => exact fun a w h => hq a w h
 | cons i l ih => exact fun a w h => W4.mono h ih
theorem A7V {P : Program} {X : Nat → Prop} {ro : Option Nat} {ops : Array Oper} {Q : Act → World → Prop} : ∀ (l : List Nat) (a : Act) (w : World), S1 P X ro ops Q l a w →
  S1 P X ro ops (fun a' w' => Q a' w' ∧ U1 (W7 ops.toList) a a') l a w := by
 intro l
 induction l with
 | nil => exact fun a w h => ⟨h, U1.refl _ _⟩
 | cons i l ih =>
  intro a w h
  refine (B7T h).mono fun a1 w1 h1 => ?_
  refine B3T ?_ l a1 w1 (ih a1 w1 h1.1)
  intro a2 w2 h2
  exact ⟨h2.1, fun t ht => by rw [h2.2 t ht, h1.2 t ht]⟩
theorem At.regionDraw' {P : Program} {X : Nat → Prop} {b : Frame} {ops : Array Oper} {a : Act} {w : World} {id : Nat} {G : Array Bool → World → Prop} {Q : Ex → Act → World → Prop} (hm : P.follows .mixedOrders = true)
  (h : T9 P X b.roundOf ops G (fun a w => Q .nrm a w) ops.size (Array.replicate ops.size false) a { w with drawn := w.drawn + 1 }) :
  At P X b (.region id ops true) (fun ex a' w' => Q ex a' w' ∧ Q3 (.region id ops true) a a') a w := by
 intro k cs
 have h1 := A7V _ _ _ (B6Y ops.size (w.tape w.drawn (.order b.fn id)) _ _ _ h)
 obtain ⟨a', w', hQ, hs, hd, st⟩ := A5l _ a _ h1 k cs
 refine ⟨.nrm, a', w', [], ⟨hQ.1, hQ.2, fun _ => hd⟩, (Sk.of_heap (b := { w with drawn := w.drawn + 1 }) rfl).trans hs, hd, trivial, .head stepR_region_draw ?_⟩
 simp only [Region.schedule, hm, Bool.true_or, if_true]
 exact st
theorem At.region' {P : Program} {X : Nat → Prop} {b : Frame} {ops : Array Oper} {a : Act} {w : World} {id : Nat} {Q : Ex → Act → World → Prop}
  (h : S1 P X b.roundOf ops (fun a' w' => Q .nrm a' w' ∧ U1 (W7 ops.toList) a a') (List.range ops.size) a w) :
  At P X b (.region id ops false) (fun ex a' w' => Q ex a' w' ∧ Q3 (.region id ops false) a a') a w := fun k cs =>
 let ⟨a', w', hQ, hs, hd, st⟩ := A5l _ a w h k cs
 ⟨.nrm, a', w', [], ⟨hQ.1, hQ.2, fun _ => hd⟩, hs, hd, trivial, .head stepR_region st⟩
theorem At.loopG {P : Program} {X : Nat → Prop} {b : Frame} {Q : Ex → Act → World → Prop} {c : Code} {σ : Type} (I : σ → Act → World → Prop) (μ : σ → World → Nat)
  (round : ∀ s a w, I s a w → At P X b c (Ex.then (fun a' w' => ∃ s', I s' a' w' ∧ μ s' w' < μ s w) Q) a w) {s : σ} {a : Act} {w : World} (h₀ : I s a w) : At P X b (.loop c) Q a w := by
 intro k cs
 have key : ∀ n s a w, μ s w = n → I s a w →
   ∃ e a' w' ms, Q e a' w' ∧ Sk X w w' ∧ a'.defers = ms ++ a.defers ∧ Q2 w.heap.size w' ms ∧ Arr P (lone (b.atR a (.code c :: .inLoop c :: k)) cs w) b k cs e a' w' := by
  intro n
  induction n using Nat.strongRecOn with
  | _ n ih =>
   intro s a w hn hI
   obtain ⟨e, a₁, w₁, ms, hq, hk, hd, hm, harr⟩ := round s a w hI (.inLoop c :: k) cs
   cases e with
   | nrm =>
    obtain ⟨s', hI₁, hlt⟩ := hq
    obtain ⟨e₂, a₂, w₂, ms₂, hq₂, hk₂, hd₂, hm₂, harr₂⟩ := ih (μ s' w₁) (hn ▸ hlt) s' a₁ w₁ rfl hI₁
    have := A3S hk hd hm hk₂ hd₂ hm₂
    exact ⟨e₂, a₂, w₂, ms₂ ++ ms, hq₂, hk.trans hk₂, this.1, this.2, .of_steps (Steps.trans harr (.one stepR_inLoop)) harr₂⟩
   | exit id => exact ⟨_, a₁, w₁, ms, hq, hk, hd, hm, .pass (x := .inLoop c) rfl (by simp) harr⟩
   | goto l => exact ⟨_, a₁, w₁, ms, hq, hk, hd, hm, .pass (x := .inLoop c) rfl (by simp) harr⟩
   | ret => exact ⟨_, a₁, w₁, ms, hq, hk, hd, hm, .pass (x := .inLoop c) rfl (by simp) harr⟩
 obtain ⟨e, a', w', ms, hq, h1, h2, h3, harr⟩ := key _ s a w rfl h₀
 exact ⟨e, a', w', ms, hq, h1, h2, h3, .of_steps (.one stepR_loop) harr⟩
theorem A2B {e : D3} : ∀ {S : List Nat} {vs : List Value}, A4q e S = some vs → vs.length = S.length := by
 intro S
 induction S with
 | nil => intro vs h; cases h; rfl
 | cons t S ih =>
  intro vs h
  simp only [A4q] at h
  split at h
  ·rename_i v us h1 h2; cases h; simp [ih h2]
  ·cases h
theorem A8a {e e' : D3} {t : Nat} : D3.get (e ++ e') t = match e.get t with | some v => some v | none => e'.get t := by
 induction e with
 | nil => rfl
 | cons p e ih =>
  obtain ⟨i, v⟩ := p
  simp only [List.cons_append, D3.get]
  cases Nat.beq i t with
  | true => rfl
  | false => exact ih
theorem C02 {e : D3} {t : Nat} {v : Value} : ∀ {S : List Nat} {vs : List Value}, A4q e S = some vs → D3.get (S.zip vs) t = some v → e.get t = some v := by
 intro S
 induction S with
 | nil => intro vs h hg; cases h; cases hg
 | cons s S ih =>
  intro vs h hg
  simp only [A4q] at h
  split at h
  ·rename_i u us h1 h2
   cases h
   simp only [List.zip_cons_cons, D3.get] at hg
   cases hb : Nat.beq s t with
   | true => rw [hb] at hg; cases hg; rw [← Nat.eq_of_beq_eq_true hb]; exact h1
   | false => rw [hb] at hg; exact ih h2 hg
  ·cases h
theorem A8u (m t : Nat) : tst m t = m.testBit t := by
 unfold tst
 rw [show Nat.land (Nat.shiftRight m t) 1 = (m >>> t) % 2 from Nat.and_one_is_mod _, Nat.shiftRight_eq_div_pow, Nat.testBit_eq_decide_div_mod_eq]
 by_cases h : m / 2 ^ t % 2 = 1
 ·rw [h]; rfl
 ·rw [decide_eq_false h]
  cases hb : Nat.beq (m / 2 ^ t % 2) 1 with
  | false => rfl
  | true => exact absurd (Nat.eq_of_beq_eq_true hb) h
theorem A98 (a b t : Nat) : tst (Nat.lor a b) t = (tst a t || tst b t) := by
 rw [A8u, A8u, A8u]; exact Nat.testBit_or a b t
theorem C0a (t : Nat) : tst (Nat.shiftLeft 1 t) t = true := by
 rw [A8u]
 have : Nat.testBit (1 <<< t) t = true := by rw [Nat.testBit_shiftLeft]; simp
 exact this
theorem C0N {ops : List Oper} {t : Nat} (h : t ∈ W7 ops) : tst (A0k ops) t = true := by
 induction ops with
 | nil => cases h
 | cons o r ih =>
  simp only [W7] at h
  simp only [A0k]
  cases hd : o.dst with
  | none => rw [hd] at h; exact ih h
  | some d =>
   rw [hd] at h
   simp only [A98, Bool.or_eq_true]
   rcases List.mem_cons.1 h with rfl | h
   ·left; exact C0a _
   ·right; exact ih h
theorem l5 {t : Nat} : ∀ {c : Code}, t ∈ U4 c → tst (bits c) t = true
 | .region _ ops _, h => C0N h
 | .seq a b, h => by
  simp only [U4, List.mem_append] at h
  simp only [bits, A98, Bool.or_eq_true]
  exact h.imp l5 l5
 | .cond _ a b, h => by
  simp only [U4, List.mem_append] at h
  simp only [bits, A98, Bool.or_eq_true]
  exact h.imp l5 l5
 | .block _ a, h => by simp only [U4] at h; simp only [bits]; exact l5 h
 | .loop a, h => by simp only [U4] at h; simp only [bits]; exact l5 h
 | .scope a, h => by simp only [U4] at h; simp only [bits]; exact l5 h
 | .skip, h => by simp [U4] at h
 | .label _, h => by simp [U4] at h
 | .exit _, h => by simp [U4] at h
 | .ret, h => by simp [U4] at h
 | .goto _, h => by simp [U4] at h
 | .refuse _, h => by simp [U4] at h
 | .rangeFunc .., h => by simp [U4] at h
theorem B3B {e : D3} {m : Nat} {t : Nat} {v : Value} (h : (A11 e m).get t = some v) : e.get t = some v ∧ tst m t = false := by
 induction e with
 | nil => cases h
 | cons p e ih =>
  obtain ⟨i, u⟩ := p
  simp only [A11, List.filter_cons] at h
  cases hd : tst m i with
  | true =>
   simp only [hd] at h
   obtain ⟨h1, h2⟩ := ih h
   refine ⟨?_, h2⟩
   simp only [D3.get]
   cases hb : Nat.beq i t with
   | true => rw [Nat.eq_of_beq_eq_true hb, h2] at hd; cases hd
   | false => exact h1
  | false =>
   simp only [hd] at h
   simp only [D3.get]
   simp only [Bool.not_false, ↓reduceIte, D3.get] at h
   cases hb : Nat.beq i t with
   | true =>
    rw [hb] at h; cases h
    exact ⟨rfl, by rw [← Nat.eq_of_beq_eq_true hb]; exact hd⟩
   | false => rw [hb] at h; exact ih h
theorem Ok.join {n : Nat} {e e' : D3} {a a' : Act} {S : List Nat} {vs : List Value} {c : Code} (he : e.Ok n a) (he' : e'.Ok n a') (hs : U1 (U4 c) a a') (hv : A4q e' S = some vs) :
  D3.Ok n (S.zip vs ++ A11 e (bits c)) a' := by
 refine ⟨he'.1, fun t v ht hg => ?_⟩
 rw [A8a] at hg
 cases hz : D3.get (S.zip vs) t with
 | some u => rw [hz] at hg; cases hg; exact he'.2 t v ht (C02 hv hz)
 | none =>
  rw [hz] at hg
  obtain ⟨h1, h2⟩ := B3B hg
  rw [hs t fun hh => by rw [l5 hh] at h2; cases h2]; exact he.2 t v ht h1
def A37 (b : Frame) (a : Act) (ps : Array Tmp) (asg body : Code) (r : Nat) (st : LoopState) (pend : Option Code) : Obj :=
 .loop { state := st, pending := pend, fn := b.fn, tmps := a.tmps, params := ps, assign := asg, body := body, defers := r }
theorem B4G {h : Array Obj} {l : Nat} {o o' : Obj} (hl : h[l]? = some o) : (h.setIfInBounds l o')[l]? = some o' := by
 have : l < h.size := (Array.getElem?_eq_some_iff.1 hl).1
 simp [this]
theorem A4j {w : World} {l : Nat} {lo lo' : Loop} (h : w.heap[l]? = some (.loop lo)) : j1 w { w with heap := w.heap.setIfInBounds l (.loop lo') } := by
 refine ⟨by simp, fun r hr => ?_⟩
 by_cases hrl : l = r
 ·subst hrl; exact absurd h (hr lo)
 ·simp [Array.getElem?_setIfInBounds_ne hrl]
theorem B23 {w : World} {l : Nat} {o : Obj} (h : soft w.heap[l]? = true) (ho : soft (some o) = true) : f8 w { w with heap := w.heap.setIfInBounds l o } := by
 refine f8.soft rfl rfl fun r => ?_
 by_cases hrl : l = r
 ·subst hrl
  refine Or.inr ⟨h, ?_⟩
  by_cases hlt : l < w.heap.size
  ·simp [hlt, ho]
  ·have : (w.heap.setIfInBounds l o)[l]? = none := by simp; omega
   rw [this]; rfl
 ·exact Or.inl (by simp [Array.getElem?_setIfInBounds_ne hrl])
theorem B1p {X : Nat → Prop} {w : World} {l : Nat} {lo lo' : Loop} (h : w.heap[l]? = some (.loop lo)) (hX : X l) : Sk X w { w with heap := w.heap.setIfInBounds l (.loop lo') } := by
 refine ⟨by simp, fun r d hr => ?_, fun r lo2 hx hr => ?_, B23 (by rw [h]; rfl) rfl⟩
 ·by_cases hrl : l = r
  ·subst hrl; rw [h] at hr; cases hr
  ·simpa [Array.getElem?_setIfInBounds_ne hrl] using hr
 ·by_cases hrl : l = r
  ·subst hrl; exact absurd hX hx
  ·simpa [Array.getElem?_setIfInBounds_ne hrl] using hr
theorem A0x {P : Program} {w : World} {l : Nat} {lo : Loop} (h : w.heap[l]? = some (.loop lo)) : (Instr.getLoop l).run P w = .ok lo w := by
 simp [Instr.getLoop, getObj, Sem.run, h]
theorem A3Z {P : Program} {w : World} {l : Nat} {lo lo' : Loop} (h : w.heap[l]? = some (.loop lo)) :
  (setObj l (.loop lo')).run P w = .ok () { w with heap := w.heap.setIfInBounds l (.loop lo') } := by
 simp [setObj, Sem.run, h]
theorem A92 {P : Program} {w : World} {l : Nat} {lo : Loop} (h : w.heap[l]? = some (.loop lo)) (hs : lo.state = .ready) :
  (Instr.beginRound l).run P w = .ok () { w with heap := w.heap.setIfInBounds l (.loop { lo with state := .busy }) } := by
 simp [Instr.beginRound, A0x h, A3Z h, hs]
theorem B1n {P : Program} {w : World} {l : Nat} {lo : Loop} (j : Option Code) (h : w.heap[l]? = some (.loop lo)) :
  (Instr.endRound l j).run P w = .ok (.bool j.isNone) { w with heap := w.heap.setIfInBounds l (.loop { lo with state := if j.isNone then .ready else .done, pending := j }) } := by
 simp [Instr.endRound, A0x h, A3Z h]
theorem B3a {P : Program} {w : World} {l : Nat} {lo : Loop} (h : w.heap[l]? = some (.loop lo)) (hs : lo.state ≠ .busy) :
  (Instr.endLoop l).run P w = .ok lo.pending { w with heap := w.heap.setIfInBounds l (.loop { lo with state := .exhausted }) } := by
 simp [Instr.endLoop, A0x h, A3Z h, hs]
def P7 (b : Frame) (a : Act) (ps : Array Tmp) (asg body : Code) (w : World) : World :=
 { w with heap := (w.heap.push (.deferred (some []))).push (A37 b a ps asg body w.heap.size .ready none) }
theorem B1A {P : Program} {b : Frame} {a : Act} {ps : Array Tmp} {asg body : Code} {w : World} :
  (Instr.enterLoop b.fn a.tmps ps asg body none).run P w = .ok (w.heap.size + 1, [{ target := .collected w.heap.size, args := #[] }]) (P7 b a ps asg body w) := by
 simp [Instr.enterLoop, newObj, Sem.run, P7, A37]
theorem A7W {b : Frame} {a : Act} {ps : Array Tmp} {asg body : Code} {w : World} : Z7 w (P7 b a ps asg body w) := by
 refine ⟨(by simp [P7]; omega), fun r o h => ?_⟩
 have hlt : r < w.heap.size := (Array.getElem?_eq_some_iff.1 h).1
 simp only [P7]
 rw [Array.getElem?_push_lt (by simp; omega), ← Array.getElem?_eq_getElem, Array.getElem?_push_lt hlt, ← Array.getElem?_eq_getElem, h]
theorem A7U {b : Frame} {a : Act} {ps : Array Tmp} {asg body : Code} {w : World} : (P7 b a ps asg body w).heap[w.heap.size]? = some (.deferred (some [])) := by
 simp [P7, Array.getElem?_push]
theorem A6L {b : Frame} {a : Act} {ps : Array Tmp} {asg body : Code} {w : World} : (P7 b a ps asg body w).heap[w.heap.size + 1]? = some (A37 b a ps asg body w.heap.size .ready none) := by
 have e : (w.heap.push (Obj.deferred (some []))).size = w.heap.size + 1 := by simp
 unfold P7
 rw [← e]
 simp only [Array.getElem?_push_size]
theorem Z7.sk {X : Nat → Prop} {w w' : World} (h : Z7 w w') (hc : f8 w w') : Sk X w w' := ⟨h.1, fun r _ => h.2 r _, fun r _ _ => h.2 r _, hc⟩
theorem A6g {b : Frame} {a : Act} {ps : Array Tmp} {asg body : Code} {w : World} : f8 w (P7 b a ps asg body w) := by
 refine f8.soft rfl rfl fun r => ?_
 by_cases hr : r < w.heap.size
 ·exact Or.inl ((A7W (b := b) (a := a) (ps := ps) (asg := asg) (body := body) (w := w)).2 r _ (Array.getElem?_eq_getElem hr) |>.trans (Array.getElem?_eq_getElem hr).symm)
 ·refine Or.inr ⟨by rw [Array.getElem?_eq_none (by omega)]; rfl, ?_⟩
  by_cases h1 : r = w.heap.size
  ·subst h1; rw [A7U]; rfl
  ·by_cases h2 : r = w.heap.size + 1
   ·subst h2; rw [A6L]; rfl
   ·rw [Array.getElem?_eq_none (by simp [P7]; omega)]; rfl
theorem B8e {n : Nat} {e : D3} : ∀ {ps : List Tmp} {args : List Value} {tmps : Array Value} {ds : List Deferred}, D3.Ok n e ⟨tmps, ds⟩ → args.length = ps.length → ps.Nodup →
  D3.Ok n (ps.zip args ++ e) ⟨(ps.zip args).foldl (fun t (p : Tmp × Value) => t.setIfInBounds p.1 p.2) tmps, ds⟩ := by
 intro ps args tmps ds h hl hn
 have key : ∀ (ps : List Tmp) (args : List Value) (tmps : Array Value), tmps.size = n → args.length = ps.length → ps.Nodup →
   ((ps.zip args).foldl (fun t (p : Tmp × Value) => t.setIfInBounds p.1 p.2) tmps).size = n ∧
   (∀ t v, t < n → D3.get (ps.zip args) t = some v → ((ps.zip args).foldl (fun t (p : Tmp × Value) => t.setIfInBounds p.1 p.2) tmps)[t]? = some v) ∧
   (∀ t, t ∉ ps → ((ps.zip args).foldl (fun t (p : Tmp × Value) => t.setIfInBounds p.1 p.2) tmps)[t]? = tmps[t]?) := by
  intro ps
  induction ps with
  | nil => intro args tmps hs _ _; exact ⟨hs, (fun t v _ h => by cases h), fun _ _ => rfl⟩
  | cons p ps ih =>
   intro args tmps hs hl hn
   cases args with
   | nil => cases hl
   | cons x args =>
    simp only [List.zip_cons_cons, List.foldl_cons]
    obtain ⟨h1, h2, h3⟩ := ih args (tmps.setIfInBounds p x) (by simpa using hs) (by simpa using hl) (List.nodup_cons.1 hn).2
    refine ⟨h1, fun t v ht hg => ?_, fun t ht => ?_⟩
    ·simp only [D3.get] at hg
     cases hb : Nat.beq p t with
     | true =>
      rw [hb] at hg; cases hg
      have hpt := Nat.eq_of_beq_eq_true hb
      subst hpt
      rw [h3 p (List.nodup_cons.1 hn).1]
      simp [hs, ht]
     | false => rw [hb] at hg; exact h2 t v ht hg
    ·rw [h3 t fun hh => ht (List.mem_cons_of_mem _ hh), Array.getElem?_setIfInBounds_ne fun (hh : p = t) => ht (by rw [hh]; exact List.mem_cons_self ..)]
 obtain ⟨h1, h2, h3⟩ := key ps args tmps h.1 hl hn
 refine ⟨h1, fun t v ht hg => ?_⟩
 rw [A8a] at hg
 cases hz : D3.get (ps.zip args) t with
 | some u => rw [hz] at hg; cases hg; exact h2 t v ht hz
 | none =>
  rw [hz] at hg
  have : t ∉ ps := by
   intro hm
   have : ∀ (ps : List Tmp) (args : List Value), args.length = ps.length → t ∈ ps → ∃ v, D3.get (ps.zip args) t = some v := by
    intro ps
    induction ps with
    | nil => intro _ _ h; cases h
    | cons p ps ih =>
     intro args hl hm
     cases args with
     | nil => cases hl
     | cons x args =>
      simp only [List.zip_cons_cons, D3.get]
      cases hb : Nat.beq p t with
      | true => exact ⟨x, rfl⟩
      | false =>
       rcases List.mem_cons.1 hm with rfl | hm
       ·have := Nat.beq_refl t; rw [hb] at this; cases this
       ·exact ih args (by simpa using hl) hm
   obtain ⟨v, hv⟩ := this ps args hl hm
   rw [hz] at hv; cases hv
  have := h3 t this
  simp only [] at this ⊢
  rw [this]; exact h.2 t v ht hg
def Y4 (P : Program) (n : Nat) (c : Code) : Prop :=
 ∀ (X : Nat → Prop) (b : Frame) (rd : Bool) (e : D3) (k : D3 → WP) (x : Kont) (a : Act) (w : World), True → (rd = false → b.roundOf = none) → e.Ok n a → vc P X n rd c e k x w →
  At P X b c (fun ex a' w' => B9H n k x ex a' w' ∧ Q3 c a a') a w
theorem B1w {P : Program} {n : Nat} (hm : P.follows .mixedOrders = true) (id : Nat) (ops : Array Oper) (draw : Bool) : Y4 P n (.region id ops draw) := by
 intro X b rd e k x a w _ _ hok h
 cases draw with
 | false =>
  have h1 := C1m (ro := b.roundOf) ops.toList 0 rfl e a w hok h
  rw [← List.range_eq_range'] at h1
  have h2 := A7V _ _ _ h1
  refine At.region' (Q := B9H n k x) ?_
  have e1 : ops.toList.length = ops.size := by simp
  rw [e1] at h2
  exact h2
 | true =>
  simp only [vc] at h
  cases hs : Region.noSelect ops with
  | false => rw [hs] at h; exact h.elim
  | true =>
   rw [hs] at h
   exact At.regionDraw' (Q := B9H n k x) hm (B5p hs hok h)
theorem B6l {P : Program} {n : Nat} {c d : Code} (hc : Y4 P n c) (hd : Y4 P n d) : Y4 P n (.seq c d) := by
 intro X b rd e k x a w hk hr hok h
 refine At.seq ?_
 simp only [vc] at h
 cases hst : A4g c with
 | true =>
  rw [hst] at h
  refine (hc X b rd e _ x a w hk hr hok h).mono fun ex a1 w1 hq => ?_
  cases ex with
  | nrm =>
   obtain ⟨⟨e1, hok1, h1⟩, hs1⟩ := hq
   exact (hd X b rd e1 k x a1 w1 hk hr hok1 h1).mono fun ex a2 w2 hq2 => ⟨hq2.1, hs1.seq hq2.2⟩
  | exit i => exact ⟨hq.1, hq.2.seqL⟩
  | ret => exact ⟨hq.1, hq.2.seqL⟩
  | goto l => exact hq.1.elim
 | false =>
  rw [hst] at h
  refine (hc X b rd e _ x a w hk hr hok h).mono fun ex a1 w1 hq => ?_
  cases ex with
  | nrm =>
   obtain ⟨⟨e1, hok1, h1⟩, hs1⟩ := hq
   obtain ⟨vs, hv, h2⟩ := A4B h1
   rw [VF.app_lam _ _ _ _ (A2B hv)] at h2
   exact (hd X b rd _ k x a1 w1 hk hr (Ok.join hok hok1 hs1.1 hv) h2).mono fun ex a2 w2 hq2 => ⟨hq2.1, hs1.seq hq2.2⟩
  | exit i => exact ⟨hq.1, hq.2.seqL⟩
  | ret => exact ⟨hq.1, hq.2.seqL⟩
  | goto l => exact hq.1.elim
theorem B5W {P : Program} {n : Nat} {o : Operand} {c d : Code} (hc : Y4 P n c) (hd : Y4 P n d) : Y4 P n (.cond o c d) := by
 intro X b rd e k x a w hk hr hok h
 obtain ⟨v, hv, h1⟩ := G8 h
 have he := D9 hok hv
 rcases h1 with ⟨rfl, h1⟩ | ⟨rfl, h1⟩
 ·exact At.cond he ((hc X b rd e k x a w hk hr hok h1).mono fun ex a1 w1 hq => ⟨hq.1, hq.2.condL⟩)
 ·exact At.cond he ((hd X b rd e k x a w hk hr hok h1).mono fun ex a1 w1 hq => ⟨hq.1, hq.2.condR⟩)
theorem B3f {P : Program} {n : Nat} {i : Nat} {c : Code} (hc : Y4 P n c) : Y4 P n (.block i c) := by
 intro X b rd e k x a w hk hr hok h
 refine At.block ((hc X b rd e k _ a w hk hr hok h).mono fun ex a1 w1 hq => ?_)
 obtain ⟨hq, hs⟩ := hq
 cases ex with
 | nrm => exact ⟨hq, hs⟩
 | exit j =>
  obtain ⟨e1, hok1, h1⟩ := hq
  simp only [Ex.inBlock]
  by_cases hji : j = i
  ·rw [if_pos hji]
   have : Nat.beq j i = true := by rw [hji]; exact Nat.beq_refl i
   simp only [this] at h1
   exact ⟨⟨e1, hok1, h1⟩, hs⟩
  ·rw [if_neg hji]
   have : Nat.beq j i = false := by
    cases hb : Nat.beq j i with
    | false => rfl
    | true => exact absurd (Nat.eq_of_beq_eq_true hb) hji
   simp only [this] at h1
   exact ⟨⟨e1, hok1, h1⟩, hs⟩
 | ret => exact ⟨hq, hs⟩
 | goto l => exact hq.elim
theorem B3r {P : Program} {n : Nat} {c : Code} (hc : Y4 P n c) : Y4 P n (.scope c) := by
 intro X b rd e k x a w hk hr hok h
 refine At.scope ((hc X b rd e k x a w hk hr hok h).mono fun ex a1 w1 hq => ?_)
 cases ex with
 | nrm => exact hq
 | exit j => exact hq
 | ret => exact hq
 | goto l => exact hq.1.elim
theorem B56 {P : Program} {n : Nat} {c : Code} (hc : Y4 P n c) : Y4 P n (.loop c) := by
 intro X b rd e k x a w hk hr hok h
 obtain ⟨vs0, hv0, h1⟩ := A4B h
 unfold lp at h1
 rw [VF.app_lam _ _ _ _ (A2B hv0)] at h1
 obtain ⟨I, μ, hI, round⟩ := h1
 refine At.loopG (σ := List Value) (fun vs a' w' => vs.length = (A9v c e).length ∧ D3.Ok n ((A9v c e).zip vs ++ A11 e (bits c)) a' ∧ I vs w' ∧ Q3 c a a') μ ?_
  (s := vs0) ⟨A2B hv0, Ok.join hok hok (U1.refl _ _) hv0, hI, U1.refl _ _, fun _ => rfl⟩
 rintro vs a1 w1 ⟨hl, hok1, hI1, hs1⟩
 have h2 := round vs w1 hl hI1
 rw [VF.app_lam _ _ _ _ hl] at h2
 refine (hc X b rd _ _ x a1 w1 hk hr hok1 h2).mono fun ex a2 w2 hq => ?_
 obtain ⟨hq, hs2⟩ := hq
 have hs : Q3 c a a2 := ⟨fun t ht => by rw [hs2.1 t ht, hs1.1 t ht], fun hr => by rw [hs2.2 hr, hs1.2 hr]⟩
 cases ex with
 | nrm =>
  obtain ⟨e2, hok2, h3⟩ := hq
  obtain ⟨vs', hv', h4⟩ := A4B h3
  rw [VF.app_lam _ _ _ _ (A2B hv')] at h4
  exact ⟨vs', ⟨A2B hv', Ok.join hok hok2 hs.1 hv', h4.1, hs⟩, h4.2⟩
 | exit j => exact ⟨hq, hs⟩
 | ret => exact ⟨hq, hs⟩
 | goto l => exact hq.elim
theorem B6g : ∀ l : List Nat, (nub l).Nodup ∧ ∀ x, x ∈ nub l ↔ x ∈ l := by
 intro l
 induction l with
 | nil => exact ⟨List.nodup_nil, fun _ => Iff.rfl⟩
 | cons y l ih =>
  simp only [nub]
  cases hb : (nub l).elem y with
  | true =>
   have hy : y ∈ nub l := by simpa using hb
   refine ⟨ih.1, fun x => ?_⟩
   rw [ih.2 x]
   constructor
   ·exact fun h => List.mem_cons_of_mem _ h
   ·intro h
    rcases List.mem_cons.1 h with rfl | h
    ·exact (ih.2 _).1 hy
    ·exact h
  | false =>
   have hy : y ∉ nub l := by simpa using hb
   refine ⟨List.nodup_cons.2 ⟨hy, ih.1⟩, fun x => ?_⟩
   simp only [List.mem_cons, ih.2 x]
theorem B3e {P : Program} {n : Nat} {g : Operand} {ps : Array Tmp} {asg body : Code} (ha : Y4 P n asg) (hb : Y4 P n body) : Y4 P n (.rangeFunc g ps asg body) := by
 intro X b rd e k x a w hk hr hok h
 simp only [vc] at h
 cases rd with
 | true => exact h.elim
 | false =>
  have hro := hr rfl
  simp only [] at h
  cases hnd : (nub ps.toList == ps.toList) with
  | false => rw [hnd] at h; exact h.elim
  | true =>
   rw [hnd] at h
   have hps : ps.toList.Nodup := by have := (B6g ps.toList).1; rwa [beq_iff_eq.1 hnd] at this
   obtain ⟨gv, hgv, h⟩ := G8 h
   obtain ⟨f, first, cap, rfl, h⟩ := h
   -- the record and its states
   have hl0 := A6L (b := b) (a := a) (ps := ps) (asg := asg) (body := body) (w := w)
   have hd0 := A7U (b := b) (a := a) (ps := ps) (asg := asg) (body := body) (w := w)
   have hx0 := A7W (b := b) (a := a) (ps := ps) (asg := asg) (body := body) (w := w)
   have hcall := h (w.heap.size + 1) (fun j w' => w'.heap[w.heap.size + 1]? = some (A37 b a ps asg body w.heap.size (if j.isNone then .ready else .done) j)) (P7 b a ps asg body w)
    (Nat.le_succ _) (fun j w1 w2 h1 h2 => h2.2.2.1 _ _ (fun h => h) h1) hx0 hl0 ?_
   ·-- the call, and what is behind it
    intro kk cs
    obtain ⟨hent, hcalls⟩ := hcall
    have henter := stepR_rangeFunc (P := P) (b := b) (a := a) (k := kk) (cs := cs) (w := w) (g := g) (ps := ps) (assign := asg) (body := body) (l := w.heap.size + 1)
     (mark := [{ target := .collected w.heap.size, args := #[] }]) (w₁ := P7 b a ps asg body w) (w₁' := P7 b a ps asg body w) (w₂ := P7 b a ps asg body w)
     (d := { target := .fn (.func f) cap, args := first ++ #[Value.func (.yield (w.heap.size + 1)) #[] #[]] }) (f := f) (args := (first.toList ++ [Value.func (.yield (w.heap.size + 1)) #[] #[]] ++ cap.toList).toArray)
     (by rw [hro]; exact B1A) (by
      have e1 : #[Operand.const (.func (.yield (w.heap.size + 1)) #[] #[])].map a.eval = #[Value.func (.yield (w.heap.size + 1)) #[] #[]] := by simp [Act.eval]
      simp only [resolve, e1, D9 hok hgv]; rfl) (by
      have := hent ((first ++ #[.func (.yield (w.heap.size + 1)) #[] #[]]) ++ cap) (P7 b a ps asg body w)
      have e1 : (first.toList ++ [Value.func (.yield (w.heap.size + 1)) #[] #[]] ++ cap.toList).toArray = (first ++ #[.func (.yield (w.heap.size + 1)) #[] #[]]) ++ cap := by simp
      rw [e1]; exact this)
    obtain ⟨ee, w1, fr, ⟨v, rfl, ⟨j, hpd, hkj⟩, hsk⟩, hsteps, hfn, hleave⟩ := hcalls (b.atR { a with defers := [{ target := .collected w.heap.size, args := #[] }] ++ a.defers } (.inRangeFunc (w.heap.size + 1) :: kk) :: cs)
    have hback := step_leave_returned (cs := cs) hleave (c := b.atR { a with defers := [{ target := .collected w.heap.size, args := #[] }] ++ a.defers } (.inRangeFunc (w.heap.size + 1) :: kk))
    rw [finish_atR_inRangeFunc] at hback
    have hend := B3a (P := P) hpd (by cases j <;> simp)
    have hstep := stepR_endRangeFunc (b := b) (a := { a with defers := [{ target := .collected w.heap.size, args := #[] }] ++ a.defers }) (k := kk) (cs := cs) hend
    have hle := A4j (lo' := { state := .exhausted, pending := j, fn := b.fn, tmps := a.tmps, params := ps, assign := asg, body := body, defers := w.heap.size }) hpd
    have hk2 := hkj _ hle
    have hsk' : Sk X w w1 := (hx0.sk (X := fun r => X r ∨ r = w.heap.size + 1) A6g).trans hsk |>.fresh fun r hr => hr.imp id fun h => by omega
    have hsk2 : Sk X w { w1 with heap := w1.heap.setIfInBounds (w.heap.size + 1) (.loop { state := .exhausted, pending := j, fn := b.fn, tmps := a.tmps, params := ps, assign := asg, body := body, defers := w.heap.size }) } := by
     have h1 : Sk (fun r => X r ∨ r = w.heap.size + 1) w w1 := (hx0.sk (X := fun r => X r ∨ r = w.heap.size + 1) A6g).trans hsk
     have h2 := B1p (X := fun r => X r ∨ r = w.heap.size + 1) (lo' := { state := .exhausted, pending := j, fn := b.fn, tmps := a.tmps, params := ps, assign := asg, body := body, defers := w.heap.size }) hpd (.inr rfl)
     exact (h1.trans h2).fresh fun r hr => hr.imp id fun h => by omega
    have hmark : Q2 w.heap.size { w1 with heap := w1.heap.setIfInBounds (w.heap.size + 1) (.loop { state := .exhausted, pending := j, fn := b.fn, tmps := a.tmps, params := ps, assign := asg, body := body, defers := w.heap.size }) } [{ target := .collected w.heap.size, args := #[] }] := by
     refine ⟨_, rfl, Nat.le_refl _, ?_, (fun d' hd' => by cases hd'), trivial⟩
     simp only []
     rw [Array.getElem?_setIfInBounds_ne (by omega)]
     exact hsk.2.1 _ _ hd0
    have hall : Steps P (lone (b.atR a (.code (.rangeFunc g ps asg body) :: kk)) cs w) (lone (b.atR { a with defers := [{ target := .collected w.heap.size, args := #[] }] ++ a.defers } ((j.map Item.code).toList ++ kk)) cs
      { w1 with heap := w1.heap.setIfInBounds (w.heap.size + 1) (.loop { state := .exhausted, pending := j, fn := b.fn, tmps := a.tmps, params := ps, assign := asg, body := body, defers := w.heap.size }) }) :=
     .head henter (Steps.trans hsteps (.head hback (.one hstep)))
    have hokd : D3.Ok n e { a with defers := [{ target := .collected w.heap.size, args := #[] }] ++ a.defers } := hok
    have hsame : Q3 (.rangeFunc g ps asg body) a { a with defers := [{ target := .collected w.heap.size, args := #[] }] ++ a.defers } := ⟨fun _ _ => rfl, fun h => by cases h⟩
    cases j with
    | none => exact ⟨.nrm, _, _, [_], ⟨⟨e, hokd, hk2⟩, hsame⟩, hsk2, rfl, hmark, hall⟩
    | some c =>
     cases c
     case exit i => exact ⟨.exit i, _, _, [_], ⟨⟨e, hokd, hk2⟩, hsame⟩, hsk2, rfl, hmark, kk, rfl, hall⟩
     case ret => exact ⟨.ret, _, _, [_], ⟨⟨e, hokd, hk2⟩, hsame⟩, hsk2, rfl, hmark, kk, hall⟩
     all_goals exact hk2.elim
   ·-- yield
    intro args R w1 hal hpd hbody
    rw [VF.app_lam _ _ _ _ hal] at hbody
    have hal' : args.length = ps.toList.length := by simpa using hal
    refine ⟨b.fn, (ps.toList.zip args).foldl (fun t (p : Tmp × Value) => t.setIfInBounds p.1 p.2) a.tmps, asg, body, ?_, ?_⟩
    ·have h1 := A0x (P := P) hpd
     have h2 : (ps.zip args.toArray).foldl (fun tmps (x : Tmp × Value) => tmps.setIfInBounds x.1 x.2) a.tmps = (ps.toList.zip args).foldl (fun t (p : Tmp × Value) => t.setIfInBounds p.1 p.2) a.tmps := by
      rw [← Array.foldl_toList]; simp
     simp only [Instr.yield, Sem.run_bind, h1, Result.andThen_ok]
     have h3 : ¬ (args.toArray.size ≠ ps.size) := by simp [hal]
     simp only [h3, if_false, Sem.run_pure]
     rw [← h2]
    ·intro c cs
     have hokz := B8e (ds := []) (e := e) (n := n) (tmps := a.tmps) ⟨hok.1, hok.2⟩ hal' hps
     let bR : Frame := { (default : Frame) with fn := b.fn, kind := .normal, roundOf := some (w.heap.size + 1) }
     have hb0 : Frame.round (w.heap.size + 1) b.fn ((ps.toList.zip args).foldl (fun t (p : Tmp × Value) => t.setIfInBounds p.1 p.2) a.tmps) asg body .normal =
       bR.atR ⟨(ps.toList.zip args).foldl (fun t (p : Tmp × Value) => t.setIfInBounds p.1 p.2) a.tmps, []⟩ [.code asg, .beginRound, .code body] := by
      simp [Frame.round, Frame.atR, bR]
     have hA := ha _ bR true _ _ _ _ w1 trivial (by simp) hokz hbody
     obtain ⟨ex, a1, w2, ms1, hq1, hsk1, _, _, harr1⟩ := hA [.beginRound, .code body] (c :: cs)
     rw [← hb0] at harr1
     cases ex with
     | exit i => obtain ⟨⟨_, _, hh⟩, _⟩ := hq1; exact hh.elim
     | ret => obtain ⟨⟨_, _, hh⟩, _⟩ := hq1; exact hh.elim
     | goto l => exact hq1.1.elim
     | nrm =>
      obtain ⟨⟨e1, hok1, hbgn⟩, _⟩ := hq1
      have hpd2 := hsk1.2.2.1 _ _ (fun h => h) hpd
      have hbr := A92 (P := P) hpd2 rfl
      have hle1 := A4j (lo' := { state := .busy, pending := none, fn := b.fn, tmps := a.tmps, params := ps, assign := asg, body := body, defers := w.heap.size }) hpd2
      have hbd := hbgn _ hle1
      have hpd3 : ({ w2 with heap := w2.heap.setIfInBounds (w.heap.size + 1) (.loop { state := .busy, pending := none, fn := b.fn, tmps := a.tmps, params := ps, assign := asg, body := body, defers := w.heap.size }) } : World).heap[w.heap.size + 1]? = some _ := B4G hpd2
      have hB := hb _ bR true _ _ _ _ _ trivial (by simp) hok1 hbd
      obtain ⟨ex2, a2, w3, ms2, hq2, hsk2, _, _, harr2⟩ := hB [] (c :: cs)
      have s1 : Steps P (lone (bR.atR a1 [.beginRound, .code body]) (c :: cs) w2) (lone (bR.atR a1 [.code body]) (c :: cs) _) := .one (stepR_beginRound rfl hbr)
      have hpd4 := hsk2.2.2.1 _ _ (fun h => h) hpd3
      have S7 : ∀ (j : Option Code), (∀ w4, j1 w3 w4 → w4.heap[w.heap.size + 1]? = some (A37 b a ps asg body w.heap.size (if j.isNone then .ready else .done) j) → R j w4) →
        ∃ w4, (Instr.endRound (w.heap.size + 1) j).run P w3 = .ok (.bool j.isNone) w4 ∧ (∃ j' : Option Code, Value.bool j.isNone = .bool j'.isNone ∧ R j' w4) ∧ Sk (fun r => r = w.heap.size + 1) w1 w4 := by
       intro j hj
       have h1 := B1n (P := P) j hpd4
       refine ⟨_, h1, ⟨j, rfl, hj _ (A4j hpd4) (B4G hpd4)⟩, ?_⟩
       have k1 := hsk1.mono (Y := fun r => r = w.heap.size + 1) (fun _ h => h.elim)
       have k2 := B1p (X := fun r => r = w.heap.size + 1) (lo' := { state := .busy, pending := none, fn := b.fn, tmps := a.tmps, params := ps, assign := asg, body := body, defers := w.heap.size }) hpd2 rfl
       have k3 := hsk2.mono (Y := fun r => r = w.heap.size + 1) (fun _ h => h.elim)
       exact ((k1.trans k2).trans k3).trans (B1p hpd4 rfl)
      cases ex2 with
      | nrm =>
       obtain ⟨⟨e2, _, hh⟩, _⟩ := hq2
       obtain ⟨w4, h1, h2, h3⟩ := S7 none hh
       exact ⟨_, w4, ⟨h2, h3⟩, (Steps.trans harr1 s1).trans (Steps.trans harr2 (.one (stepR_round_end rfl rfl h1)))⟩
      | exit i =>
       obtain ⟨⟨e2, _, hh⟩, _⟩ := hq2
       obtain ⟨k0, hk0, hs0⟩ := harr2
       obtain ⟨w4, h1, h2, h3⟩ := S7 (some (.exit i)) hh
       exact ⟨_, w4, ⟨h2, h3⟩, (Steps.trans harr1 s1).trans (Steps.trans hs0 (.one (stepR_round_exit rfl rfl (by rw [hk0]; rfl) h1)))⟩
      | ret =>
       obtain ⟨⟨e2, _, hh⟩, _⟩ := hq2
       obtain ⟨k0, hs0⟩ := harr2
       obtain ⟨w4, h1, h2, h3⟩ := S7 (some .ret) hh
       exact ⟨_, w4, ⟨h2, h3⟩, (Steps.trans harr1 s1).trans (Steps.trans hs0 (.one (stepR_round_ret rfl rfl h1)))⟩
      | goto l => exact hq2.1.elim
theorem B1a {P : Program} {n : Nat} (hm : P.follows .mixedOrders = true) : ∀ c, Y4 P n c := by
 intro c
 induction c with
 | skip => exact fun X b rd e k x a w _ _ hok h => At.skip ⟨⟨e, hok, h⟩, U1.refl _ _, fun _ => rfl⟩
 | label l => exact fun X b rd e k x a w _ _ hok h => At.label ⟨⟨e, hok, h⟩, U1.refl _ _, fun _ => rfl⟩
 | region id ops draw => exact B1w hm id ops draw
 | seq c d hc hd => exact B6l hc hd
 | cond o c d hc hd => exact B5W hc hd
 | block i c hc => exact B3f hc
 | loop c hc => exact B56 hc
 | rangeFunc g ps asg body ha hb => exact B3e ha hb
 | exit i => exact fun X b rd e k x a w _ _ hok h => At.exit ⟨⟨e, hok, h⟩, U1.refl _ _, fun _ => rfl⟩
 | scope c hc => exact B3r hc
 | goto l => exact fun X b rd e k x a w _ _ hok h => h.elim
 | ret => exact fun X b rd e k x a w _ _ hok h => At.ret ⟨⟨e, hok, h⟩, U1.refl _ _, fun _ => rfl⟩
 | refuse s => exact fun X b rd e k x a w _ _ hok h => h.elim
theorem B5v {w : World} {r : Nat} {d : Option (List Deferred)} (h : w.heap[r]? = some (.deferred d)) : U0 w { w with heap := w.heap.setIfInBounds r (.deferred none) } := by
 refine ⟨by simp, fun s hs => ?_⟩
 by_cases hrs : r = s
 ·subst hrs; exact absurd h (hs d)
 ·simp [Array.getElem?_setIfInBounds_ne hrs]
theorem A51 {P : Program} {n : Nat} : ∀ (ms : List Deferred) (fr : Frame) (cs : List Frame) (w : World), fr.mode = .returning → fr.defers = ms → Q2 n w ms →
  ∃ w', U0 w w' ∧ Steps P (lone fr cs w) (lone { fr with defers := [] } cs w') ∧ (∀ r, r < n → w'.heap[r]? = w.heap[r]?) ∧ f8 w w' := by
 intro ms
 induction ms with
 | nil => intro fr cs w _ hd _; exact ⟨w, U0.refl _, by rw [← hd]; exact Steps.refl _ _, fun _ _ => rfl, f8.refl _⟩
 | cons d ms ih =>
  intro fr cs w hm hd hmk
  obtain ⟨r, rfl, hn, hr, hne, hms⟩ := hmk
  have hrun : (Instr.takeDeferred r).run P w = .ok [] { w with heap := w.heap.setIfInBounds r (.deferred none) } := by
   simp [Instr.takeDeferred, getObj, setObj, Sem.run, hr]
  have hst : step P (lone fr cs w) = .next (lone { fr with defers := ms } cs { w with heap := w.heap.setIfInBounds r (.deferred none) }) := by
   refine step_lone_go ?_
   simp [stepG, hm, unwind, hd, Sem.runT_eq, hrun]
  have hmk' : Q2 n { w with heap := w.heap.setIfInBounds r (.deferred none) } ms := by
   clear ih hst hrun hd
   induction ms with
   | nil => trivial
   | cons d ms ih2 =>
    obtain ⟨s, rfl, h1, h2, h3, h4⟩ := hms
    have hsr : s ≠ r := hne _ (List.mem_cons_self ..) s rfl
    refine ⟨s, rfl, h1, ?_, h3, ih2 (fun d' hd' => hne d' (List.mem_cons_of_mem _ hd')) h4⟩
    simp only []
    rw [Array.getElem?_setIfInBounds_ne (Ne.symm hsr)]; exact h2
  obtain ⟨w', hw', hs', hl', hc'⟩ := ih { fr with defers := ms } cs _ hm rfl hmk'
  refine ⟨w', (B5v hr).trans hw', .head hst hs', fun s hs => ?_, (B23 (by rw [hr]; rfl) rfl).trans hc'⟩
  rw [hl' s hs]
  simp only []
  rw [Array.getElem?_setIfInBounds_ne (by omega)]
theorem C0w {P : Program} {n : Nat} {e : D3} {a : Act} (hok : e.Ok n a) : ∀ {rs : List ResultVar} {l : List RV}, rvs n e rs = some l → ∀ w,
  (rs.mapM (fun | .tmp t => pure (a.tmps.getD t undef) | .cell x t => do loadVar t (← asAddr (a.tmps.getD x undef)) : ResultVar → Sem Value)).run P w = (A2U l).run P w := by
 intro rs
 induction rs with
 | nil => intro l h w; cases h; rfl
 | cons r rs ih =>
  intro l h w
  cases r with
  | tmp t =>
   simp only [rvs] at h
   split at h
   ·rename_i v l' h1 h2
    cases h
    have := D9 hok h1
    simp only [Act.eval] at this
    simp only [List.mapM_cons, A2U, RV.sem, Sem.run_bind, Sem.run_pure, Result.andThen_ok, this]
    rw [ih h2 w]
   ·cases h
  | cell t u =>
   simp only [rvs] at h
   split at h
   ·rename_i v l' h1 h2
    cases h
    have := D9 hok h1
    simp only [Act.eval] at this
    simp only [List.mapM_cons, A2U, RV.sem, Sem.run_bind, this]
    congr 1
    funext x w1
    rw [ih h2 w1]
   ·cases h
theorem B3V {P : Program} {fn : Func} {n : Nat} {e : D3} {a : Act} (hok : e.Ok n a) {l : List RV} (h : rvs n e fn.results.toList = some l) (w : World) :
  (results fn a.tmps).run P w = (E3 l).run P w := by
 have h1 := C0w (P := P) hok h w
 unfold results E3
 rw [← Array.toList_mapM] at h1
 simp only [Sem.run_bind, Sem.run_map] at h1 ⊢
 rw [← h1]
 cases hr : (fn.results.mapM (fun | .tmp t => pure (a.tmps.getD t undef) | .cell x t => do loadVar t (← asAddr (a.tmps.getD x undef)) : ResultVar → Sem Value)).run P w with
 | ok vs w1 =>
  simp only [Result.andThen_ok, Sem.run_pure]
  congr 1
  unfold one
  split
  ·rename_i hs
   obtain ⟨vl⟩ := vs
   match vl, hs with
   | [x], _ => rfl
  ·rename_i hs
   obtain ⟨vl⟩ := vs
   match vl, hs with
   | [], _ => rfl
   | [x], hs => exact absurd rfl hs
   | x :: y :: zs, _ => rfl
 | halt hh w1 => simp
theorem B88 {P : Program} : ∀ {l : List RV} {vs : List Value}, B2Z l = some vs → ∀ w, (A2U l).run P w = .ok vs w := by
 intro l
 induction l with
 | nil => intro vs h w; cases h; rfl
 | cons r l ih =>
  intro vs h w
  cases r with
  | v x =>
   simp only [B2Z] at h
   split at h
   ·rename_i us h1; cases h; simp [A2U, RV.sem, ih h1 w]
   ·cases h
  | c t p => cases h
theorem A4Q {P : Program} {fn : Func} {n : Nat} {e : D3} {a : Act} {R : Value → WP} {w : World} (hok : e.Ok n a) (h : S7 P n fn.results.toList R e w) :
  ∃ v, (results fn a.tmps).run P w = .ok v w ∧ R v w := by
 unfold S7 at h
 cases hl : rvs n e fn.results.toList with
 | none => rw [hl] at h; exact h.elim
 | some l =>
  rw [hl] at h; simp only [] at h
  rw [B3V hok hl w]
  cases hv : B2Z l with
  | some vs => rw [hv] at h; exact ⟨one vs, by simp [E3, B88 hv w], h⟩
  | none => rw [hv] at h; exact h
theorem A70 : ∀ (args : List Value) (i t : Nat) (v : Value), D3.get (y3 i args) t = some v → i ≤ t ∧ args[t - i]? = some v := by
 intro args
 induction args with
 | nil => intro i t v h; cases h
 | cons x args ih =>
  intro i t v h
  simp only [y3, D3.get] at h
  cases hb : Nat.beq i t with
  | true => rw [hb] at h; cases h; have := Nat.eq_of_beq_eq_true hb; subst this; simp
  | false =>
   rw [hb] at h
   obtain ⟨h1, h2⟩ := ih (i + 1) t v h
   refine ⟨by omega, ?_⟩
   have : t - i = (t - (i + 1)) + 1 := by omega
   rw [this]; simpa using h2
theorem B8u {P : Program} {X : Nat → Prop} {f : FuncId} {fn : Func} {args : List Value} {R : Value → WP} {w : World} (hm : P.follows .mixedOrders = true) (hf : P.funcs[f]? = some fn)
  (h : A6q P X fn args R w) : Fn P X f args.toArray w R := by
 unfold A6q at h
 cases hbody : fn.body with
 | none => rw [hbody] at h; exact h.elim
 | some c =>
  rw [hbody] at h; simp only [] at h
  cases hle : Nat.ble args.length fn.ntmps with
  | false => rw [hle] at h; exact h.elim
  | true =>
   rw [hle] at h; simp only [] at h
   have hle' : args.length ≤ fn.ntmps := by simpa using hle
   intro cs
   let b : Frame := { (default : Frame) with fn := f, kind := .normal }
   have henter : Frame.enter P f args.toArray .normal = b.atR { tmps := args.toArray ++ Array.replicate (fn.ntmps - args.toArray.size) undef, defers := [] } [.code c] := by
    simp [Frame.enter, Frame.atR, hf, hbody, b]
    rfl
   have hok : D3.Ok fn.ntmps (y3 0 args) { tmps := args.toArray ++ Array.replicate (fn.ntmps - args.toArray.size) undef, defers := [] } := by
    refine ⟨by simp; omega, fun t v ht hg => ?_⟩
    obtain ⟨_, h2⟩ := A70 args 0 t v hg
    simp only [Nat.sub_zero] at h2
    have hlt : t < args.length := (List.getElem?_eq_some_iff.1 h2).1
    simp only []
    rw [Array.getElem?_append_left (by simpa using hlt)]
    simpa using h2
   -- the end of the function's text
   have ending : ∀ (a' : Act) (w' : World) (ms : List Deferred) (k0 : List Item), a'.defers = ms ++ [] → Q2 w.heap.size w' ms → Sk X w w' →
     (∃ e', D3.Ok fn.ntmps e' a' ∧ ((ms = [] ∧ S7 P fn.ntmps fn.results.toList R e' w') ∨ ∀ w'', U0 w' w'' → S7 P fn.ntmps fn.results.toList R e' w'')) →
     ∀ (m : Machine), Steps P m (lone { b.atR a' k0 with mode := .returning } cs w') →
     ∃ e w'' fr, (∃ v, e = .returned v ∧ R v w'' ∧ Sk X w w'') ∧ Comes P m (lone fr cs w'') e ∧ fr.fn = f ∧ fr.leaving P w'' e := by
    intro a' w' ms k0 hd hmk hsk ⟨e', hok', hfin⟩ m hs
    rcases hfin with ⟨hms, hfin⟩ | hfin
    ·subst hms
     obtain ⟨v, hv, hR⟩ := A4Q hok' hfin
     exact ⟨.returned v, w', { b.atR a' k0 with mode := .returning }, ⟨v, rfl, hR, hsk⟩, hs, rfl, rfl, hd, rfl, fn, hf, hv⟩
    obtain ⟨w'', hdq, hst, hlow, hcalm⟩ := A51 (P := P) ms { b.atR a' k0 with mode := .returning } cs w' rfl (by simpa [Frame.atR] using hd) hmk
    obtain ⟨v, hv, hR⟩ := A4Q hok' (hfin w'' hdq)
    refine ⟨.returned v, w'', { { b.atR a' k0 with mode := .returning } with defers := [] }, ⟨v, rfl, hR, ?_⟩, hs.trans hst, rfl, rfl, rfl, rfl, fn, hf, hv⟩
    refine ⟨by rw [hdq.1]; exact hsk.1, fun r d hr => ?_, fun r lo hx hr => ?_, hsk.2.2.2.trans hcalm⟩
    ·rw [hlow r (Array.getElem?_eq_some_iff.1 hr).1]; exact hsk.2.1 r d hr
    ·rw [hlow r (Array.getElem?_eq_some_iff.1 hr).1]; exact hsk.2.2.1 r lo hx hr
   have go : ∀ (k : D3 → WP) (ex : Nat → D3 → WP), (∀ i e, ex i e = E0) → vc P X fn.ntmps false c (y3 0 args) k { exit := ex, ret := k } w →
     (∀ e a' w' ms, Q3 c { tmps := args.toArray ++ Array.replicate (fn.ntmps - args.toArray.size) undef, defers := [] } a' → a'.defers = ms ++ [] → D3.Ok fn.ntmps e a' → k e w' →
      (ms = [] ∧ S7 P fn.ntmps fn.results.toList R e w') ∨ ∀ w'', U0 w' w'' → S7 P fn.ntmps fn.results.toList R e w'') →
     ∃ e w'' fr, (∃ v, e = .returned v ∧ R v w'' ∧ Sk X w w'') ∧ Comes P (lone (Frame.enter P f args.toArray .normal) cs w) (lone fr cs w'') e ∧ fr.fn = f ∧ fr.leaving P w'' e := by
    intro k ex hex hvc hk
    obtain ⟨e, a', w', ms, hq, hsk, hd, hmk, harr⟩ := B1a hm c X b false _ _ _ _ w trivial (fun _ => rfl) hok hvc [] cs
    rw [← henter] at harr
    cases e with
    | nrm =>
     obtain ⟨⟨e', hok', hke⟩, hkp⟩ := hq
     exact ending a' w' ms [] hd hmk hsk ⟨e', hok', hk e' a' w' ms hkp hd hok' hke⟩ _ (Steps.trans harr (.one (stepR_end rfl)))
    | ret =>
     obtain ⟨⟨e', hok', hke⟩, hkp⟩ := hq
     obtain ⟨k0, hs0⟩ := harr
     exact ending a' w' ms _ hd hmk hsk ⟨e', hok', hk e' a' w' ms hkp hd hok' hke⟩ _ (Steps.trans hs0 (.one (stepR_ret rfl)))
    | exit i => obtain ⟨⟨e', _, hke⟩, _⟩ := hq; simp only [hex] at hke; exact hke.elim
    | goto l => exact hq.1.elim
   cases hr : H7 c with
   | true =>
    rw [hr] at h
    exact go _ _ (fun _ _ => rfl) h fun e a' w' ms _ _ _ hke => .inr hke
   | false =>
    rw [hr] at h
    refine go _ _ (fun _ _ => rfl) h fun e a' w' ms hkp hd _ hke => .inl ⟨?_, hke⟩
    have := hkp.2 hr
    rw [hd] at this
    simpa using this
theorem D5 {P : Program} {X : Nat → Prop} {f : FuncId} {fn : Func} {args : List Value} {R : Value → WP} {w : World} {S : WP} (hm : P.follows .mixedOrders = true) (hf : P.funcs[f]? = some fn) (e : A6q P X fn args R = S) (h : S w) : Fn P X f args.toArray w R := B8u hm hf (by rw [e]; exact h)
end Go.Proofs.YtpbmephflllolaaGreat
