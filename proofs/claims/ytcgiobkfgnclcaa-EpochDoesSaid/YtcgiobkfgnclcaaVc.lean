/- A function's text as a weakest precondition in plain Lean (vc), and that it is sound for the machine. No hypothesis on the program but what vc itself asks. -/
import Derived.Test.YtcgiobkfgnclcaaBase
import Derived.RangeFuncIn
namespace Go.Proofs.Ytcgiobkfgnclcaa
open Go

/-! ## what a frame is known to hold -/
abbrev Env := List (Nat × Value)
def Env.get : Env → Nat → Option Value
  | [], _ => none
  | (i, v) :: r, t => match Nat.beq i t with | true => some v | false => Env.get r t
def Env.Ok (n : Nat) (e : Env) (a : Act) : Prop := a.tmps.size = n ∧ ∀ t v, t < n → e.get t = some v → a.tmps[t]? = some v
def Env.put (e : Env) (d : Option Tmp) (v : Value) : Env := match d with | some t => (t, v) :: e | none => e

theorem Env.Ok.put {n : Nat} {e : Env} {a : Act} (h : e.Ok n a) (d : Option Tmp) (v : Value) : (e.put d v).Ok n (a.put d v) := by
  cases d with
  | none => exact h
  | some t =>
    refine ⟨by simpa [Act.put] using h.1, fun u x hu hx => ?_⟩
    simp only [Env.put, Env.get] at hx
    by_cases htu : t = u
    · subst htu; simp at hx; subst hx; simp [Act.put, h.1, hu]
    · have : Nat.beq t u = false := by
        cases hb : Nat.beq t u with
        | false => rfl
        | true => exact absurd (Nat.eq_of_beq_eq_true hb) htu
      rw [this] at hx; simp only [] at hx
      simp only [Act.put, Array.getElem?_setIfInBounds_ne htu]
      exact h.2 u x hu hx
theorem Env.Ok.cons {n t : Nat} {v : Value} {e : Env} {a : Act} (h : e.Ok n a) (hv : t < n → a.tmps[t]? = some v) : Env.Ok n ((t, v) :: e) a := by
  refine ⟨h.1, fun u x hu hx => ?_⟩
  simp only [Env.get] at hx
  by_cases htu : t = u
  · subst htu; simp at hx; subst hx; exact hv hu
  · have : Nat.beq t u = false := by
      cases hb : Nat.beq t u with
      | false => rfl
      | true => exact absurd (Nat.eq_of_beq_eq_true hb) htu
    rw [this] at hx; exact h.2 u x hu hx
theorem Env.Ok.nil {n : Nat} {a : Act} (h : a.tmps.size = n) : Env.Ok n [] a := ⟨h, fun _ _ _ h => by cases h⟩

def ev (n : Nat) (e : Env) : Operand → Option Value
  | .tmp t => match Nat.blt t n with | true => e.get t | false => none
  | .const v => some v
  | .global g => some (.pointer (some ⟨g, 0, none⟩))
  | .func f => some (.func (.func f) #[] #[])
theorem ev_ok {n : Nat} {e : Env} {a : Act} (h : e.Ok n a) {x : Operand} {v : Value} (hx : ev n e x = some v) : a.eval x = v := by
  cases x with
  | tmp t =>
    simp only [ev] at hx
    cases hb : Nat.blt t n with
    | false => rw [hb] at hx; cases hx
    | true =>
      rw [hb] at hx
      have := h.2 t v (by simpa using hb) hx
      simp [Act.eval, this]
  | const u => cases hx; rfl
  | global g => cases hx; rfl
  | func f => cases hx; rfl

def evs (n : Nat) (e : Env) : List Operand → Option (List Value)
  | [] => some []
  | x :: xs => match ev n e x, evs n e xs with | some v, some vs => some (v :: vs) | _, _ => none
theorem evs_ok {n : Nat} {e : Env} {a : Act} (h : e.Ok n a) {xs : List Operand} {vs : List Value} (hx : evs n e xs = some vs) : xs.map a.eval = vs := by
  induction xs generalizing vs with
  | nil => cases hx; rfl
  | cons x xs ih =>
    simp only [evs] at hx
    split at hx
    · rename_i v us h1 h2; cases hx; simp [ev_ok h h1, ih h2]
    · cases hx

/-! ## the words of the shallow text -/
def nowp : WP := fun _ => False
/-- an operation that asks nothing of the world -/
def pur (P : Program) (s : Sem Value) (K : Value → WP) : WP := fun w => ∃ v, (∀ w', s.run P w' = .ok v w') ∧ K v w
/-- an operation that only reads -/
def rds (P : Program) (s : Sem Value) (K : Value → WP) : WP := fun w => ∃ v, s.run P w = .ok v w ∧ K v w
def lou (P : Program) (X : Nat → Prop) (s : Sem Value) (K : Value → WP) : WP := fun w => ∃ v w', s.run P w = .ok v w' ∧ Sk X w w' ∧ K v w'
def sto (P : Program) (X : Nat → Prop) (s : Sem Unit) (K : WP) : WP := fun w => ∃ w', s.run P w = .ok () w' ∧ Sk X w w' ∧ K w'
/-- Function f, called in w, returns, and R takes what it returns. -/
def Fn (P : Program) (X : Nat → Prop) (f : FuncId) (args : Array Value) (w : World) (R : Value → WP) : Prop :=
  Calls P f args w fun e w' => ∃ v, e = .returned v ∧ R v w' ∧ Sk X w w'
def Enters (P : Program) (f : FuncId) : Prop := ∀ args w, (callFunc f args).run P w = .ok (.enter f args) w
def cal (P : Program) (X : Nat → Prop) (f : FuncId) (args : List Value) (K : Value → WP) : WP := fun w => Enters P f ∧ Fn P X f args.toArray w K
def yie (P : Program) (X : Nat → Prop) (l : Nat) (args : List Value) (K : Value → WP) : WP := fun w =>
  ∃ f tmps asg body, (Instr.yield l args.toArray).run P w = .ok (.round l f tmps asg body) w ∧ Rounds P l f tmps asg body w fun v w' => K v w' ∧ Sk X w w'
/-- a call of a function value -/
def cav (P : Program) (X : Nat → Prop) (g : Value) (args : List Value) (K : Value → WP) : WP :=
  match g with
  | .func (.func f) first cap => cal P X f (first.toList ++ args ++ cap.toList) K
  | .func (.yield l) first _ => yie P X l (first.toList ++ args) K
  | .func fn first cap => fun w => ∃ f args', (invoke (.fn fn cap) (first ++ args.toArray)).run P w = .ok (.enter f args') w ∧ Fn P X f args' w K
  | _ => nowp
/-- a call through an interface value -/
def inv (P : Program) (X : Nat → Prop) (g : Value) (name : String) (args : List Value) (K : Value → WP) : WP := fun w =>
  ∃ f args', (callMethod g name args.toArray).run P w = .ok (.enter f args') w ∧ Fn P X f args' w K
def cnd (c : Value) (A B : WP) : WP := fun w => (c = .bool true ∧ A w) ∨ (c = .bool false ∧ B w)
def gd (g : Value) (want : Bool) (yes no : WP) : WP := match g with | .bool b => (match b, want with | true, true => yes | false, false => yes | _, _ => no) | _ => no

/-- the same, and on -/
def gj (g : Value) (want : Bool) (A : (Value → WP) → WP) (F : Value → WP) : WP := gd g want (A F) (F undef)

def Ext (w w' : World) : Prop := w.heap.size ≤ w'.heap.size ∧ ∀ (r : Nat) o, w.heap[r]? = some o → (∀ lo, o ≠ Obj.loop lo) → w'.heap[r]? = some o
theorem Ext.refl (w : World) : Ext w w := ⟨Nat.le_refl _, fun _ _ h _ => h⟩
theorem Ext.trans {a b c : World} (h : Ext a b) (h' : Ext b c) : Ext a c := ⟨Nat.le_trans h.1 h'.1, fun r o e n => h'.2 r o (h.2 r o e n) n⟩
/-- nothing but records of loops has turned -/
def LoopEq (w w' : World) : Prop := w'.heap.size = w.heap.size ∧ ∀ r : Nat, (∀ lo, w.heap[r]? ≠ some (Obj.loop lo)) → w'.heap[r]? = w.heap[r]?
theorem LoopEq.ext {w w' : World} (h : LoopEq w w') : Ext w w' := ⟨by rw [h.1]; exact Nat.le_refl _, fun r o e n => by rw [h.2 r (by rw [e]; intro lo hh; exact n lo (Option.some.inj hh))]; exact e⟩
def bgn (K : WP) : WP := fun w => ∀ w', LoopEq w w' → K w'
/-- nothing but the blocks of deferred calls has turned -/
def DefEq (w w' : World) : Prop := w'.heap.size = w.heap.size ∧ ∀ r : Nat, (∀ d, w.heap[r]? ≠ some (Obj.deferred d)) → w'.heap[r]? = w.heap[r]?
theorem DefEq.refl (w : World) : DefEq w w := ⟨rfl, fun _ _ => rfl⟩
theorem DefEq.trans {a b c : World} (h : DefEq a b) (h' : DefEq b c) : DefEq a c := by
  refine ⟨h'.1.trans h.1, fun r hr => ?_⟩
  have := h.2 r hr
  rw [h'.2 r (by rw [this]; exact hr), this]
/-- an order has been drawn -/
def drw (K : WP) : WP := fun w => K { w with drawn := w.drawn + 1 }
def unw (K : WP) : WP := fun w => ∀ w', DefEq w w' → K w'

/-- w' is w and more: whatever lay there, records of loops too. -/
def ExtA (w w' : World) : Prop := w.heap.size ≤ w'.heap.size ∧ ∀ (r : Nat) o, w.heap[r]? = some o → w'.heap[r]? = some o
theorem ExtA.refl (w : World) : ExtA w w := ⟨Nat.le_refl _, fun _ _ h => h⟩
theorem ExtA.trans {a b c : World} (h : ExtA a b) (h' : ExtA b c) : ExtA a c := ⟨Nat.le_trans h.1 h'.1, fun r o e => h'.2 r o (h.2 r o e)⟩
theorem ExtA.ext {a b : World} (h : ExtA a b) : Ext a b := ⟨h.1, fun r o e _ => h.2 r o e⟩
theorem Ext.all {a b : World} (h : Ext a b) (hk : Sk (fun _ => False) a b) : ExtA a b := by
  refine ⟨h.1, fun r o e => ?_⟩
  by_cases hl : ∃ lo, o = Obj.loop lo
  · obtain ⟨lo, rfl⟩ := hl; exact hk.2.2.1 r lo (fun h => h) e
  · exact h.2 r o e fun lo hlo => hl ⟨lo, hlo⟩

/-! curried functions of n values -/
@[reducible] def VF (β : Type) : Nat → Type
  | 0 => β
  | n + 1 => Value → VF β n
def VF.lam {β : Type} : (n : Nat) → (List Value → β) → VF β n
  | 0, f => f []
  | n + 1, f => fun v => VF.lam n fun vs => f (v :: vs)
def VF.app {β : Type} (d : β) : (n : Nat) → VF β n → List Value → β
  | 0, f, _ => f
  | n + 1, f, v :: vs => VF.app d n (f v) vs
  | _ + 1, _, [] => d
theorem VF.app_lam {β : Type} (d : β) : ∀ (n : Nat) (f : List Value → β) (vs : List Value), vs.length = n → VF.app d n (VF.lam n f) vs = f vs
  | 0, f, [], _ => rfl
  | n + 1, f, v :: vs, h => VF.app_lam d n (fun us => f (v :: us)) vs (by simpa using h)
def jn {n : Nat} (F : VF WP n) (A : VF WP n → WP) : WP := A F
def lp {n : Nat} (F : VF WP n → VF WP n) : VF WP n := VF.lam n fun vs w =>
  ∃ (I : List Value → WP) (μ : List Value → World → Nat), I vs w ∧ ∀ vs w, vs.length = n → I vs w → VF.app nowp n (F (VF.lam n fun vs' w' => I vs' w' ∧ μ vs' w' < μ vs w)) vs w

/-- A range over the function value g: 'Pd j' says which jump is pending; yield, called where none is, carries out the body. -/
def rng {N : Nat} (P : Program) (X : Nat → Prop) (body : VF ((Option Code → WP) → WP) N) (g : Value) (KJ : Option Code → WP) : WP := fun w =>
  ∃ f first cap, g = .func (.func f) first cap ∧
  ∀ (l : Nat) (Pd : Option Code → WP) (w0 : World), w.heap.size ≤ l → (∀ j w w', Pd j w → ExtA w w' → Pd j w') → ExtA w w0 → Pd none w0 →
    (∀ (args : List Value) (R : Option Code → WP) (w1 : World), args.length = N → Pd none w1 →
      VF.app (fun _ => nowp) N body args (fun j w2 => ∀ w3, LoopEq w2 w3 → Pd j w3 → R j w3) w1 → yie P (fun r => r = l) l args (fun v w3 => ∃ j : Option Code, v = .bool j.isNone ∧ R j w3) w1) →
    cal P (fun r => X r ∨ r = l) f (first.toList ++ [.func (.yield l) #[] #[]] ++ cap.toList) (fun _ w' => ∃ j, Pd j w' ∧ ∀ w'', LoopEq w' w'' → KJ j w'') w0

/-! ## vc -/
structure Kont where
  exit : Nat → Env → WP
  ret : Env → WP

def w1 (x : Option Value) (K : Value → WP) : WP := match x with | some v => K v | none => nowp
def w2 (x y : Option Value) (K : Value → Value → WP) : WP := w1 x fun a => w1 y fun b => K a b
def wl (x : Option (List Value)) (K : List Value → WP) : WP := match x with | some v => K v | none => nowp
def wo (x : Option Operand) (f : Operand → Option Value) (K : Option Value → WP) : WP := match x with | none => K none | some o => w1 (f o) fun v => K (some v)
def pik (c a b : Value) (K : Value → WP) : WP := match c with | .bool true => K a | .bool false => K b | _ => nowp

def quietBuiltin : Builtin → Bool
  | .len | .cap | .max | .min => true
  | _ => false
def loudBuiltin : Builtin → Bool
  | .append | .copy | .clear | .delete | .unsafeSliceData | .unsafeString => true
  | _ => false
def builtinS (b : Builtin) (argTypes : Array TypeId) (type : TypeId) (args : List Value) : Sem Value :=
  match b with
  | .append => Builtin.append_ argTypes type args.toArray
  | .cap => Builtin.cap_ argTypes type args.toArray
  | .clear => Builtin.clear_ argTypes type args.toArray
  | .copy => Builtin.copy_ argTypes type args.toArray
  | .delete => Builtin.delete_ argTypes type args.toArray
  | .len => Builtin.len_ argTypes type args.toArray
  | .max => Builtin.max_ argTypes type args.toArray
  | .min => Builtin.min_ argTypes type args.toArray
  | .unsafeSliceData => Builtin.unsafeSliceData_ argTypes type args.toArray
  | .unsafeString => Builtin.unsafeString_ argTypes type args.toArray
  | _ => stuck ""

/-- what a quiet operation is: pure (of no world), or a read; none: another one -/
inductive QS where
  | mv (v : Value) | pu (s : Sem Value) | rd (s : Sem Value)

def nilc (v : Value) : Sem Value :=
  match v with
  | .pointer none | .nilIface | .nilFunc => runtimePanic .nilDeref
  | .func (.method _) _ _ => stuck ""
  | x => pure x

/-- types whose '==' asks nothing of the world -/
def scalar (P : Program) (t : TypeId) : Bool := match P.underlying t with | some (.int _) | some .bool | some .string => true | _ => false
def isSlice (P : Program) (t : TypeId) : Bool := match P.underlying t with | some (.slice _) => true | _ => false
def isMap (P : Program) (t : TypeId) : Bool := match P.underlying t with | some (.map ..) => true | _ => false
def eqS (op : BinOp) (t : TypeId) (x y : Operand) (a b : Value) : Sem Value := do eqGuard op t x y a b; binOp op t a b
def isEq : BinOp → Bool
  | .eql | .neq => true
  | _ => false

def quietOp (P : Program) (ρ : Operand → Option Value) : Op → Option QS
  | .move x | .assign x => (ρ x).map .mv
  | .pick c a b => match ρ c, ρ a, ρ b with | some c, some a, some b => some (.pu (do pure (if ← asBool c then a else b))) | _, _, _ => none
  | .nilCheck x => (ρ x).map fun v => .pu (nilc v)
  | .binOp op t x y _ => match ρ x, ρ y with | some a, some b => (match isEq op, scalar P t with | true, false => some (.rd (eqS op t x y a b)) | _, _ => some (.pu (binOp op t a b))) | _, _ => none
  | .unOp op _ x => (ρ x).map fun v => .pu (Op.unary op v)
  | .fieldAddr s x f => (ρ x).map fun v => .pu (Instr.fieldAt s v f)
  | .field s x f => (ρ x).map fun v => .pu (Instr.field s v f)
  | .indexAddr t x i => match ρ x, ρ i with | some a, some b => some (.pu (Instr.indexAt t a b)) | _, _ => none
  | .index t x i => match ρ x, ρ i with | some a, some b => some (.pu (Instr.index t a b)) | _, _ => none
  | .extract x i => (ρ x).map fun v => .pu (Instr.extract v i)
  | .load t x => (ρ x).map fun v => .rd (Instr.loadAt t v)
  | .build t parts => match evs' ρ (parts.toList.map (·.2)) with | some vs => some (.pu (Instr.build t ((parts.toList.map (·.1)).zip vs).toArray)) | none => none
  | .slice t x lo hi mx => match ρ x, ov ρ lo, ov ρ hi, ov ρ mx with | some a, some lo, some hi, some mx => some (.pu (Instr.sliceAt t a lo hi mx)) | _, _, _, _ => none
  | .convert s d x => (ρ x).map fun v => match isSlice P s with | true => .rd (convert s d v) | false => .pu (convert s d v)
  | .makeInterface t x => (ρ x).map fun v => .pu (Instr.makeInterface t v)
  | .makeFunc fn first cap => match evs' ρ first.toList, evs' ρ cap.toList with | some a, some b => some (.pu (Instr.makeFunc fn a.toArray b.toArray)) | _, _ => none
  | .typeAssert x t u ok => (ρ x).map fun v => .pu (Instr.typeAssert v t u ok)
  | .lookup t x i ok => match ρ x, ρ i with | some a, some b => some (.rd (Instr.lookup t a b ok)) | _, _ => none
  | .call c => match c.callee with
    | .builtin b => match quietBuiltin b with
      | true => match evs' ρ c.args.toList with | some vs => some (match isMap P (c.argTypes.getD 0 0) with | true => .rd (builtinS b c.argTypes 0 vs) | false => .pu (builtinS b c.argTypes 0 vs)) | none => none
      | false => none
    | _ => none
  | _ => none
where
  evs' (ρ : Operand → Option Value) : List Operand → Option (List Value)
    | [] => some []
    | x :: xs => match ρ x, evs' ρ xs with | some v, some vs => some (v :: vs) | _, _ => none
  ov (ρ : Operand → Option Value) : Option Operand → Option (Option Value)
    | none => some none
    | some x => match ρ x with | some v => some (some v) | none => none

def quietWP (P : Program) (q : QS) (K : Value → WP) : WP :=
  match q with
  | .mv v => K v
  | .pu s => pur P s K
  | .rd s => rds P s K

/-- a loud operation -/
def loudWP (P : Program) (X : Nat → Prop) (n : Nat) (e : Env) (o : Oper) (K : Value → WP) : WP :=
  match o.op with
  | .alloc t => lou P X (Instr.alloc t true (.tuple #[])) K
  | .box t x => w1 (ev n e x) fun v => lou P X (Instr.box t v) K
  | .buildSlice t len parts => wl (evs n e (parts.toList.map (·.2))) fun vs => lou P X (Instr.buildSlice t len ((parts.toList.map (·.1)).zip vs).toArray) K
  | .store t x y => w2 (ev n e x) (ev n e y) fun a b => sto P X (Instr.storeAt t a b) (K undef)
  | .makeSlice t l c => w2 (ev n e l) (ev n e c) fun a b => lou P X (Instr.makeSlice t a b) K
  | .makeMap t r => wo r (ev n e) fun r => lou P X (Instr.makeMap t r) K
  | .mapUpdate t m k x => w2 (ev n e m) (ev n e k) fun a b => w1 (ev n e x) fun c => sto P X (Instr.mapUpdate t a b c) (K undef)
  | .insert t m k x => w2 (ev n e m) (ev n e k) fun a b => w1 (ev n e x) fun c => sto P X (Instr.mapUpdate t a b c) (K undef)
  | .mapEntry t m k => w2 (ev n e m) (ev n e k) fun a b => lou P X (Instr.mapEntry t a b) K
  | .entryStore t m s x => w2 (ev n e m) (ev n e s) fun a b => w1 (ev n e x) fun c => sto P X (Instr.entryStore t a b c) (K undef)
  | .range t x => w1 (ev n e x) fun v => lou P X (Instr.range t v) K
  | .next x str => w1 (ev n e x) fun v => lou P X (Instr.next v str o.type) K
  | .call c => wl (evs n e c.args.toList) fun args => match c.callee with
    | .value f => w1 (ev n e f) fun g => cav P X g args K
    | .invoke r name => w1 (ev n e r) fun g => inv P X g name args K
    | .builtin b => match loudBuiltin b with
      | true => lou P X (builtinS b c.argTypes o.type args) K
      | false => nowp
  | _ => nowp

def opWP (P : Program) (X : Nat → Prop) (n : Nat) (e : Env) (o : Oper) (K : Value → WP) : WP :=
  match quietOp P (ev n e) o.op with
  | some q => quietWP P q K
  | none => loudWP P X n e o K

/-- the value of the guard of an operation, where it has one -/
def guardOf (ops : Array Oper) (n : Nat) (e : Env) (o : Oper) : Option (Option Value × Bool) :=
  match o.guard with
  | none => none
  | some (j, want) => match (ops[j]?).bind (·.dst) with
    | some d => some (match Nat.blt d n with | true => e.get d | false => none, want)
    | none => some (none, want)

def guardJ (ops : Array Oper) (n : Nat) (e : Env) (o : Oper) (A : (Value → WP) → WP) (F : Value → WP) : WP :=
  match guardOf ops n e o with
  | none => A F
  | some (some g, want) => gj g want A F
  | some (none, _) => nowp

def opsWP (P : Program) (X : Nat → Prop) (n : Nat) (ops : Array Oper) : List Oper → Env → (Env → WP) → WP
  | [], e, K => K e
  | o :: rest, e, K => guardJ ops n e o (fun J => opWP P X n e o J) fun v => opsWP P X n ops rest (e.put o.dst v) K

/-- a read that may still come: where it comes (its guard, if it has one), it tells just this -/
abbrev Rd := Option (Value × Bool) × Sem Value × Value
def Rd.ok (P : Program) (p : Rd) (w : World) : Prop :=
  match p with
  | (none, s, v) => s.run P w = .ok v w
  | (some (g, want), s, v) => g = .bool want → s.run P w = .ok v w
def watch (P : Program) : List Rd → WP → WP
  | [], K => K
  | p :: l, K => fun w => Rd.ok P p w ∧ watch P l K w

/-- is it a quiet operation, by its text? -/
def isQuiet : Op → Bool
  | .move _ | .assign _ | .pick .. | .nilCheck _ | .binOp .. | .unOp .. | .fieldAddr .. | .field .. | .indexAddr .. | .index .. | .extract .. | .load .. | .build .. | .slice ..
  | .convert .. | .makeInterface .. | .makeFunc .. | .typeAssert .. | .lookup .. => true
  | .call { callee := .builtin b, .. } => quietBuiltin b
  | _ => false

def quietAt (ops : Array Oper) (i : Nat) : Bool := match ops[i]? with | some o => isQuiet o.op | none => false

/-- on which operations one hangs, through others too, as bits -/
def anc (ops : Array Oper) : Array Nat := Region.before ops

def watched (ops : Array Oper) (L : Array Bool) : List (Nat × Rd) → List Rd
  | [] => []
  | (i, p) :: r => match (List.range ops.size).any fun j => !quietAt ops j && L.getD j false && (anc ops |>.getD j 0).testBit i with
    | true => watched ops L r
    | false => p :: watched ops L r

def guardVal (ops : Array Oper) (n : Nat) (e : Env) (o : Oper) : Option (Value × Bool) :=
  match guardOf ops n e o with
  | some (some g, want) => some (g, want)
  | _ => none

def drawStep (P : Program) (X : Nat → Prop) (n : Nat) (ops : Array Oper) (rec : Array Bool → List (Nat × Rd) → Env → WP) (L : Array Bool) (S : List (Nat × Rd)) (e : Env) (i : Nat) : WP :=
  match ops[i]? with
  | none => nowp
  | some o => guardJ ops n e o (fun J => loudWP P X n e o J) fun v => watch P (watched ops (L.setIfInBounds i true) S) (rec (L.setIfInBounds i true) S (e.put o.dst v))
def both (A B : WP) : WP := fun w => A w ∧ B w
def drawAll (f : Nat → WP) : List Nat → WP
  | [] => fun _ => True
  | i :: is => both (f i) (drawAll f is)
def drawQuiet (P : Program) (n : Nat) (ops : Array Oper) (rec : Array Bool → List (Nat × Rd) → Env → WP) (L : Array Bool) (S : List (Nat × Rd)) (e : Env) (i : Nat) : WP :=
  match ops[i]? with
  | none => nowp
  | some o =>
    match Region.free .any ops L i, quietOp P (ev n e) o.op with
    | true, some (.mv v) => guardJ ops n e o (fun J => J v) fun v => rec (L.setIfInBounds i true) S (e.put o.dst v)
    | true, some (.pu s) => guardJ ops n e o (fun J => pur P s J) fun v => rec (L.setIfInBounds i true) S (e.put o.dst v)
    | true, some (.rd s) => guardJ ops n e o (fun J => rds P s J) fun v => rec (L.setIfInBounds i true) ((i, guardVal ops n e o, s, v) :: S) (e.put o.dst v)
    | _, _ => nowp
def drawWP (P : Program) (X : Nat → Prop) (n : Nat) (ops : Array Oper) (K : Env → WP) : Nat → Array Bool → List (Nat × Rd) → Env → WP
  | 0, L, _, e => match Region.ready .any ops L with | [] => K e | _ => nowp
  | fuel + 1, L, S, e =>
    match (Region.ready .any ops L).find? (quietAt ops) with
    | some i => drawQuiet P n ops (drawWP P X n ops K fuel) L S e i
    | none =>
      match Region.ready .any ops L with
      | [] => K e
      | [i] => drawStep P X n ops (drawWP P X n ops K fuel) L S e i
      | is => drawAll (drawStep P X n ops (drawWP P X n ops K fuel) L S e) is

def dstsOps : List Oper → List Nat
  | [] => []
  | o :: r => match o.dst with | some d => d :: dstsOps r | none => dstsOps r
/-- the slots that a text writes (the rounds of a range over a function write their own) -/
def dsts : Code → List Nat
  | .region _ ops _ => dstsOps ops.toList
  | .seq a b => dsts a ++ dsts b
  | .cond _ a b => dsts a ++ dsts b
  | .block _ a => dsts a
  | .loop a => dsts a
  | .scope a => dsts a
  | _ => []

def straight : Code → Bool
  | .skip | .label _ => true
  | .region .. => true
  | .seq a b => straight a && straight b
  | _ => false

def has (e : Env) (t : Nat) : Bool := match e.get t with | some _ => true | none => false
def nub : List Nat → List Nat
  | [] => []
  | x :: r => match (nub r).elem x with | true => nub r | false => x :: nub r
/-- the slots that are handed on where ways meet -/
def slotsAt (c : Code) (e : Env) : List Nat := nub ((dsts c).filter (has e))
def without (e : Env) (ds : List Nat) : Env := e.filter fun p => !(ds.elem p.1)
def gets (e : Env) : List Nat → Option (List Value)
  | [] => some []
  | t :: ts => match e.get t, gets e ts with | some v, some vs => some (v :: vs) | _, _ => none

def vc (P : Program) (X : Nat → Prop) (n : Nat) (rd : Bool) : Code → Env → (Env → WP) → Kont → WP
  | .skip, e, k, _ => k e
  | .label _, e, k, _ => k e
  | .region _ ops false, e, k, _ => opsWP P X n ops ops.toList e k
  | .region _ ops true, e, k, _ => match Region.noSelect ops with
    | true => drw (drawWP P X n ops k ops.size (Array.replicate ops.size false) [] e)
    | false => nowp
  | .seq a b, e, k, x =>
    match straight a with
    | true => vc P X n rd a e (fun e' => vc P X n rd b e' k x) x
    | false =>
      let S := slotsAt a e
      jn (n := S.length) (VF.lam S.length fun vs => vc P X n rd b (S.zip vs ++ without e (dsts a)) k x)
        fun J => vc P X n rd a e (fun e' => wl (gets e' S) fun vs => VF.app nowp S.length J vs) x
  | .cond c a b, e, k, x => w1 (ev n e c) fun v => cnd v (vc P X n rd a e k x) (vc P X n rd b e k x)
  | .block id a, e, k, x => vc P X n rd a e k { x with exit := fun i e' => match Nat.beq i id with | true => k e' | false => x.exit i e' }
  | .loop a, e, _, x =>
    let S := slotsAt a e
    wl (gets e S) fun vs => VF.app nowp S.length (lp (n := S.length) fun self => VF.lam S.length fun vs =>
      vc P X n rd a (S.zip vs ++ without e (dsts a)) (fun e' => wl (gets e' S) fun vs => VF.app nowp S.length self vs) x) vs
  | .rangeFunc g ps asg body, e, k, x =>
    match rd with
    | true => nowp
    | false => match nub ps.toList == ps.toList with
     | false => nowp
     | true => w1 (ev n e g) fun gv =>
      rng (N := ps.size) P X (VF.lam ps.size fun args KJ => vc P (fun _ => False) n true asg (ps.toList.zip args ++ e)
          (fun e1 => bgn (vc P (fun _ => False) n true body e1 (fun _ => KJ none) { exit := fun i _ => KJ (some (.exit i)), ret := fun _ => KJ (some .ret) })) { exit := fun _ _ => nowp, ret := fun _ => nowp }) gv
        fun j => match j with | none => k e | some (.exit i) => x.exit i e | some .ret => x.ret e | some _ => nowp
  | .exit id, e, _, x => x.exit id e
  | .scope a, e, k, x => vc P X n rd a e k x
  | .ret, e, _, x => x.ret e
  | .goto _, _, _, _ => nowp
  | .refuse _, _, _, _ => nowp

/-! ## a function -/
def hasRange : Code → Bool
  | .seq a b => hasRange a || hasRange b
  | .cond _ a b => hasRange a || hasRange b
  | .block _ a => hasRange a
  | .loop a => hasRange a
  | .scope a => hasRange a
  | .rangeFunc .. => true
  | _ => false
/-- what a function hands back: values at hand, or variables in memory -/
inductive RV where
  | v (x : Value) | c (t : TypeId) (p : Value)
def RV.sem : RV → Sem Value
  | .v x => pure x
  | .c t p => do loadVar t (← asAddr p)
def finL : List RV → Sem (List Value)
  | [] => pure []
  | r :: rs => do
    let x ← r.sem
    let xs ← finL rs
    pure (x :: xs)
def one (l : List Value) : Value := match l with | [x] => x | l => .tuple l.toArray
def finS (l : List RV) : Sem Value := do pure (one (← finL l))
def rvs (n : Nat) (e : Env) : List ResultVar → Option (List RV)
  | [] => some []
  | .tmp t :: rs => match ev n e (.tmp t), rvs n e rs with | some v, some l => some (.v v :: l) | _, _ => none
  | .cell t u :: rs => match ev n e (.tmp t), rvs n e rs with | some v, some l => some (.c u v :: l) | _, _ => none
def vals : List RV → Option (List Value)
  | [] => some []
  | .v x :: rs => match vals rs with | some l => some (x :: l) | none => none
  | .c .. :: _ => none
def fin (P : Program) (n : Nat) (rs : List ResultVar) (R : Value → WP) (e : Env) : WP :=
  match rvs n e rs with
  | none => nowp
  | some l => match vals l with
    | some vs => R (one vs)
    | none => rds P (finS l) R
def args0 (i : Nat) : List Value → Env
  | [] => []
  | v :: vs => (i, v) :: args0 (i + 1) vs
def vcFun (P : Program) (X : Nat → Prop) (fn : Func) (args : List Value) (R : Value → WP) : WP :=
  match fn.body with
  | none => nowp
  | some c => match Nat.ble args.length fn.ntmps with
    | false => nowp
    | true => match hasRange c with
      | true => vc P X fn.ntmps false c (args0 0 args) (fun e => unw (fin P fn.ntmps fn.results.toList R e)) { exit := fun _ _ => nowp, ret := fun e => unw (fin P fn.ntmps fn.results.toList R e) }
      | false => vc P X fn.ntmps false c (args0 0 args) (fin P fn.ntmps fn.results.toList R) { exit := fun _ _ => nowp, ret := fin P fn.ntmps fn.results.toList R }

end Go.Proofs.Ytcgiobkfgnclcaa
