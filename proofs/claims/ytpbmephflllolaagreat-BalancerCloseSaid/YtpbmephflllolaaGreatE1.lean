/- The proof of a given statement, a part of it (Base). No condition but what each lemma says. -/
import Derived.AtR
import Derived.Orders
import Derived.KernelRfl
set_option linter.unusedVariables false
set_option linter.unusedSimpArgs false
namespace Go.Proofs.YtpbmephflllolaaGreat
open Go
abbrev WP := World → Prop
def f8 (w w' : World) : Prop := w'.os = w.os ∧ w'.output = w.output
theorem f8.refl (w : World) : f8 w w := ⟨rfl, rfl⟩
theorem f8.trans {a b c : World} (h : f8 a b) (h' : f8 b c) : f8 a c := ⟨h'.1.trans h.1, h'.2.trans h.2⟩
def soft : Option Obj → Bool
 | some (.cells ..) => false
 | _ => true
theorem f8.soft {a b : World} (ho : b.os = a.os) (hp : b.output = a.output) (h : ∀ r : Nat, b.heap[r]? = a.heap[r]? ∨ (Go.Proofs.YtpbmephflllolaaGreat.soft a.heap[r]? = true ∧ Go.Proofs.YtpbmephflllolaaGreat.soft b.heap[r]? = true)) : f8 a b := ⟨ho, hp⟩
def Sk (X : Nat → Prop) (w w' : World) : Prop :=
 w.heap.size ≤ w'.heap.size ∧
 (∀ (r : Nat) d, w.heap[r]? = some (Obj.deferred d) → w'.heap[r]? = some (Obj.deferred d)) ∧
 (∀ (r : Nat) lo, ¬ X r → w.heap[r]? = some (Obj.loop lo) → w'.heap[r]? = some (Obj.loop lo)) ∧ f8 w w'
theorem Sk.refl (X : Nat → Prop) (w : World) : Sk X w w := ⟨Nat.le_refl _, fun _ _ h => h, fun _ _ _ h => h, f8.refl _⟩
theorem Sk.trans {X : Nat → Prop} {a b c : World} (h : Sk X a b) (h' : Sk X b c) : Sk X a c :=
 ⟨Nat.le_trans h.1 h'.1, fun r d e => h'.2.1 r d (h.2.1 r d e), fun r lo hx e => h'.2.2.1 r lo hx (h.2.2.1 r lo hx e), h.2.2.2.trans h'.2.2.2⟩
theorem Sk.mono {X Y : Nat → Prop} {a b : World} (h : Sk X a b) (hs : ∀ r, X r → Y r) : Sk Y a b :=
 ⟨h.1, h.2.1, fun r lo hx e => h.2.2.1 r lo (fun hh => hx (hs r hh)) e, h.2.2.2⟩
theorem Sk.fresh {X Y : Nat → Prop} {a b : World} (h : Sk Y a b) (hs : ∀ r, Y r → X r ∨ a.heap.size ≤ r) : Sk X a b := by
 refine ⟨h.1, h.2.1, fun r lo hx e => h.2.2.1 r lo (fun hh => ?_) e, h.2.2.2⟩
 rcases hs r hh with h1 | h1
 ·exact hx h1
 ·rw [Array.getElem?_eq_none h1] at e; cases e
theorem Sk.of_heap {X : Nat → Prop} {a b : World} (h : b.heap = a.heap) (ho : b.os = a.os := by rfl) (hp : b.output = a.output := by rfl) : Sk X a b := by
 refine ⟨by rw [h]; exact Nat.le_refl _, fun r d e => by rw [h]; exact e, fun r lo _ e => by rw [h]; exact e, ho, hp⟩
def Q2 (n : Nat) (w : World) : List Deferred → Prop
 | [] => True
 | d :: ds => ∃ r, d = { target := .collected r, args := #[] } ∧ n ≤ r ∧ w.heap[r]? = some (Obj.deferred (some [])) ∧
   (∀ d' ∈ ds, ∀ r', d'.target = .collected r' → r' ≠ r) ∧ Q2 n w ds
theorem Q2.keep {n : Nat} {w w' : World} {ds : List Deferred} (h : Q2 n w ds) (hk : ∀ (r : Nat) d, w.heap[r]? = some (Obj.deferred d) → w'.heap[r]? = some (Obj.deferred d)) : Q2 n w' ds := by
 induction ds with
 | nil => trivial
 | cons d ds ih => obtain ⟨r, e, h1, h2, h3, h4⟩ := h; exact ⟨r, e, h1, hk _ _ h2, h3, ih h4⟩
theorem Q2.lt_size {n : Nat} {w : World} {ds : List Deferred} (h : Q2 n w ds) : ∀ d ∈ ds, ∀ r, d.target = .collected r → n ≤ r ∧ r < w.heap.size := by
 induction ds with
 | nil => intro d hd; cases hd
 | cons d ds ih =>
  obtain ⟨r, e, h1, h2, h3, h4⟩ := h
  intro d' hd' r' hr'
  rcases List.mem_cons.1 hd' with rfl | hd'
  ·subst e; cases hr'
   refine ⟨h1, ?_⟩
   rcases Nat.lt_or_ge r w.heap.size with hl | hl
   ·exact hl
   ·rw [Array.getElem?_eq_none hl] at h2; cases h2
  ·exact ih h4 d' hd' r' hr'
theorem Q2.append {n m : Nat} {w : World} {ds es : List Deferred} (h : Q2 m w ds) (h' : Q2 n w es) (hn : n ≤ m)
  (hb : ∀ d ∈ es, ∀ r, d.target = .collected r → r < m) : Q2 n w (ds ++ es) := by
 induction ds with
 | nil => exact h'
 | cons d ds ih =>
  obtain ⟨r, e, h1, h2, h3, h4⟩ := h
  refine ⟨r, e, Nat.le_trans hn h1, h2, ?_, ih h4⟩
  intro d' hd' r' hr'
  rcases List.mem_append.1 hd' with hd' | hd'
  ·exact h3 d' hd' r' hr'
  ·have := hb d' hd' r' hr'; omega
inductive Ex where
 | nrm | exit (id : Nat) | goto (l : Nat) | ret
def Arr (P : Program) (m : Machine) (b : Frame) (k : List Item) (cs : List Frame) : Ex → Act → World → Prop
 | .nrm, a, w => Steps P m (lone (b.atR a k) cs w)
 | .exit id, a, w => ∃ k0, exitTo id k0 = exitTo id k ∧ Steps P m (lone (b.atR a (.code (.exit id) :: k0)) cs w)
 | .goto l, a, w => ∃ k0, gotoIn l k0 = gotoIn l k ∧ Steps P m (lone (b.atR a (.code (.goto l) :: k0)) cs w)
 | .ret, a, w => ∃ k0, Steps P m (lone (b.atR a (.code .ret :: k0)) cs w)
theorem Arr.of_steps {P : Program} {m m₁ : Machine} {b : Frame} {k : List Item} {cs : List Frame} {e : Ex} {a : Act} {w : World}
  (h : Steps P m m₁) (h' : Arr P m₁ b k cs e a w) : Arr P m b k cs e a w := by
 cases e with
 | nrm => exact h.trans h'
 | exit id => obtain ⟨k0, h1, h2⟩ := h'; exact ⟨k0, h1, h.trans h2⟩
 | goto l => obtain ⟨k0, h1, h2⟩ := h'; exact ⟨k0, h1, h.trans h2⟩
 | ret => obtain ⟨k0, h2⟩ := h'; exact ⟨k0, h.trans h2⟩
def At (P : Program) (X : Nat → Prop) (b : Frame) (c : Code) (Q : Ex → Act → World → Prop) (a : Act) (w : World) : Prop :=
 ∀ k cs, ∃ e a' w' ms, Q e a' w' ∧ Sk X w w' ∧ a'.defers = ms ++ a.defers ∧ Q2 w.heap.size w' ms ∧
  Arr P (lone (b.atR a (.code c :: k)) cs w) b k cs e a' w'
section rules
variable {P : Program} {X : Nat → Prop} {b : Frame} {Q : Ex → Act → World → Prop} {a : Act} {w : World}
theorem At.mono {c : Code} {Q' : Ex → Act → World → Prop} (h : At P X b c Q a w) (hq : ∀ e a w, Q e a w → Q' e a w) : At P X b c Q' a w :=
 fun k cs => let ⟨e, a', w', ms, q, r⟩ := h k cs; ⟨e, a', w', ms, hq _ _ _ q, r⟩
theorem At.move {c c' : Code} (h : At P X b c' Q a w) (hs : ∀ k cs, step P (lone (b.atR a (.code c :: k)) cs w) = .next (lone (b.atR a (.code c' :: k)) cs w)) : At P X b c Q a w :=
 fun k cs => let ⟨e, a', w', ms, q, h1, h2, h3, r⟩ := h k cs; ⟨e, a', w', ms, q, h1, h2, h3, .of_steps (.one (hs k cs)) r⟩
theorem At.skip (h : Q .nrm a w) : At P X b .skip Q a w :=
 fun _ _ => ⟨.nrm, a, w, [], h, Sk.refl _ _, rfl, trivial, .one stepR_skip⟩
theorem At.label {l : Nat} (h : Q .nrm a w) : At P X b (.label l) Q a w :=
 fun _ _ => ⟨.nrm, a, w, [], h, Sk.refl _ _, rfl, trivial, .one stepR_label⟩
theorem At.exit {id : Nat} (h : Q (.exit id) a w) : At P X b (.exit id) Q a w :=
 fun k _ => ⟨.exit id, a, w, [], h, Sk.refl _ _, rfl, trivial, ⟨k, rfl, Steps.refl _ _⟩⟩
theorem At.goto {l : Nat} (h : Q (.goto l) a w) : At P X b (.goto l) Q a w :=
 fun k _ => ⟨.goto l, a, w, [], h, Sk.refl _ _, rfl, trivial, ⟨k, rfl, Steps.refl _ _⟩⟩
theorem At.ret (h : Q .ret a w) : At P X b .ret Q a w :=
 fun k _ => ⟨.ret, a, w, [], h, Sk.refl _ _, rfl, trivial, ⟨k, Steps.refl _ _⟩⟩
def Ex.then (next : Act → World → Prop) (Q : Ex → Act → World → Prop) : Ex → Act → World → Prop
 | .nrm, a, w => next a w
 | e, a, w => Q e a w
theorem Arr.pass {m : Machine} {x : Item} {k : List Item} {cs : List Frame} {e : Ex} (hx : x.plain = true) (he : e ≠ .nrm) (h : Arr P m b (x :: k) cs e a w) :
  Arr P m b k cs e a w := by
 cases e with
 | nrm => exact absurd rfl he
 | exit id => obtain ⟨k0, h1, h2⟩ := h; exact ⟨k0, by rw [h1]; cases x <;> simp_all [exitTo, Item.plain], h2⟩
 | goto l => obtain ⟨k0, h1, h2⟩ := h; exact ⟨k0, by rw [h1]; cases x <;> simp_all [gotoIn, Item.plain], h2⟩
 | ret => exact h
theorem A3S {w w₁ w₂ : World} {ms ms₂ : List Deferred} {a a₁ a₂ : Act} (hk : Sk X w w₁) (hd : a₁.defers = ms ++ a.defers) (hm : Q2 w.heap.size w₁ ms)
  (hk₂ : Sk X w₁ w₂) (hd₂ : a₂.defers = ms₂ ++ a₁.defers) (hm₂ : Q2 w₁.heap.size w₂ ms₂) :
  a₂.defers = (ms₂ ++ ms) ++ a.defers ∧ Q2 w.heap.size w₂ (ms₂ ++ ms) :=
 ⟨by rw [hd₂, hd, List.append_assoc], Q2.append hm₂ (hm.keep hk₂.2.1) hk.1 (fun d hd r hr => (hm.lt_size d hd r hr).2)⟩
theorem At.seq {x y : Code} (h : At P X b x (Ex.then (fun a w => At P X b y Q a w) Q) a w) : At P X b (.seq x y) Q a w := by
 intro k cs
 obtain ⟨e, a₁, w₁, ms, hq, hk, hd, hm, harr⟩ := h (.code y :: k) cs
 cases e with
 | nrm =>
  obtain ⟨e₂, a₂, w₂, ms₂, hq₂, hk₂, hd₂, hm₂, harr₂⟩ := hq k cs
  have := A3S hk hd hm hk₂ hd₂ hm₂
  exact ⟨e₂, a₂, w₂, ms₂ ++ ms, hq₂, hk.trans hk₂, this.1, this.2, .of_steps (.head stepR_seq harr) harr₂⟩
 | exit id => exact ⟨_, a₁, w₁, ms, hq, hk, hd, hm, .of_steps (.one stepR_seq) (.pass (x := .code y) rfl (by simp) harr)⟩
 | goto l => exact ⟨_, a₁, w₁, ms, hq, hk, hd, hm, .of_steps (.one stepR_seq) (.pass (x := .code y) rfl (by simp) harr)⟩
 | ret => exact ⟨_, a₁, w₁, ms, hq, hk, hd, hm, .of_steps (.one stepR_seq) (.pass (x := .code y) rfl (by simp) harr)⟩
theorem At.cond {c : Operand} {x y : Code} {t : Bool} (hc : a.eval c = .bool t) (h : At P X b (if t then x else y) Q a w) : At P X b (.cond c x y) Q a w :=
 h.move fun _ _ => stepR_cond hc
def Ex.inBlock (id : Nat) (Q : Ex → Act → World → Prop) : Ex → Act → World → Prop
 | .exit id', a, w => if id' = id then Q .nrm a w else Q (.exit id') a w
 | e, a, w => Q e a w
theorem At.block {id : Nat} {c : Code} (h : At P X b c (Ex.inBlock id Q) a w) : At P X b (.block id c) Q a w := by
 intro k cs
 obtain ⟨e, a₁, w₁, ms, hq, hk, hd, hm, harr⟩ := h (.inBlock id :: k) cs
 cases e with
 | nrm => exact ⟨.nrm, a₁, w₁, ms, hq, hk, hd, hm, .head stepR_block (Steps.trans harr (.one stepR_inBlock))⟩
 | exit id' =>
  obtain ⟨k0, h1, h2⟩ := harr
  by_cases hid : id' = id
  ·simp only [Ex.inBlock, hid, if_true] at hq
   refine ⟨.nrm, a₁, w₁, ms, hq, hk, hd, hm, .head stepR_block (h2.trans (.one (stepR_exit ?_)))⟩
   rw [h1]; simp [exitTo, hid]
  ·simp only [Ex.inBlock, hid, if_false] at hq
   refine ⟨.exit id', a₁, w₁, ms, hq, hk, hd, hm, k0, ?_, .head stepR_block h2⟩
   have : (id == id') = false := by simp; exact fun h => hid h.symm
   rw [h1]; simp [exitTo, this]
 | goto l => obtain ⟨k0, h1, h2⟩ := harr; exact ⟨_, a₁, w₁, ms, hq, hk, hd, hm, k0, by rw [h1]; simp [gotoIn], .head stepR_block h2⟩
 | ret => exact ⟨_, a₁, w₁, ms, hq, hk, hd, hm, .of_steps (.one stepR_block) harr⟩
theorem A3b {c : Code} {k : List Item} {cs : List Frame} : step P (lone (b.atR a (.code (.scope c) :: k)) cs w) = .next (lone (b.atR a (.code c :: .inScope c :: k)) cs w) :=
 step_lone_go (by simp [stepG, stepG.exec, Frame.atR])
theorem B09 {c : Code} {k : List Item} {cs : List Frame} : step P (lone (b.atR a (.inScope c :: k)) cs w) = .next (lone (b.atR a k) cs w) :=
 step_lone_go (by simp [stepG, stepG.exec, Frame.atR])
def Ex.noGoto (Q : Ex → Act → World → Prop) : Ex → Act → World → Prop
 | .goto _, _, _ => False
 | e, a, w => Q e a w
theorem At.scope {c : Code} (h : At P X b c (Ex.noGoto Q) a w) : At P X b (.scope c) Q a w := by
 intro k cs
 obtain ⟨e, a₁, w₁, ms, hq, hk, hd, hm, harr⟩ := h (.inScope c :: k) cs
 cases e with
 | nrm => exact ⟨.nrm, a₁, w₁, ms, hq, hk, hd, hm, .head A3b (Steps.trans harr (.one B09))⟩
 | exit id => obtain ⟨k0, h1, h2⟩ := harr; exact ⟨.exit id, a₁, w₁, ms, hq, hk, hd, hm, k0, by rw [h1]; simp [exitTo], .head A3b h2⟩
 | goto l => exact hq.elim
 | ret => exact ⟨_, a₁, w₁, ms, hq, hk, hd, hm, .of_steps (.one A3b) harr⟩
theorem At.loop {c : Code} (I : Act → World → Prop) (μ : Act → World → Nat) (h₀ : I a w)
  (round : ∀ a w, I a w → At P X b c (Ex.then (fun a' w' => I a' w' ∧ μ a' w' < μ a w) Q) a w) : At P X b (.loop c) Q a w := by
 intro k cs
 have key : ∀ n a w, μ a w = n → I a w →
   ∃ e a' w' ms, Q e a' w' ∧ Sk X w w' ∧ a'.defers = ms ++ a.defers ∧ Q2 w.heap.size w' ms ∧ Arr P (lone (b.atR a (.code c :: .inLoop c :: k)) cs w) b k cs e a' w' := by
  intro n
  induction n using Nat.strongRecOn with
  | _ n ih =>
   intro a w hn hI
   obtain ⟨e, a₁, w₁, ms, hq, hk, hd, hm, harr⟩ := round a w hI (.inLoop c :: k) cs
   cases e with
   | nrm =>
    obtain ⟨hI₁, hlt⟩ := hq
    obtain ⟨e₂, a₂, w₂, ms₂, hq₂, hk₂, hd₂, hm₂, harr₂⟩ := ih (μ a₁ w₁) (hn ▸ hlt) a₁ w₁ rfl hI₁
    have := A3S hk hd hm hk₂ hd₂ hm₂
    exact ⟨e₂, a₂, w₂, ms₂ ++ ms, hq₂, hk.trans hk₂, this.1, this.2, .of_steps (Steps.trans harr (.one stepR_inLoop)) harr₂⟩
   | exit id => exact ⟨_, a₁, w₁, ms, hq, hk, hd, hm, .pass (x := .inLoop c) rfl (by simp) harr⟩
   | goto l => exact ⟨_, a₁, w₁, ms, hq, hk, hd, hm, .pass (x := .inLoop c) rfl (by simp) harr⟩
   | ret => exact ⟨_, a₁, w₁, ms, hq, hk, hd, hm, .pass (x := .inLoop c) rfl (by simp) harr⟩
 obtain ⟨e, a', w', ms, hq, h1, h2, h3, harr⟩ := key _ a w rfl h₀
 exact ⟨e, a', w', ms, hq, h1, h2, h3, .of_steps (.one stepR_loop) harr⟩
end rules
def B2d (P : Program) (l : Nat) (f : FuncId) (tmps : Array Value) (asg body : Code) (w : World) (R : Value → World → Prop) : Prop :=
 ∀ (c : Frame) (cs : List Frame), ∃ v w', R v w' ∧ Steps P (lone (Frame.round l f tmps asg body .normal) (c :: cs) w) (lone (c.finish v) cs w')
def Z8 (P : Program) (X : Nat → Prop) (ro : Option Nat) (o : Oper) (a : Act) (w : World) (K : Value → World → Prop) : Prop :=
 match (o.semAt ro a.eval).run P w with
 | .ok (.value v) w' => K v w' ∧ Sk X w w'
 | .ok .skip w' => K undef w' ∧ Sk X w w'
 | .ok (.enter f args) w' => Sk X w w' ∧ Calls P f args w' fun e w'' => ∃ v, e = .returned v ∧ K v w'' ∧ Sk X w' w''
 | .ok (.row row args) w' => Sk X w w' ∧ Rows P row args w' fun v w'' => K v w'' ∧ Sk X w' w''
 | .ok (.round l f tmps asg body) w' => Sk X w w' ∧ B2d P l f tmps asg body w' fun v w'' => K v w'' ∧ Sk X w' w''
 | _ => False
theorem Z8.mono {P : Program} {X : Nat → Prop} {ro : Option Nat} {o : Oper} {a : Act} {w : World} {K K' : Value → World → Prop}
  (h : Z8 P X ro o a w K) (hk : ∀ v w, K v w → K' v w) : Z8 P X ro o a w K' := by
 unfold Z8 at *
 split at h
 ·exact ⟨hk _ _ h.1, h.2⟩
 ·exact ⟨hk _ _ h.1, h.2⟩
 ·exact ⟨h.1, h.2.mono fun e w'' ⟨v, he, hv, hs⟩ => ⟨v, he, hk _ _ hv, hs⟩⟩
 ·exact ⟨h.1, h.2.mono fun v w'' ⟨hv, hs⟩ => ⟨hk _ _ hv, hs⟩⟩
 ·exact ⟨h.1, fun c cs => let ⟨v, w', ⟨hv, hs⟩, st⟩ := h.2 c cs; ⟨v, w', ⟨hk _ _ hv, hs⟩, st⟩⟩
 ·exact h
def W4 (P : Program) (X : Nat → Prop) (ro : Option Nat) (ops : Array Oper) (i : Nat) (K : Act → World → Prop) (a : Act) (w : World) : Prop :=
 match ops[i]? with
 | none => K a w
 | some o => if Region.wanted o (yielded ops a.tmps) = true then Z8 P X ro o a w (fun v w' => K (a.put o.dst v) w') else K (a.put o.dst undef) w
theorem W4.mono {P : Program} {X : Nat → Prop} {ro : Option Nat} {ops : Array Oper} {i : Nat} {K K' : Act → World → Prop} {a : Act} {w : World}
  (h : W4 P X ro ops i K a w) (hk : ∀ a w, K a w → K' a w) : W4 P X ro ops i K' a w := by
 unfold W4 at *
 split
 ·rename_i ho; rw [ho] at h; exact hk _ _ h
 ·rename_i o ho; rw [ho] at h; simp only [] at h
  split
  ·rename_i hw; rw [if_pos hw] at h; exact h.mono fun v w => hk _ _
  ·rename_i hw; rw [if_neg hw] at h; exact hk _ _ h
def S1 (P : Program) (X : Nat → Prop) (ro : Option Nat) (ops : Array Oper) (Q : Act → World → Prop) : List Nat → Act → World → Prop
 | [], a, w => Q a w
 | i :: rest, a, w => W4 P X ro ops i (S1 P X ro ops Q rest) a w
section
variable {P : Program} {X : Nat → Prop} {b : Frame} {a : Act} {w : World} {ops : Array Oper}
theorem m8 (a : Act) (d : Option Tmp) (v : Value) : (a.put d v).defers = a.defers := by cases d <;> rfl
theorem B2b {i : Nat} {rest : List Nat} {K : Act → World → Prop} (h : W4 P X b.roundOf ops i K a w) (k : List Item) (cs : List Frame) :
  ∃ a' w', K a' w' ∧ Sk X w w' ∧ a'.defers = a.defers ∧
   Steps P (lone (b.atR a (.inRegion ops (i :: rest) :: k)) cs w) (lone (b.atR a' (.inRegion ops rest :: k)) cs w') := by
 unfold W4 at h
 cases ho : ops[i]? with
 | none =>
  rw [ho] at h
  have hs := stepR_op_skip (P := P) (b := b) (a := a) (k := k) (cs := cs) (w := w) (ops := ops) (i := i) (rest := rest) (by simp [ho])
  simp only [ho, Option.bind_none, Act.put] at hs
  exact ⟨a, w, h, Sk.refl _ _, rfl, .one hs⟩
 | some o =>
  rw [ho] at h; simp only [] at h
  have hfin : ∀ v, (b.atR a (.inRegion ops (i :: rest) :: k)).finish v = b.atR (a.put o.dst v) (.inRegion ops rest :: k) := by
   intro v; rw [Frame.finish_atR, ho]; rfl
  by_cases hw : Region.wanted o (yielded ops a.tmps) = true
  ·rw [if_pos hw] at h
   have hg := stepGR_op (P := P) (b := b) (a := a) (k := k) (cs := cs) (w := w) (rest := rest) ho hw
   unfold Z8 at h
   split at h
   ·rename_i v w' hr
    refine ⟨_, w', h.1, h.2, m8 _ _ _, .one (step_lone_go ?_)⟩
    rw [hg, ← hfin]; simp [stepG.apply, Sem.runT_eq, hr]
   ·rename_i w' hr
    refine ⟨_, w', h.1, h.2, m8 _ _ _, .one (step_lone_go ?_)⟩
    rw [hg, ← hfin]; simp [stepG.apply, Sem.runT_eq, hr]
   ·rename_i f args w' hr
    obtain ⟨e, w'', fr, ⟨v, rfl, hK, hs⟩, hsteps, _, hleave⟩ := h.2 (b.atR a (.inRegion ops (i :: rest) :: k) :: cs)
    have henter : step P (lone (b.atR a (.inRegion ops (i :: rest) :: k)) cs w) =
      .next (lone (Frame.enter P f args .normal) (b.atR a (.inRegion ops (i :: rest) :: k) :: cs) w') :=
     step_lone_go (by rw [hg]; simp [stepG.apply, Sem.runT_eq, hr, Frame.atR])
    refine ⟨_, w'', hK, h.1.trans hs, m8 _ _ _, .head henter (Steps.trans hsteps (.one ?_))⟩
    rw [← hfin]; exact step_leave_returned hleave
   ·rename_i row args w' hr
    obtain ⟨v, w'', ⟨hK, hs⟩, hsteps⟩ := h.2 (b.atR a (.inRegion ops (i :: rest) :: k)) cs
    have henter : step P (lone (b.atR a (.inRegion ops (i :: rest) :: k)) cs w) =
      .next (lone (Frame.ofRow P row args .normal) (b.atR a (.inRegion ops (i :: rest) :: k) :: cs) w') :=
     step_lone_go (by rw [hg]; simp [stepG.apply, Sem.runT_eq, hr, Frame.atR])
    refine ⟨_, w'', hK, h.1.trans hs, m8 _ _ _, .head henter ?_⟩
    rw [← hfin]; exact hsteps
   ·rename_i l f tmps asg body w' hr
    obtain ⟨v, w'', ⟨hK, hs⟩, hsteps⟩ := h.2 (b.atR a (.inRegion ops (i :: rest) :: k)) cs
    have henter : step P (lone (b.atR a (.inRegion ops (i :: rest) :: k)) cs w) =
      .next (lone (Frame.round l f tmps asg body .normal) (b.atR a (.inRegion ops (i :: rest) :: k) :: cs) w') :=
     step_lone_go (by rw [hg]; simp [stepG.apply, Sem.runT_eq, hr])
    refine ⟨_, w'', hK, h.1.trans hs, m8 _ _ _, .head henter ?_⟩
    rw [← hfin]; exact hsteps
   ·exact h.elim
  ·rw [if_neg hw] at h
   have hs := stepR_op_skip (P := P) (b := b) (a := a) (k := k) (cs := cs) (w := w) (ops := ops) (i := i) (rest := rest)
    (by simp [ho]; simpa using hw)
   simp only [ho, Option.bind_some] at hs
   exact ⟨_, w, h, Sk.refl _ _, m8 _ _ _, .one hs⟩
theorem A5l {Q : Act → World → Prop} (l : List Nat) : ∀ (a : Act) (w : World), S1 P X b.roundOf ops Q l a w → ∀ (k : List Item) (cs : List Frame),
  ∃ a' w', Q a' w' ∧ Sk X w w' ∧ a'.defers = a.defers ∧ Steps P (lone (b.atR a (.inRegion ops l :: k)) cs w) (lone (b.atR a' k) cs w') := by
 induction l with
 | nil => exact fun a w h k cs => ⟨a, w, h, Sk.refl _ _, rfl, .one stepR_region_end⟩
 | cons i rest ih =>
  intro a w h k cs
  obtain ⟨a₁, w₁, hK, hs, hd, st⟩ := B2b (rest := rest) h k cs
  obtain ⟨a₂, w₂, hQ, hs₂, hd₂, st₂⟩ := ih a₁ w₁ hK k cs
  exact ⟨a₂, w₂, hQ, hs.trans hs₂, hd₂.trans hd, st.trans st₂⟩
theorem At.region {id : Nat} {Q : Ex → Act → World → Prop} (h : S1 P X b.roundOf ops (fun a w => Q .nrm a w) (List.range ops.size) a w) :
  At P X b (.region id ops false) Q a w := fun k cs =>
 let ⟨a', w', hQ, hs, hd, st⟩ := A5l _ a w h k cs
 ⟨.nrm, a', w', [], hQ, hs, hd, trivial, .head stepR_region st⟩
def T9 (P : Program) (X : Nat → Prop) (ro : Option Nat) (ops : Array Oper) (G : Array Bool → World → Prop) (Q : Act → World → Prop) : Nat → Array Bool → Act → World → Prop
 | 0, L, a, w => G L w ∧ Region.ready .any ops L = [] ∧ Q a w
 | n + 1, L, a, w => G L w ∧ (Region.ready .any ops L = [] → Q a w) ∧ ∀ i ∈ Region.ready .any ops L, W4 P X ro ops i (T9 P X ro ops G Q n (L.setIfInBounds i true)) a w
theorem T9.g {ro : Option Nat} {G : Array Bool → World → Prop} {Q : Act → World → Prop} {n : Nat} {L : Array Bool} (h : T9 P X ro ops G Q n L a w) : G L w := by
 cases n <;> exact h.1
theorem B6Y {ro : Option Nat} {G : Array Bool → World → Prop} {Q : Act → World → Prop} : ∀ (fuel t : Nat) (L : Array Bool) (a : Act) (w : World), T9 P X ro ops G Q fuel L a w →
  S1 P X ro ops Q (Region.linearise.go .any ops fuel t L []) a w := by
 intro fuel
 induction fuel with
 | zero => intro t L a w h; simpa [Region.linearise.go, S1] using h.2.2
 | succ fuel ih =>
  intro t L a w h
  obtain ⟨_, h₀, h₁⟩ := h
  simp only [Region.linearise.go]
  change S1 P X ro ops Q (match (Region.ready .any ops L)[t % (Region.ready .any ops L).length]? with
   | some i => Region.linearise.go .any ops fuel (t / (Region.ready .any ops L).length) (L.setIfInBounds i true) [i]
   | none => [].reverse) a w
  cases hi : (Region.ready .any ops L)[t % (Region.ready .any ops L).length]? with
  | none =>
   have hnil : Region.ready .any ops L = [] := by
    cases hr : Region.ready .any ops L with
    | nil => rfl
    | cons x xs =>
     rw [hr] at hi
     have hlt : t % (x :: xs).length < (x :: xs).length := Nat.mod_lt _ (by simp)
     simp at hi
     simp at hlt
     omega
   simpa [S1] using h₀ hnil
  | some i =>
   simp only []
   rw [linearise_go_acc, List.reverse_singleton, List.singleton_append]
   exact (h₁ i (List.mem_of_getElem? hi)).mono fun a w => ih _ _ a w
def s5 (P : Program) (ro : Option Nat) (ops : Array Oper) (o : Oper) (v : Value) (S : World → Prop) (a : Act) : Prop :=
 (Region.wanted o (yielded ops a.tmps) = true ∧ ∀ w, S w → (o.semAt ro a.eval).run P w = .ok (.value v) w) ∨
 (Region.wanted o (yielded ops a.tmps) = false ∧ v = undef)
theorem s5.opDo {ro : Option Nat} {i : Nat} {o : Oper} {v : Value} {S : World → Prop} (hi : ops[i]? = some o) (hy : s5 P ro ops o v S a) (hS : S w)
  {K : Act → World → Prop} (h : K (a.put o.dst v) w) : W4 P X ro ops i K a w := by
 unfold W4
 rw [hi]; simp only []
 rcases hy with ⟨hw, hv⟩ | ⟨hw, rfl⟩
 ·rw [if_pos hw]; unfold Z8; rw [hv w hS]; exact ⟨h, Sk.refl _ _⟩
 ·rw [if_neg (by simp [hw])]; exact h
theorem B3p {ro : Option Nat} {ρ ρ' : Operand → Value} (o : Oper) (hs : ∀ cs b, o.op ≠ .select cs b) (h : ∀ x ∈ o.op.operands, ρ x = ρ' x) :
  o.semAt ro ρ = o.semAt ro ρ' := by
 have h1 := execOp_congr o hs h
 unfold Oper.semAt
 cases ro with
 | none => exact h1
 | some l =>
  cases hop : o.op <;> first
   | exact h1
   | (simp only []; rw [resolve_congr _ _ fun x hx => h x (by rw [hop]; exact hx)])
theorem B0L {ro : Option Nat} (o : Oper) (hs : ∀ cs b, o.op ≠ .select cs b) (a : Act) (dst : Option Tmp) (v : Value) (h : ∀ d, dst = some d → d ∉ o.looksAt ops) :
  o.semAt ro (a.put dst v).eval = o.semAt ro a.eval :=
 B3p o hs fun x hx => Act.eval_put fun d hd hxd => h d hd (by
  subst hxd
  exact List.mem_append_left _ (List.mem_filterMap.2 ⟨.tmp d, by simpa using hx, rfl⟩))
theorem s5.of_same {ro : Option Nat} {o : Oper} {v : Value} {S : World → Prop} {a a' : Act} (hy : s5 P ro ops o v S a) (he : o.semAt ro a'.eval = o.semAt ro a.eval)
  (hw : Region.wanted o (yielded ops a'.tmps) = Region.wanted o (yielded ops a.tmps)) : s5 P ro ops o v S a' := by
 unfold s5 at *
 rw [he, hw]
 exact hy
theorem B8F {ro : Option Nat} {j : Nat} {oi oj : Oper} {v : Value} {S : World → Prop} (hj : ops[j]? = some oj) (hap : oi.apart ops oj = true)
  (hsi : ∀ cs b, oi.op ≠ .select cs b) (hsj : ∀ cs b, oj.op ≠ .select cs b) {K : Act → World → Prop} {a : Act} {w : World}
  (hy : s5 P ro ops oi v S a) (h : W4 P X ro ops j K (a.put oi.dst v) w) :
  W4 P X ro ops j (fun a' w' => s5 P ro ops oi v S a' ∧ K (a'.put oi.dst v) w') a w := by
 obtain ⟨h1, h2, h3⟩ := Oper.apart_spec hap
 have keep : ∀ (a : Act), s5 P ro ops oi v S a → ∀ u, s5 P ro ops oi v S (a.put oj.dst u) := fun a hy u =>
  hy.of_same (B0L oi hsi a oj.dst u h3) (wanted_put oi a oj.dst u h3)
 unfold W4 at *
 simp only [hj] at *
 rw [wanted_put oj a oi.dst v h1] at h
 split
 ·rename_i hw
  rw [if_pos hw] at h
  unfold Z8 at *
  rw [B0L oj hsj a oi.dst v h1] at h
  refine Z8.mono (K := fun u w' => K ((a.put oi.dst v).put oj.dst u) w') ?_ ?_
  ·unfold Z8; exact h
  ·intro u w' hu
   exact ⟨keep a hy u, by rw [← Act.put_comm a v u h2]; exact hu⟩
 ·rename_i hw
  rw [if_neg hw] at h
  exact ⟨keep a hy _, by rw [← Act.put_comm a v undef h2]; exact h⟩
def r7 (ops : Array Oper) (L : Array Bool) : Prop :=
 ∀ j o, ops[j]? = some o → L.getD j false = true → ∀ e ∈ o.after, Region.binds .any e = true → L.getD e.on false = true
theorem r7.set {L : Array Bool} {j : Nat} (h : r7 ops L) (hj : j ∈ Region.ready .any ops L) : r7 ops (L.setIfInBounds j true) := by
 intro k o hk hL e he hb
 by_cases hkj : j = k
 ·subst hkj
  obtain ⟨_, o', ho', hall⟩ := mem_ready.1 hj
  rw [hk] at ho'; cases ho'
  exact getD_set_true (hall e he hb)
 ·rw [getD_set_ne false hkj] at hL
  exact getD_set_true (h k o hk hL e he hb)
theorem B7W {ro : Option Nat} {i : Nat} {oi : Oper} {v : Value} {S : World → Prop} {G Gi : Array Bool → World → Prop} {Q : Act → World → Prop} (hi : ops[i]? = some oi)
  (hsel : ∀ (j : Nat) (o : Oper) cs b, ops[j]? = some o → o.op ≠ .select cs b)
  (hG : ∀ L w, G (L.setIfInBounds i true) w → G L w) (hGi : ∀ L w, r7 ops L → L.getD i true = false → Gi (L.setIfInBounds i true) w → S w) :
  ∀ (fuel : Nat) (L : Array Bool) (a : Act) (w : World), r7 ops L →
   (∀ j oj, ops[j]? = some oj → j ≠ i → L.getD j true = false → (∀ e ∈ oj.after, Region.binds .any e = true → e.on ≠ i) → oi.apart ops oj = true) →
   i ∈ Region.ready .any ops L → s5 P ro ops oi v S a →
   T9 P X ro ops (fun L w => G L w ∧ Gi L w) Q fuel (L.setIfInBounds i true) (a.put oi.dst v) w → T9 P X ro ops G Q (fuel + 1) L a w := by
 have weak : ∀ (fuel : Nat) (L : Array Bool) (a : Act) (w : World), T9 P X ro ops (fun L w => G L w ∧ Gi L w) Q fuel L a w → T9 P X ro ops G Q fuel L a w := by
  intro fuel
  induction fuel with
  | zero => exact fun L a w h => ⟨h.1.1, h.2⟩
  | succ fuel ih => exact fun L a w h => ⟨h.1.1, h.2.1, fun j hj => (h.2.2 j hj).mono fun a w => ih _ a w⟩
 intro fuel
 induction fuel with
 | zero =>
  intro L a w hcl _ hr hy H
  refine ⟨hG _ _ H.g.1, fun h => (by rw [h] at hr; cases hr), fun j hj => ?_⟩
  by_cases hji : j = i
  ·subst hji; exact hy.opDo hi (hGi _ _ hcl (mem_ready.1 hr).1 H.g.2) (weak _ _ _ _ H)
  ·have := ready_mono hj hji
   rw [H.2.1] at this
   cases this
 | succ fuel ih =>
  intro L a w hcl hfree hr hy H
  refine ⟨hG _ _ H.g.1, fun h => (by rw [h] at hr; cases hr), fun j hj => ?_⟩
  by_cases hji : j = i
  ·subst hji; exact hy.opDo hi (hGi _ _ hcl (mem_ready.1 hr).1 H.g.2) (weak _ _ _ _ H)
  ·have h1 := H.2.2 j (ready_mono hj hji)
   obtain ⟨hjun, oj, hoj, hall⟩ := mem_ready.1 hj
   have hnot : ∀ e ∈ oj.after, Region.binds .any e = true → e.on ≠ i := fun e he hb heq => by
    have h1 := hall e he hb
    have h0 := (mem_ready.1 hr).1
    rw [heq] at h1
    rcases Nat.lt_or_ge i L.size with h' | h'
    ·simp [h'] at h0 h1; rw [h0] at h1; cases h1
    ·simp [Array.getElem?_eq_none h'] at h1
   have h2 := B8F hoj (hfree j oj hoj hji hjun hnot) (fun cs b => hsel i oi cs b hi) (fun cs b => hsel j oj cs b hoj) hy h1
   have hfree' : ∀ k ok, ops[k]? = some ok → k ≠ i → (L.setIfInBounds j true).getD k true = false →
     (∀ e ∈ ok.after, Region.binds .any e = true → e.on ≠ i) → oi.apart ops ok = true := fun k ok hk hki hun hno => by
    refine hfree k ok hk hki ?_ hno
    by_cases hjk : j = k
    ·subst hjk; exact hjun
    ·rw [getD_set_ne true hjk] at hun; exact hun
   refine h2.mono fun a' w' h3 => ih (L.setIfInBounds j true) a' w' (hcl.set hj) hfree' (ready_mono hr (Ne.symm hji)) h3.1 ?_
   rw [Array.setIfInBounds_comm _ _ hji]
   exact h3.2
end
end Go.Proofs.YtpbmephflllolaaGreat
