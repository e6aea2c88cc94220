/- The proof of a given statement, a part of it (Def ShBalancer Bal Bal2 Bal3 Bal4 Bal5 Rf24 Bal6 BalT Works24 Few24 ShL24BalancerDoes BDoesW). No condition but what each lemma says. -/
import Derived.Defers
import Derived.Test.YtpbmephflllolaaGreatA18
set_option linter.unusedVariables false
set_option linter.unusedSimpArgs false
namespace Go.Proofs.YtpbmephflllolaaGreat
open Go
def FnD (P : Program) (X : Nat → Prop) (f : FuncId) (args : Array Value) (w : World) (R : Value → WP) : Prop :=
 CallsD P f args .returning w fun e u' w' => ∃ v, e = .returned v ∧ u' = .returning ∧ R v w' ∧ Sk X w w'
def dfr (P : Program) (X : Nat → Prop) (g : Value) (A : WP) : WP :=
 match g with
 | .func (.func f) first cap => fun w => B0 P f ∧ FnD P X f (first.toList ++ cap.toList).toArray w fun _ => A
 | _ => F7
def isf (g : Value) (A : WP) : WP := fun w => (∃ f first cap, g = .func (.func f) first cap) ∧ A w
def A75 (o : Oper) : Option Operand :=
 match o.guard, o.dst with
 | none, none => match o.op with
  | .defer c => match c.callee, c.args.toList with
   | .value g, [] => some g
   | _, _ => none
  | _ => none
 | _, _ => none
def A4W : List Oper → Option (List Oper × Operand)
 | [] => none
 | o :: r => match r with
  | [] => match A75 o with | some g => some ([], g) | none => none
  | _ :: _ => match A4W r with | some (l, g) => some (o :: l, g) | none => none
def B6W : Code → Option (Array Oper × List Oper × Operand)
 | .region _ ops false => match A4W ops.toList with | some (l, g) => some (ops, l, g) | none => none
 | _ => none
def vcD (P : Program) (X : Nat → Prop) (n : Nat) (fn : E0 → WP) : Code → E0 → WP
 | .seq a b, e =>
  match B6W a with
  | some (ops, l, g) => B3N P X n ops l e fun e' => w1 (ev n e' g) fun gv => isf gv (vc P X n false b e' (fun e => dfr P X gv (fn e)) { exit := fun _ _ => F7, ret := fun e => dfr P X gv (fn e) })
  | none => vc P X n false a e (fun e' => vcD P X n fn b e') { exit := fun _ _ => F7, ret := fn }
 | _, _ => F7
def B0K (P : Program) (X : Nat → Prop) (fn : Func) (args : List Value) (R : Value → WP) : WP :=
 match fn.body with
 | none => F7
 | some c => match Nat.ble args.length fn.ntmps with
  | false => F7
  | true => match M9 c with
   | true => F7
   | false => vcD P X fn.ntmps (l2 P fn.ntmps fn.results.toList R) c (A2B 0 args)
theorem C54 {P : Program} {X : Nat → Prop} {n : Nat} {ro : Option Nat} {ops : Array Oper} {K : E0 → WP} : ∀ (l : List Oper) (i : Nat), (∀ j o, l[j]? = some o → ops[i + j]? = some o) → ∀ (e : E0) (a : Act) (w : World),
  e.Ok n a → B3N P X n ops l e K w → V8 P X ro ops (fun a w => ∃ e', E0.Ok n e' a ∧ K e' w) (List.range' i l.length) a w := by
 intro l
 induction l with
 | nil => intro i _ e a w hok h; exact ⟨e, hok, h⟩
 | cons o l ih =>
  intro i hi e a w hok h
  have ho : ops[i]? = some o := hi 0 o rfl
  have h2 : ∀ j o', l[j]? = some o' → ops[i + 1 + j]? = some o' := fun j o' hj => by
   have := hi (j + 1) o' (by simpa using hj)
   rw [show i + 1 + j = i + (j + 1) from by omega]; exact this
  simp only [List.length_cons, List.range'_succ, V8]
  unfold j0
  rw [ho]; simp only []
  rcases A1e hok h with ⟨hw, hy⟩ | ⟨hw, hn, _⟩
  ·rw [if_pos hw]
   exact (C5k hok hy).mono fun v w' hv => ih (i + 1) h2 _ _ _ (hok.put _ _) hv
  ·rw [if_neg (by simp [hw])]
   exact ih (i + 1) h2 _ _ _ (hok.put _ _) hn
theorem C0c {P : Program} {X : Nat → Prop} {b : Frame} {ops : Array Oper} {Q : Act → World → Prop} (rest : List Nat) (l : List Nat) : ∀ (a : Act) (w : World), V8 P X b.roundOf ops Q l a w → ∀ (k : List Item) (cs : List Frame),
  ∃ a' w', Q a' w' ∧ Sk X w w' ∧ a'.defers = a.defers ∧ Steps P (lone (b.atR a (.inRegion ops (l ++ rest) :: k)) cs w) (lone (b.atR a' (.inRegion ops rest :: k)) cs w') := by
 induction l with
 | nil => exact fun a w h k cs => ⟨a, w, h, Sk.refl _ _, rfl, Steps.refl _ _⟩
 | cons i l ih =>
  intro a w h k cs
  obtain ⟨a₁, w₁, hK, hs, hd, st⟩ := B7f (rest := l ++ rest) h k cs
  obtain ⟨a₂, w₂, hQ, hs₂, hd₂, st₂⟩ := ih a₁ w₁ hK k cs
  exact ⟨a₂, w₂, hQ, hs.trans hs₂, hd₂.trans hd, st.trans st₂⟩
theorem B8c : ∀ {L l : List Oper} {g : Operand}, A4W L = some (l, g) → ∃ o, L = l ++ [o] ∧ A75 o = some g := by
 intro L
 induction L with
 | nil => intro l g h; cases h
 | cons o r ih =>
  intro l g h
  cases r with
  | nil =>
   simp only [A4W] at h
   cases hd : A75 o with
   | none => rw [hd] at h; cases h
   | some g' => rw [hd] at h; cases h; exact ⟨o, rfl, hd⟩
  | cons o' r =>
   rw [A4W] at h
   cases hs : A4W (o' :: r) with
   | none => rw [hs] at h; cases h
   | some p =>
    obtain ⟨l', g'⟩ := p
    rw [hs] at h; cases h
    obtain ⟨o2, h1, h2⟩ := ih hs
    exact ⟨o2, by rw [h1]; rfl, h2⟩
theorem B9d {P : Program} {n : Nat} {b : Frame} {ops : Array Oper} {i : Nat} {o : Oper} {g : Operand} {f : FuncId} {first cap : Array Value} {e : E0} {a : Act} {w : World} (hb : b.roundOf = none)
  (ho : ops[i]? = some o) (hd : A75 o = some g) (hok : e.Ok n a) (hg : ev n e g = some (.func (.func f) first cap)) (k : List Item) (cs : List Frame) :
  Steps P (lone (b.atR a (.inRegion ops [i] :: k)) cs w) (lone (b.atR { a with defers := { target := .fn (.func f) cap, args := first ++ #[] } :: a.defers } k) cs w) := by
 obtain ⟨dst, op, type, pos, after, guard⟩ := o
 unfold A75 at hd
 cases guard <;> cases dst <;> simp only [reduceCtorEq] at hd
 cases op <;> simp only [reduceCtorEq] at hd
 rename_i c
 obtain ⟨callee, cargs, ctypes⟩ := c
 cases callee <;> simp only [reduceCtorEq] at hd
 rename_i f'
 have ha : cargs = #[] := by
  cases hc : cargs.toList with
  | nil => exact Array.toList_inj.1 (by simpa using hc)
  | cons x xs => rw [hc] at hd; cases hd
 subst ha
 simp only [Option.some.injEq] at hd
 subst hd
 have hgv := F6 hok hg
 have hgo := stepGR_op (P := P) (b := b) (a := a) (k := k) (cs := cs) (w := w) (rest := []) ho rfl
 have hr : (Oper.semAt b.roundOf a.eval ⟨none, .defer ⟨.value f', #[], ctypes⟩, type, pos, after, none⟩).run P w = .ok (.defer { target := .fn (.func f) cap, args := first ++ #[] }) w := by
  rw [hb, Oper.semAt_none]
  simp only [execOp, resolve, Array.map_empty, hgv, Deferred.ofValue]
  rfl
 refine .head (step_lone_go ?_) (.one (stepR_region_end (ops := ops)))
 rw [hgo]
 simp only [stepG.apply, Sem.runT_eq, hr]
 have hf := Frame.finish_atR b { a with defers := { target := .fn (.func f) cap, args := first ++ #[] } :: a.defers } ops i [] k undef
 rw [ho] at hf
 simp only [Option.bind_some, Act.put] at hf
 rw [← hf]
 rfl
def D11 (P : Program) (X : Nat → Prop) (n : Nat) (fn : E0 → WP) (a : Act) (w : World) : Prop :=
 ∃ e, E0.Ok n e a ∧ ((a.defers = [] ∧ fn e w) ∨ ∃ f first cap, a.defers = [{ target := .fn (.func f) cap, args := first ++ #[] }] ∧ dfr P X (.func (.func f) first cap) (fn e) w)
theorem C8A {P : Program} {X : Nat → Prop} {n : Nat} {b : Frame} {fn : E0 → WP} (hm : P.follows .mixedOrders = true) (hb : b.roundOf = none) (cs : List Frame) : ∀ (c : Code) (e : E0) (a : Act) (w : World),
  M9 c = false → e.Ok n a → a.defers = [] → vcD P X n fn c e w →
  ∃ a' w' k0, Steps P (lone (b.atR a [.code c]) cs w) (lone { b.atR a' k0 with mode := .returning } cs w') ∧ Sk X w w' ∧ D11 P X n fn a' w' := by
 intro c
 induction c with
 | seq x y _ ih =>
  intro e a w hr hok hd h
  simp only [M9, Bool.or_eq_false_iff] at hr
  simp only [vcD] at h
  cases hs : B6W x with
  | none =>
   rw [hs] at h; simp only [] at h
   obtain ⟨ex, a1, w1, ms, hq, hsk, hda, hmk, harr⟩ := B5y hm x X b false _ _ _ _ w trivial (fun _ => hb) hok h [.code y] cs
   cases ex with
   | nrm =>
    obtain ⟨⟨e1, hok1, hv⟩, hkp⟩ := hq
    have hd1 : a1.defers = [] := by rw [hkp.2 hr.1, hd]
    obtain ⟨a', w', k0, hst, hsk2, hend⟩ := ih e1 a1 w1 hr.2 hok1 hd1 hv
    exact ⟨a', w', k0, .head stepR_seq (Steps.trans harr hst), hsk.trans hsk2, hend⟩
   | ret =>
    obtain ⟨⟨e1, hok1, hv⟩, hkp⟩ := hq
    have hd1 : a1.defers = [] := by rw [hkp.2 hr.1, hd]
    obtain ⟨k0, hs0⟩ := harr
    exact ⟨a1, w1, _, .head stepR_seq (Steps.trans hs0 (.one (stepR_ret hb))), hsk, e1, hok1, .inl ⟨hd1, hv⟩⟩
   | exit i => obtain ⟨⟨_, _, hv⟩, _⟩ := hq; exact hv.elim
   | goto l => exact hq.1.elim
  | some t =>
   obtain ⟨ops, l, g⟩ := t
   rw [hs] at h; simp only [] at h
   cases x with
   | region id ops' draw =>
    cases draw with
    | true => cases hs
    | false =>
     simp only [B6W] at hs
     cases hsp : A4W ops'.toList with
     | none => rw [hsp] at hs; cases hs
     | some q =>
      obtain ⟨l', g'⟩ := q
      rw [hsp] at hs; cases hs
      obtain ⟨o, hL, hdc⟩ := B8c hsp
      have hsz : ops.size = l.length + 1 := by rw [← Array.length_toList, hL]; simp
      have hg0 : ∀ j : Nat, ops[j]? = (l ++ [o])[j]? := fun j => by rw [← hL]; simp
      have hreg := C54 (P := P) (X := X) (ro := b.roundOf) (ops := ops) l 0 (fun j o' hj => by
       rw [Nat.zero_add, hg0, List.getElem?_append_left (List.getElem?_eq_some_iff.1 hj).1]; exact hj) e a w hok h
      have hrange : List.range ops.size = List.range' 0 l.length ++ [l.length] := by
       rw [hsz, List.range_succ, List.range_eq_range']
      obtain ⟨a1, w1, ⟨e1, hok1, hv⟩, hsk, hda, hst⟩ := C0c (b := b) [l.length] (List.range' 0 l.length) a w hreg [.code y] cs
      obtain ⟨gv, hgv, hv⟩ := L8 hv
      rw [← hrange] at hst
      have hst0 : Steps P (lone (b.atR a [.code (.seq (.region id ops false) y)]) cs w) (lone (b.atR a1 [.inRegion ops [l.length], .code y]) cs w1) := .head stepR_seq (.head stepR_region hst)
      -- the value is a function's
      have hlast : ops[l.length]? = some o := by rw [hg0]; simp
      have hd1 : a1.defers = [] := by rw [hda, hd]
      -- on
      obtain ⟨⟨f, first, cap, rfl⟩, hv⟩ := hv
      have hds := B9d (P := P) (b := b) (w := w1) hb hlast hdc hok1 hgv [.code y] cs
      have hok2 : E0.Ok n e1 { a1 with defers := { target := .fn (.func f) cap, args := first ++ #[] } :: a1.defers } := hok1
      obtain ⟨ex, a2, w2, ms, hq, hsk2, hda2, hmk, harr⟩ := B5y hm y X b false _ _ _ _ w1 trivial (fun _ => hb) hok2 hv [] cs
      have fd : V1 y { a1 with defers := { target := .fn (.func f) cap, args := first ++ #[] } :: a1.defers } a2 → a2.defers = [{ target := .fn (.func f) cap, args := first ++ #[] }] := fun hkp => (hkp.2 hr.2).trans (congrArg (List.cons _) hd1)
      cases ex with
      | nrm =>
       obtain ⟨⟨e2, hok2, hv2⟩, hkp⟩ := hq
       exact ⟨a2, w2, [], (hst0.trans hds).trans (Steps.trans harr (.one (stepR_end hb))), hsk.trans hsk2, e2, hok2, .inr ⟨f, first, cap, fd hkp, hv2⟩⟩
      | ret =>
       obtain ⟨⟨e2, hok2, hv2⟩, hkp⟩ := hq
       obtain ⟨k0, hs0⟩ := harr
       exact ⟨a2, w2, _, (hst0.trans hds).trans (Steps.trans hs0 (.one (stepR_ret hb))), hsk.trans hsk2, e2, hok2, .inr ⟨f, first, cap, fd hkp, hv2⟩⟩
      | exit i => obtain ⟨⟨_, _, hv⟩, _⟩ := hq; exact hv.elim
      | goto l => exact hq.1.elim
   | _ => cases hs
 | _ => intro e a w _ _ _ h; exact h.elim
theorem A98 {P : Program} {X : Nat → Prop} {f : FuncId} {fn : Func} {args : List Value} {R : Value → WP} {w : World} (hm : P.follows .mixedOrders = true) (hf : P.funcs[f]? = some fn)
  (h : B0K P X fn args R w) : Fn P X f args.toArray w R := by
 unfold B0K at h
 cases hbody : fn.body with
 | none => rw [hbody] at h; exact h.elim
 | some c =>
  rw [hbody] at h; simp only [] at h
  cases hle : Nat.ble args.length fn.ntmps with
  | false => rw [hle] at h; exact h.elim
  | true =>
   rw [hle] at h; simp only [] at h
   have hle' : args.length ≤ fn.ntmps := by simpa using hle
   cases hr : M9 c with
   | true => rw [hr] at h; exact h.elim
   | false =>
    rw [hr] at h; simp only [] at h
    intro cs
    let b : Frame := { (default : Frame) with fn := f, kind := .normal }
    have henter : Frame.enter P f args.toArray .normal = b.atR { tmps := args.toArray ++ Array.replicate (fn.ntmps - args.toArray.size) undef, defers := [] } [.code c] := by
     simp [Frame.enter, Frame.atR, hf, hbody, b]
     rfl
    have hok : E0.Ok fn.ntmps (A2B 0 args) { tmps := args.toArray ++ Array.replicate (fn.ntmps - args.toArray.size) undef, defers := [] } := by
     refine ⟨by simp; omega, fun t v ht hg => ?_⟩
     obtain ⟨_, h2⟩ := B2P args 0 t v hg
     simp only [Nat.sub_zero] at h2
     have hlt : t < args.length := (List.getElem?_eq_some_iff.1 h2).1
     simp only []
     rw [Array.getElem?_append_left (by simpa using hlt)]
     simpa using h2
    obtain ⟨a', w', k0, hst, hsk, e', hok', hend⟩ := C8A (b := b) hm rfl cs c _ _ w hr hok rfl h
    rw [← henter] at hst
    rcases hend with ⟨hd, hfin⟩ | ⟨g, first, cap, hd, hdf⟩
    ·obtain ⟨v, hv, hR⟩ := A7j hok' hfin
     exact ⟨.returned v, w', { b.atR a' k0 with mode := .returning }, ⟨v, rfl, hR, hsk⟩, hst, rfl, rfl, hd, rfl, fn, hf, hv⟩
    ·obtain ⟨hent, hcd⟩ := hdf
     have hl : Leaves P fn a'.tmps (fun e w'' => ∃ v, e = .returned v ∧ R v w'' ∧ Sk X w w'') a'.defers .returning w' := by
      rw [hd]
      refine leaves_cons (by simp) (hent _ w') ?_
      have hcd' := hcd
      rw [show (first.toList ++ cap.toList).toArray = (first ++ #[]) ++ cap from by simp] at hcd'
      refine CallsD.mono hcd' ?_
      rintro e u' w'' ⟨v, rfl, rfl, hf2, hsk2⟩
      obtain ⟨v', hv', hR'⟩ := A7j hok' hf2
      exact ⟨v', hv', v', rfl, hR', hsk.trans hsk2⟩
     obtain ⟨e2, w2, fr, hR, hs2, hfn2, hl2⟩ := leaves_steps a'.defers .returning w' { b.atR a' k0 with mode := .returning } cs rfl rfl rfl hf rfl hl
     exact ⟨e2, w2, fr, hR, Comes.of_steps hst hs2, hfn2, hl2⟩
theorem C2z {P : Program} {X : Nat → Prop} {f : FuncId} {fn : Func} {args : List Value} {R : Value → WP} {w : World} (hm : P.follows .mixedOrders = true) (hf : P.funcs[f]? = some fn)
  (h : B0q P X fn args R w) : FnD P X f args.toArray w R := by
 unfold B0q at h
 cases hbody : fn.body with
 | none => rw [hbody] at h; exact h.elim
 | some c =>
  rw [hbody] at h; simp only [] at h
  cases hle : Nat.ble args.length fn.ntmps with
  | false => rw [hle] at h; exact h.elim
  | true =>
   rw [hle] at h; simp only [] at h
   have hle' : args.length ≤ fn.ntmps := by simpa using hle
   intro c0 cs0 hc0
   have hc : ({ c0 with mode := .returning } : Frame) = c0 := by rw [← hc0]
   let cs := c0 :: cs0
   let b : Frame := { (default : Frame) with fn := f, kind := .deferred }
   have henter : Frame.enter P f args.toArray .deferred = b.atR { tmps := args.toArray ++ Array.replicate (fn.ntmps - args.toArray.size) undef, defers := [] } [.code c] := by
    simp [Frame.enter, Frame.atR, hf, hbody, b]
    rfl
   have hok : E0.Ok fn.ntmps (A2B 0 args) { tmps := args.toArray ++ Array.replicate (fn.ntmps - args.toArray.size) undef, defers := [] } := by
    refine ⟨by simp; omega, fun t v ht hg => ?_⟩
    obtain ⟨_, h2⟩ := B2P args 0 t v hg
    simp only [Nat.sub_zero] at h2
    have hlt : t < args.length := (List.getElem?_eq_some_iff.1 h2).1
    simp only []
    rw [Array.getElem?_append_left (by simpa using hlt)]
    simpa using h2
   have ending : ∀ (a' : Act) (w' : World) (ms : List Deferred) (k0 : List Item), a'.defers = ms ++ [] → U8 w.heap.size w' ms → Sk X w w' →
     (∃ e', E0.Ok fn.ntmps e' a' ∧ ((ms = [] ∧ l2 P fn.ntmps fn.results.toList R e' w') ∨ ∀ w'', a6 w' w'' → l2 P fn.ntmps fn.results.toList R e' w'')) →
     ∀ (m : Machine), Steps P m (lone { b.atR a' k0 with mode := .returning } cs w') →
     ∃ e w'' fr, (∃ v, e = .returned v ∧ R v w'' ∧ Sk X w w'') ∧ Comes P m (lone fr cs w'') e ∧ fr.kind = .deferred ∧ fr.going P w'' e := by
    intro a' w' ms k0 hd hmk hsk ⟨e', hok', hfin⟩ m hs
    rcases hfin with ⟨hms, hfin⟩ | hfin
    ·subst hms
     obtain ⟨v, hv, hR⟩ := A7j hok' hfin
     exact ⟨.returned v, w', { b.atR a' k0 with mode := .returning }, ⟨v, rfl, hR, hsk⟩, hs, rfl, rfl, hd, fn, hf, hv⟩
    obtain ⟨w'', hdq, hst, hlow, hcalm⟩ := B0c (P := P) ms { b.atR a' k0 with mode := .returning } cs w' rfl (by simpa [Frame.atR] using hd) hmk
    obtain ⟨v, hv, hR⟩ := A7j hok' (hfin w'' hdq)
    refine ⟨.returned v, w'', { { b.atR a' k0 with mode := .returning } with defers := [] }, ⟨v, rfl, hR, ?_⟩, hs.trans hst, rfl, rfl, rfl, fn, hf, hv⟩
    refine ⟨by rw [hdq.1]; exact hsk.1, fun r d hr => ?_, fun r lo hx hr => ?_, hsk.2.2.2.trans hcalm⟩
    ·rw [hlow r (Array.getElem?_eq_some_iff.1 hr).1]; exact hsk.2.1 r d hr
    ·rw [hlow r (Array.getElem?_eq_some_iff.1 hr).1]; exact hsk.2.2.1 r lo hx hr
   have go : ∀ (k : E0 → WP) (ex : Nat → E0 → WP), (∀ i e, ex i e = F7) → vc P X fn.ntmps false c (A2B 0 args) k { exit := ex, ret := k } w →
     (∀ e a' w' ms, V1 c { tmps := args.toArray ++ Array.replicate (fn.ntmps - args.toArray.size) undef, defers := [] } a' → a'.defers = ms ++ [] → E0.Ok fn.ntmps e a' → k e w' →
      (ms = [] ∧ l2 P fn.ntmps fn.results.toList R e w') ∨ ∀ w'', a6 w' w'' → l2 P fn.ntmps fn.results.toList R e w'') →
     ∃ e w'' fr, (∃ v, e = .returned v ∧ R v w'' ∧ Sk X w w'') ∧ Comes P (lone (Frame.enter P f args.toArray .deferred) cs w) (lone fr cs w'') e ∧ fr.kind = .deferred ∧ fr.going P w'' e := by
    intro k ex hex hvc hk
    obtain ⟨e, a', w', ms, hq, hsk, hd, hmk, harr⟩ := B5y hm c X b false _ _ _ _ w trivial (fun _ => rfl) hok hvc [] cs
    rw [← henter] at harr
    cases e with
    | nrm =>
     obtain ⟨⟨e', hok', hke⟩, hkp⟩ := hq
     exact ending a' w' ms [] hd hmk hsk ⟨e', hok', hk e' a' w' ms hkp hd hok' hke⟩ _ (Steps.trans harr (.one (stepR_end rfl)))
    | ret =>
     obtain ⟨⟨e', hok', hke⟩, hkp⟩ := hq
     obtain ⟨k0, hs0⟩ := harr
     exact ending a' w' ms _ hd hmk hsk ⟨e', hok', hk e' a' w' ms hkp hd hok' hke⟩ _ (Steps.trans hs0 (.one (stepR_ret rfl)))
    | exit i => obtain ⟨⟨e', _, hke⟩, _⟩ := hq; simp only [hex] at hke; exact hke.elim
    | goto l => exact hq.1.elim
   have done : (∃ e w'' fr, (∃ v, e = .returned v ∧ R v w'' ∧ Sk X w w'') ∧ Comes P (lone (Frame.enter P f args.toArray .deferred) cs w) (lone fr cs w'') e ∧ fr.kind = .deferred ∧ fr.going P w'' e) →
     ∃ e u' w' fr, (∃ v, e = .returned v ∧ u' = FrameMode.returning ∧ R v w' ∧ Sk X w w') ∧
      Comes P (lone (Frame.enter P f args.toArray .deferred) (c0 :: cs0) w) (lone fr ({ c0 with mode := u' } :: cs0) w') e ∧ fr.kind = .deferred ∧ fr.going P w' e := by
    rintro ⟨e, w'', fr, ⟨v, rfl, hR, hsk⟩, hcm, hk, hg⟩
    exact ⟨.returned v, .returning, w'', fr, ⟨v, rfl, rfl, hR, hsk⟩, (by rw [hc]; exact hcm), hk, hg⟩
   cases hr : M9 c with
   | true =>
    rw [hr] at h
    exact done (go _ _ (fun _ _ => rfl) h fun e a' w' ms _ _ _ hke => .inr hke)
   | false =>
    rw [hr] at h
    refine done (go _ _ (fun _ _ => rfl) h fun e a' w' ms hkp hd _ hke => .inl ⟨?_, hke⟩)
    have := hkp.2 hr
    rw [hd] at this
    simpa using this
end Go.Proofs.YtpbmephflllolaaGreat
namespace Go.Proofs.YtpbmephflllolaaGreat
open Go
def A55 (X : Nat → Prop) (t0 : Value) (R : Value → WP) : WP :=
 B2 PR X (Instr.box 23 t0) fun t1 =>
 jn (n := 2) (fun t2 t3 =>
 A6 PR (Instr.loadAt 23 t1) fun t11 =>
 A0 PR (Instr.build 88 #[(0, t11)]) fun t12 =>
 B2 PR X (Instr.box 88 t12) fun t13 =>
 A0 PR (G9 t13) fun t15 =>
 A0 PR (Instr.fieldAt 88 t15 1) fun t16 =>
 A0 PR (Instr.build 92 #[]) fun t17 =>
 B2 PR X (Instr.box 92 t17) fun t18 =>
 B1 PR X 36 [t16, t18] fun t19 =>
 jn (n := 1) (fun t22 =>
 R (.tuple #[t13, (.int .i64 0)])) fun J1 =>
 A0 PR (Instr.fieldAt 23 t1 1) fun t20 =>
 A6 PR (Instr.loadAt 3 t20) fun t21 =>
 lp (n := 1) (fun L2 t22_1 =>
 A0 PR (binOp .lss 3 t22_1 t21) fun t23 =>
 jn (n := 0) (
 jn (n := 0) (
 A0 PR (binOp .add 3 t22_1 (.int .i64 1)) fun t38 =>
 L2 t38) fun J3 =>
 drw <|
 A0 PR (G9 t13) fun t26 =>
 A0 PR (Instr.fieldAt 88 t26 2) fun t27 =>
 A6 PR (Instr.loadAt 86 t27) fun t28 =>
 A0 PR (Instr.fieldAt 23 t1 2) fun t29 =>
 A6 PR (Instr.loadAt 3 t29) fun t30 =>
 B1 PR X 37 [t30] fun t31 =>
 watch PR [(none, (Instr.loadAt 86 t27), t28)] <|
 A0 PR (Instr.build 103 #[(1, t31)]) fun t32 =>
 B2 PR X (Instr.box 103 t32) fun t33 =>
 watch PR [(none, (Instr.loadAt 86 t27), t28)] <|
 B2 PR X (Instr.buildSlice 86 1 #[(0, t33)]) fun t34 =>
 watch PR [(none, (Instr.loadAt 86 t27), t28)] <|
 B2 PR X (A7 .append #[86, 86] 86 [t28, t34]) fun t35 =>
 A0 PR (G9 t13) fun t36 =>
 A0 PR (Instr.fieldAt 88 t36 2) fun t37 =>
 B6 PR X (Instr.storeAt 86 t37 t35) <|
 J3) fun J4 =>
 B5 t23 (
 J4) (
 J1 t22_1)) (.int .i64 0)) fun J5 =>
 A6 PR (Instr.loadAt 23 t1) fun t6 =>
 B1 PR X 35 [t6] fun t7 =>
 A0 PR (binOp .neq 28 t7 (.int .i64 0)) fun t9 =>
 B5 t9 (
 R (.tuple #[(.pointer none), t7])) (
 J5 (.pointer none) (.int .i64 0))
theorem B15 : B0 PR 10 := A8 Tryz.func10 (by kernel_rfl) rfl
theorem B2w {X : Nat → Prop} {t0 : Value} {R : Value → WP} {w : World} (h : A55 X t0 R w) : Fn PR X 10 #[t0] w R := C6 (args := [t0]) mixed Tryz.func10 (by kernel_rfl) h
def A0k (X : Nat → Prop) (t0 t1 t2 : Value) (R : Value → WP) : WP :=
 B2 PR X (Instr.box 42 t1) fun t4 =>
 B2 PR X (Instr.alloc 39 true (.tuple #[])) fun t6 =>
 jn (n := 0) (
 A0 PR (Instr.build 39 #[(0, (.int .i64 1))]) fun t33 =>
 B6 PR X (Instr.storeAt 39 t6 t33) <|
 A6 PR (D5 [.c 39 t6]) R) fun J1 =>
 A0 PR (Instr.fieldAt 42 t4 0) fun t7 =>
 A6 PR (Instr.loadAt 3 t7) fun t8 =>
 A0 PR (binOp .eql 3 t8 (.int .i64 0)) fun t10 =>
 B5 t10 (
 A0 PR (Instr.fieldAt 42 t4 1) fun t12 =>
 A6 PR (Instr.loadAt 9 t12) fun t13 =>
 B1 PR X 24 [t0, t13, t2] fun t15 =>
 B6 PR X (Instr.storeAt 39 t6 t15) <|
 A6 PR (D5 [.c 39 t6]) R) (
 A0 PR (binOp .eql 3 t8 (.int .i64 1)) fun t17 =>
 B5 t17 (
 A0 PR (Instr.fieldAt 42 t4 2) fun t19 =>
 A6 PR (Instr.loadAt 32 t19) fun t20 =>
 B1 PR X 26 [t0, t20] fun t21 =>
 B6 PR X (Instr.storeAt 39 t6 t21) <|
 A6 PR (D5 [.c 39 t6]) R) (
 A0 PR (binOp .eql 3 t8 (.int .i64 2)) fun t23 =>
 B5 t23 (
 A0 PR (Instr.fieldAt 42 t4 3) fun t25 =>
 A6 PR (Instr.loadAt 3 t25) fun t26 =>
 B1 PR X 27 [t0, t26, t2] fun t28 =>
 B6 PR X (Instr.storeAt 39 t6 t28) <|
 A6 PR (D5 [.c 39 t6]) R) (
 A0 PR (binOp .eql 3 t8 (.int .i64 3)) fun t30 =>
 B5 t30 (
 B1 PR X 20 [t0] fun t32 =>
 B6 PR X (Instr.storeAt 39 t6 t32) <|
 A6 PR (D5 [.c 39 t6]) R) (
 J1))))
theorem A5E : B0 PR 13 := A8 Tryz.func13 (by kernel_rfl) rfl
theorem A5f {X : Nat → Prop} {t0 t1 t2 : Value} {R : Value → WP} {w : World} (h : A0k X t0 t1 t2 R w) : Fn PR X 13 #[t0, t1, t2] w R := C6 (args := [t0, t1, t2]) mixed Tryz.func13 (by kernel_rfl) h
def Z8 (X : Nat → Prop) (t0 : Value) (R : Value → WP) : WP :=
 A0 PR (G9 t0) fun t7 =>
 A0 PR (Instr.fieldAt 88 t7 2) fun t8 =>
 A6 PR (Instr.loadAt 86 t8) fun t9 =>
 B1 PR X 46 [t9] fun t10 =>
 isf t10 (
 jn (n := 2) (fun t3 t16 =>
 dfr PR X t10 (R t3)) fun J1 =>
 A0 PR (G9 t0) fun t12 =>
 A0 PR (Instr.fieldAt 88 t12 2) fun t13 =>
 A6 PR (Instr.loadAt 86 t13) fun t14 =>
 A0 PR (A7 .len #[86] 0 [t14]) fun t15 =>
 lp (n := 2) (fun L2 t3_1 t16_1 =>
 A0 PR (binOp .lss 3 t16_1 t15) fun t17 =>
 jn (n := 0) (
 jn (n := 1) (fun t3_2 =>
 A0 PR (binOp .add 3 t16_1 (.int .i64 1)) fun t27 =>
 L2 t3_2 t27) fun J3 =>
 A0 PR (Instr.indexAt 86 t14 t16_1) fun t18 =>
 A6 PR (Instr.loadAt 93 t18) fun t19 =>
 A0 PR (G9 t19) fun t22 =>
 A0 PR (Instr.fieldAt 103 t22 1) fun t23 =>
 A6 PR (Instr.loadAt 94 t23) fun t24 =>
 B1 PR X 47 [t24] fun t25 =>
 B2 PR X (A7 .append #[48, 48] 48 [t3_1, t25]) fun t26 =>
 J3 t26) fun J4 =>
 B5 t17 (
 J4) (
 J1 t3_1 t16_1)) (.slice none 0 0) (.int .i64 0))
theorem A2u (X : Nat → Prop) (t0 : Value) (R : Value → WP) : B0K PR X Tryz.f16 [t0] R = Z8 X t0 R := by kernel_rfl
theorem s8 : B0 PR 16 := A8 Tryz.func16 (by kernel_rfl) rfl
theorem A4A {X : Nat → Prop} {t0 : Value} {R : Value → WP} {w : World} (h : Z8 X t0 R w) : Fn PR X 16 #[t0] w R := A98 (args := [t0]) mixed Tryz.func16 (by rw [A2u]; exact h)
def x3 (X : Nat → Prop) (t0 : Value) (R : Value → WP) : WP :=
 A0 PR (G9 t0) fun t4 =>
 A0 PR (Instr.fieldAt 88 t4 1) fun t5 =>
 B1 PR X 50 [t5] fun t6 =>
 A0 PR (G9 t6) fun t7 =>
 A0 PR (Instr.fieldAt 92 t7 0) fun t8 =>
 A6 PR (Instr.loadAt 32 t8) fun t9 =>
 B1 PR X 49 [t9] fun t10 =>
 R t10
theorem A3e : B0 PR 19 := A8 Tryz.func19 (by kernel_rfl) rfl
theorem A34 {X : Nat → Prop} {t0 : Value} {R : Value → WP} {w : World} (h : x3 X t0 R w) : Fn PR X 19 #[t0] w R := C6 (args := [t0]) mixed Tryz.func19 (by kernel_rfl) h
def u3 (X : Nat → Prop) (t0 : Value) (R : Value → WP) : WP :=
 B2 PR X (Instr.alloc 39 true (.tuple #[])) fun t2 =>
 B1 PR X 16 [t0] fun t4 =>
 A0 PR (A7 .len #[48] 0 [t4]) fun t5 =>
 A0 PR (Instr.build 39 #[(3, t5)]) fun t6 =>
 B6 PR X (Instr.storeAt 39 t2 t6) <|
 A6 PR (D5 [.c 39 t2]) R
theorem q7 : B0 PR 20 := A8 Tryz.func20 (by kernel_rfl) rfl
theorem A3d {X : Nat → Prop} {t0 : Value} {R : Value → WP} {w : World} (h : u3 X t0 R w) : Fn PR X 20 #[t0] w R := C6 (args := [t0]) mixed Tryz.func20 (by kernel_rfl) h
def U6 (X : Nat → Prop) (t0 t1 t2 : Value) (R : Value → WP) : WP :=
 B2 PR X (Instr.alloc 39 true (.tuple #[])) fun t6 =>
 B1 PR X 56 [t1] fun t14 =>
 A0 PR (Instr.extract t14 0) fun t15 =>
 A0 PR (Instr.extract t14 1) fun t16 =>
 B2 PR X (Instr.alloc 58 true (.tuple #[])) fun t7 =>
 B6 PR X (Instr.storeAt 58 t7 t15) <|
 A0 PR (binOp .neq 28 t16 (.int .i64 0)) fun t18 =>
 B5 t18 (
 A0 PR (Instr.build 39 #[(0, (.int .i64 9))]) fun t19 =>
 B6 PR X (Instr.storeAt 39 t6 t19) <|
 A6 PR (D5 [.c 39 t6]) R) (
 A0 PR (Instr.fieldAt 58 t7 0) fun t21 =>
 A6 PR (Instr.loadAt 56 t21) fun t22 =>
 B1 PR X 23 [t22] fun t23 =>
 A0 PR (Instr.extract t23 0) fun t24 =>
 A0 PR (Instr.extract t23 1) fun t25 =>
 drw <|
 A0 PR (G9 t0) fun t27 =>
 A0 PR (Instr.fieldAt 88 t27 2) fun t28 =>
 A6 PR (Instr.loadAt 86 t28) fun t29 =>
 A0 PR (G9 t0) fun t32 =>
 A0 PR (Instr.fieldAt 88 t32 2) fun t33 =>
 A6 PR (Instr.loadAt 86 t33) fun t34 =>
 A0 PR (A7 .len #[86] 0 [t34]) fun t35 =>
 B1 PR X 57 [t24, t35] fun t36 =>
 watch PR [(none, (Instr.loadAt 86 t28), t29)] <|
 A0 PR (Instr.indexAt 86 t29 t36) fun t37 =>
 A6 PR (Instr.loadAt 93 t37) fun t38 =>
 B2 PR X (Instr.buildSlice 86 1 #[(0, t38)]) fun t40 =>
 B1 PR X 46 [t40] fun t41 =>
 isf t41 (
 drw <|
 A0 PR (G9 t0) fun t44 =>
 A0 PR (Instr.fieldAt 88 t44 1) fun t45 =>
 A6 PR (Instr.loadAt 58 t7) fun t48 =>
 A0 PR (G9 t0) fun t52 =>
 A0 PR (Instr.fieldAt 88 t52 0) fun t53 =>
 A0 PR (Instr.fieldAt 23 t53 3) fun t54 =>
 A6 PR (Instr.loadAt 3 t54) fun t55 =>
 B1 PR X 50 [t45] fun t46 =>
 watch PR [(none, (Instr.loadAt 3 t54), t55), (none, (Instr.loadAt 58 t7), t48)] <|
 B1 PR X 22 [t48] fun t49 =>
 watch PR [(none, (Instr.loadAt 3 t54), t55)] <|
 B1 PR X 58 [t38, t46, t24, t49, t2, t55] fun t56 =>
 B6 PR X (Instr.storeAt 39 t6 t56) <|
 dfr PR X t41 (A6 PR (D5 [.c 39 t6]) R)))
theorem A1d (X : Nat → Prop) (t0 t1 t2 : Value) (R : Value → WP) : B0K PR X Tryz.f24 [t0, t1, t2] R = U6 X t0 t1 t2 R := by kernel_rfl
theorem j9 : B0 PR 24 := A8 Tryz.func24 (by kernel_rfl) rfl
theorem A2c {X : Nat → Prop} {t0 t1 t2 : Value} {R : Value → WP} {w : World} (h : U6 X t0 t1 t2 R w) : Fn PR X 24 #[t0, t1, t2] w R := A98 (args := [t0, t1, t2]) mixed Tryz.func24 (by rw [A1d]; exact h)
def p8 (X : Nat → Prop) (t0 t1 : Value) (R : Value → WP) : WP :=
 B2 PR X (Instr.alloc 39 true (.tuple #[])) fun t4 =>
 jn (n := 0) (
 drw <|
 A0 PR (G9 t0) fun t13 =>
 A0 PR (Instr.fieldAt 88 t13 1) fun t14 =>
 B1 PR X 49 [t1] fun t16 =>
 B1 PR X 59 [t1] fun t18 =>
 A0 PR (Instr.build 92 #[(0, t16), (1, t18)]) fun t19 =>
 B2 PR X (Instr.box 92 t19) fun t20 =>
 B1 PR X 36 [t14, t20] fun t21 =>
 A0 PR (Instr.build 39 #[]) fun t22 =>
 B6 PR X (Instr.storeAt 39 t4 t22) <|
 A6 PR (D5 [.c 39 t4]) R) fun J1 =>
 B1 PR X 32 [t1] fun t7 =>
 A0 PR (binOp .neq 28 t7 (.int .i64 0)) fun t9 =>
 B5 t9 (
 A0 PR (Instr.build 39 #[(0, t7)]) fun t11 =>
 B6 PR X (Instr.storeAt 39 t4 t11) <|
 A6 PR (D5 [.c 39 t4]) R) (
 J1)
theorem n0 : B0 PR 26 := A8 Tryz.func26 (by kernel_rfl) rfl
theorem A3a {X : Nat → Prop} {t0 t1 : Value} {R : Value → WP} {w : World} (h : p8 X t0 t1 R w) : Fn PR X 26 #[t0, t1] w R := C6 (args := [t0, t1]) mixed Tryz.func26 (by kernel_rfl) h
def W2 (X : Nat → Prop) (t0 t1 t2 : Value) (R : Value → WP) : WP :=
 B2 PR X (Instr.alloc 39 true (.tuple #[])) fun t6 =>
 A0 PR (binOp .lss 3 t1 (.int .i64 0)) fun t10 =>
 gj t10 false (fun J => J t1) fun t12 =>
 gj t10 false (fun J => J t0) fun t13 =>
 gj t10 false (fun J => A0 PR (G9 t13) J) fun t14 =>
 gj t10 false (fun J => A0 PR (Instr.fieldAt 88 t14 2) J) fun t15 =>
 gj t10 false (fun J => A6 PR (Instr.loadAt 86 t15) J) fun t16 =>
 gj t10 false (fun J => A0 PR (A7 .len #[86] 0 [t16]) J) fun t17 =>
 gj t10 false (fun J => A0 PR (binOp .geq 3 t12 t17) J) fun t18 =>
 A0 PR (do pure (if ← asBool t10 then (.bool true) else t18)) fun t19 =>
 B5 t19 (
 A0 PR (Instr.build 39 #[(0, (.int .i64 1))]) fun t20 =>
 B6 PR X (Instr.storeAt 39 t6 t20) <|
 A6 PR (D5 [.c 39 t6]) R) (
 A0 PR (G9 t0) fun t22 =>
 A0 PR (Instr.fieldAt 88 t22 2) fun t23 =>
 A6 PR (Instr.loadAt 86 t23) fun t24 =>
 A0 PR (Instr.indexAt 86 t24 t1) fun t26 =>
 A6 PR (Instr.loadAt 93 t26) fun t27 =>
 B2 PR X (Instr.buildSlice 86 1 #[(0, t27)]) fun t29 =>
 B1 PR X 46 [t29] fun t30 =>
 isf t30 (
 B2 PR X (Instr.alloc 39 true (.tuple #[])) fun t8 =>
 drw <|
 A0 PR (G9 t27) fun t35 =>
 A0 PR (Instr.fieldAt 103 t35 1) fun t36 =>
 A6 PR (Instr.loadAt 94 t36) fun t37 =>
 A0 PR (G9 t27) fun t39 =>
 A0 PR (Instr.fieldAt 103 t39 2) fun t40 =>
 A6 PR (Instr.loadAt 3 t40) fun t41 =>
 B1 PR X 60 [t37, t41, (.int .i64 4), t2] fun t43 =>
 A0 PR (Instr.extract t43 0) fun t44 =>
 A0 PR (Instr.extract t43 1) fun t45 =>
 A0 PR (Instr.extract t43 2) fun t46 =>
 A0 PR (G9 t27) fun t47 =>
 A0 PR (Instr.fieldAt 103 t47 1) fun t48 =>
 B6 PR X (Instr.storeAt 94 t48 t44) <|
 A0 PR (G9 t27) fun t49 =>
 A0 PR (Instr.fieldAt 103 t49 2) fun t50 =>
 B6 PR X (Instr.storeAt 3 t50 t45) <|
 A0 PR (Instr.fieldAt 39 t8 3) fun t51 =>
 B6 PR X (Instr.storeAt 3 t51 t46) <|
 A6 PR (Instr.loadAt 39 t8) fun t52 =>
 B6 PR X (Instr.storeAt 39 t6 t52) <|
 dfr PR X t30 (A6 PR (D5 [.c 39 t6]) R)))
theorem A2V (X : Nat → Prop) (t0 t1 t2 : Value) (R : Value → WP) : B0K PR X Tryz.f27 [t0, t1, t2] R = W2 X t0 t1 t2 R := by kernel_rfl
theorem n4 : B0 PR 27 := A8 Tryz.func27 (by kernel_rfl) rfl
theorem A3H {X : Nat → Prop} {t0 t1 t2 : Value} {R : Value → WP} {w : World} (h : W2 X t0 t1 t2 R w) : Fn PR X 27 #[t0, t1, t2] w R := A98 (args := [t0, t1, t2]) mixed Tryz.func27 (by rw [A2V]; exact h)
def A3D (X : Nat → Prop) (t0 : Value) (R : Value → WP) : WP :=
 B2 PR X (Instr.box 86 t0) fun t1 =>
 jn (n := 1) (fun t7 =>
 A0 PR (Instr.makeFunc (.func 87) #[] #[t1]) fun t16 =>
 R t16) fun J1 =>
 A6 PR (Instr.loadAt 86 t1) fun t5 =>
 A0 PR (A7 .len #[86] 0 [t5]) fun t6 =>
 lp (n := 1) (fun L2 t7_1 =>
 A0 PR (binOp .lss 3 t7_1 t6) fun t8 =>
 jn (n := 0) (
 jn (n := 0) (
 A0 PR (binOp .add 3 t7_1 (.int .i64 1)) fun t15 =>
 L2 t15) fun J3 =>
 A0 PR (Instr.indexAt 86 t5 t7_1) fun t9 =>
 A6 PR (Instr.loadAt 93 t9) fun t10 =>
 A0 PR (G9 t10) fun t12 =>
 A0 PR (Instr.fieldAt 103 t12 0) fun t13 =>
 B1 PR X 86 [t13] fun t14 =>
 J3) fun J4 =>
 B5 t8 (
 J4) (
 J1 t7_1)) (.int .i64 0)
theorem v7 : B0 PR 46 := A8 Tryz.func46 (by kernel_rfl) rfl
theorem B0Z {X : Nat → Prop} {t0 : Value} {R : Value → WP} {w : World} (h : A3D X t0 R w) : Fn PR X 46 #[t0] w R := C6 (args := [t0]) mixed Tryz.func46 (by kernel_rfl) h
def A0D (X : Nat → Prop) (t0 t1 t2 t3 t4 t5 : Value) (R : Value → WP) : WP :=
 B2 PR X (Instr.alloc 39 true (.tuple #[])) fun t12 =>
 B1 PR X 103 [t0, t1, t2, t4] fun t24 =>
 A0 PR (Instr.extract t24 0) fun t25 =>
 A0 PR (Instr.extract t24 1) fun t26 =>
 jn (n := 1) (fun t13 =>
 jn (n := 0) (
 A0 PR (G9 t0) fun t56 =>
 A0 PR (Instr.fieldAt 103 t56 1) fun t57 =>
 A6 PR (Instr.loadAt 94 t57) fun t58 =>
 A0 PR (binOp .add 3 t4 t5) fun t63 =>
 B1 PR X 106 [t58, t2, t13, t63] fun t64 =>
 A0 PR (Instr.extract t64 0) fun t65 =>
 A0 PR (Instr.extract t64 1) fun t66 =>
 A0 PR (G9 t0) fun t69 =>
 A0 PR (Instr.fieldAt 103 t69 1) fun t70 =>
 B6 PR X (Instr.storeAt 94 t70 t65) <|
 jn (n := 0) (
 A0 PR (Op.unary .not t26) fun t77 =>
 A0 PR (Instr.build 39 #[(1, t13), (2, t77)]) fun t78 =>
 B6 PR X (Instr.storeAt 39 t12 t78) <|
 A6 PR (D5 [.c 39 t12]) R) fun J1 =>
 A0 PR (binOp .neq 28 t66 (.int .i64 0)) fun t72 =>
 B5 t72 (
 A0 PR (Instr.build 39 #[(0, t66)]) fun t74 =>
 B6 PR X (Instr.storeAt 39 t12 t74) <|
 A6 PR (D5 [.c 39 t12]) R) (
 J1)) fun J2 =>
 B5 t3 (
 A0 PR (G9 t0) fun t43 =>
 A0 PR (Instr.fieldAt 103 t43 1) fun t44 =>
 A6 PR (Instr.loadAt 94 t44) fun t45 =>
 B1 PR X 105 [t45, t2] fun t47 =>
 A0 PR (Instr.extract t47 0) fun t48 =>
 A0 PR (Instr.extract t47 1) fun t49 =>
 A0 PR (G9 t0) fun t50 =>
 A0 PR (Instr.fieldAt 103 t50 1) fun t51 =>
 B6 PR X (Instr.storeAt 94 t51 t48) <|
 A0 PR (Instr.build 39 #[(1, t13)]) fun t53 =>
 B6 PR X (Instr.storeAt 39 t12 t53) <|
 A6 PR (D5 [.c 39 t12]) R) (
 J2)) fun J3 =>
 A0 PR (Op.unary .not t26) fun t28 =>
 B5 t28 (
 B1 PR X 104 [t1, t2] fun t32 =>
 A0 PR (Instr.extract t32 0) fun t33 =>
 A0 PR (Instr.extract t32 1) fun t34 =>
 jn (n := 0) (
 J3 t33) fun J4 =>
 A0 PR (Op.unary .not t34) fun t36 =>
 B5 t36 (
 A0 PR (Instr.build 39 #[(0, (.int .i64 11))]) fun t37 =>
 B6 PR X (Instr.storeAt 39 t12 t37) <|
 A6 PR (D5 [.c 39 t12]) R) (
 J4)) (
 J3 t25)
theorem A33 : B0 PR 58 := A8 Tryz.func58 (by kernel_rfl) rfl
theorem A4P {X : Nat → Prop} {t0 t1 t2 t3 t4 t5 : Value} {R : Value → WP} {w : World} (h : A0D X t0 t1 t2 t3 t4 t5 R w) : Fn PR X 58 #[t0, t1, t2, t3, t4, t5] w R := C6 (args := [t0, t1, t2, t3, t4, t5]) mixed Tryz.func58 (by kernel_rfl) h
def A1q (X : Nat → Prop) (t0 : Value) (R : Value → WP) : WP :=
 A6 PR (Instr.loadAt 86 t0) fun t3 =>
 B1 PR X 88 [t3] fun t4 =>
 rng (N := 2) PR X (fun t5 t6 K1 =>
 bgn <|
 A0 PR (G9 t6) fun t8 =>
 A0 PR (Instr.fieldAt 103 t8 0) fun t9 =>
 B1 PR (fun _ => False) 89 [t9] fun t10 =>
 K1 none) t4 (fun j => match j with | none => (f7 (R (.tuple #[]))) | some (.exit i) => (match Nat.beq i 0 with | true => (f7 (R (.tuple #[]))) | false => (F7)) | some .ret => (f7 (R (.tuple #[]))) | some _ => F7)
theorem A4S (X : Nat → Prop) (t0 : Value) (R : Value → WP) : B0q PR X Tryz.f87 [t0] R = A1q X t0 R := by kernel_rfl
theorem m4 : B0 PR 87 := A8 Tryz.func87 (by kernel_rfl) rfl
def A0d (X : Nat → Prop) (t0 t1 t2 t3 : Value) (R : Value → WP) : WP :=
 A0 PR (G9 t0) fun t12 =>
 A0 PR (Instr.fieldAt 103 t12 1) fun t13 =>
 A6 PR (Instr.loadAt 94 t13) fun t14 =>
 B1 PR X 150 [t14, t2] fun t16 =>
 jn (n := 2) (fun t8 t9 =>
 A0 PR (G9 t0) fun t45 =>
 A0 PR (Instr.fieldAt 103 t45 1) fun t46 =>
 A6 PR (Instr.loadAt 94 t46) fun t47 =>
 A0 PR (Instr.indexAt 94 t47 t16) fun t49 =>
 A0 PR (Instr.fieldAt 160 t49 2) fun t50 =>
 A6 PR (Instr.loadAt 3 t50) fun t51 =>
 R (.tuple #[t51, (.bool true)])) fun J1 =>
 A0 PR (binOp .lss 3 t16 (.int .i64 0)) fun t18 =>
 gj t18 false (fun J => J t0) fun t20 =>
 gj t18 false (fun J => A0 PR (G9 t20) J) fun t21 =>
 gj t18 false (fun J => A0 PR (Instr.fieldAt 103 t21 1) J) fun t22 =>
 gj t18 false (fun J => A6 PR (Instr.loadAt 94 t22) J) fun t23 =>
 gj t18 false (fun J => J t16) fun t24 =>
 gj t18 false (fun J => A0 PR (Instr.indexAt 94 t23 t24) J) fun t25 =>
 gj t18 false (fun J => A0 PR (Instr.fieldAt 160 t25 3) J) fun t26 =>
 gj t18 false (fun J => A6 PR (Instr.loadAt 3 t26) J) fun t27 =>
 gj t18 false (fun J => J t3) fun t28 =>
 gj t18 false (fun J => A0 PR (binOp .lss 3 t27 t28) J) fun t29 =>
 A0 PR (do pure (if ← asBool t18 then (.bool true) else t29)) fun t30 =>
 gj t30 false (fun J => J t1) fun t32 =>
 gj t30 false (fun J => J t0) fun t33 =>
 gj t30 false (fun J => A0 PR (G9 t33) J) fun t34 =>
 gj t30 false (fun J => A0 PR (Instr.fieldAt 103 t34 1) J) fun t35 =>
 gj t30 false (fun J => A6 PR (Instr.loadAt 94 t35) J) fun t36 =>
 gj t30 false (fun J => J t16) fun t37 =>
 gj t30 false (fun J => A0 PR (Instr.indexAt 94 t36 t37) J) fun t38 =>
 gj t30 false (fun J => A0 PR (Instr.fieldAt 160 t38 2) J) fun t39 =>
 gj t30 false (fun J => A6 PR (Instr.loadAt 3 t39) J) fun t40 =>
 gj t30 false (fun J => B1 PR X 151 [t32, t40] J) fun t41 =>
 gj t30 false (fun J => A0 PR (Op.unary .not t41) J) fun t42 =>
 A0 PR (do pure (if ← asBool t30 then (.bool true) else t42)) fun t43 =>
 B5 t43 (
 R (.tuple #[(.int .i64 0), (.bool false)])) (
 J1 (.int .i64 0) (.bool false))
theorem A4b : B0 PR 103 := A8 Tryz.func103 (by kernel_rfl) rfl
theorem A5c {X : Nat → Prop} {t0 t1 t2 t3 : Value} {R : Value → WP} {w : World} (h : A0d X t0 t1 t2 t3 R w) : Fn PR X 103 #[t0, t1, t2, t3] w R := C6 (args := [t0, t1, t2, t3]) mixed Tryz.func103 (by kernel_rfl) h
def x7 (X : Nat → Prop) (t0 t1 : Value) (R : Value → WP) : WP :=
 drw <|
 A0 PR (G9 t0) fun t7 =>
 A0 PR (Instr.fieldAt 92 t7 1) fun t8 =>
 A6 PR (Instr.loadAt 90 t8) fun t9 =>
 A0 PR (G9 t0) fun t14 =>
 A0 PR (Instr.fieldAt 92 t14 0) fun t15 =>
 A6 PR (Instr.loadAt 32 t15) fun t16 =>
 A0 PR (A7 .len #[32] 0 [t16]) fun t17 =>
 A0 PR (binOp .gtr 3 t17 (.int .i64 0)) fun t18 =>
 B1 PR X 102 [t1] fun t11 =>
 watch PR [(none, (Instr.loadAt 32 t15), t16), (none, (Instr.loadAt 90 t8), t9)] <|
 B1 PR X 152 [t9, t11] fun t12 =>
 watch PR [(none, (Instr.loadAt 32 t15), t16)] <|
 R (.tuple #[t12, t18])
theorem u0 : B0 PR 104 := A8 Tryz.func104 (by kernel_rfl) rfl
theorem A35 {X : Nat → Prop} {t0 t1 : Value} {R : Value → WP} {w : World} (h : x7 X t0 t1 R w) : Fn PR X 104 #[t0, t1] w R := C6 (args := [t0, t1]) mixed Tryz.func104 (by kernel_rfl) h
def z8 (X : Nat → Prop) (t0 t1 : Value) (R : Value → WP) : WP :=
 A0 PR (G9 t0) fun t6 =>
 A0 PR (Instr.fieldAt 92 t6 0) fun t7 =>
 A6 PR (Instr.loadAt 32 t7) fun t8 =>
 B1 PR X 199 [t8, t1] fun t10 =>
 A0 PR (binOp .geq 3 t10 (.int .i64 0)) fun t11 =>
 R t11
theorem A4C : B0 PR 151 := A8 Tryz.func151 (by kernel_rfl) rfl
theorem A5C {X : Nat → Prop} {t0 t1 : Value} {R : Value → WP} {w : World} (h : z8 X t0 t1 R w) : Fn PR X 151 #[t0, t1] w R := C6 (args := [t0, t1]) mixed Tryz.func151 (by kernel_rfl) h
end Go.Proofs.YtpbmephflllolaaGreat
namespace Go.Proofs.YtpbmephflllolaaGreat
open Go
structure BakAt (w : World) (k : Nat) (pv rv : Value) (p : List G0) : Prop where
 bl : bl w k = some (.cells #[pv, rv] 92 (0, 0))
 rp : E3 w pv p.length (p.flatMap E7)
 rr : E3 w rv (F5 (F1 p)).length ((F5 (F1 p)).flatMap E2)
 len : p.length ≤ 1000
theorem BakAt.ks {κ : Bool} {S : List Nat} {w w' : World} {k : Nat} {pv rv : Value} {p : List G0} (h : BakAt w k pv rv p) (hk : KS κ S w w') (hS : ∀ g ∈ k :: (K7 pv ++ K7 rv), g ∉ S) : BakAt w' k pv rv p :=
 ⟨hk.2.1 _ _ (hS k (by simp)) rfl h.bl, h.rp.ks hk fun g hg => hS g (by simp [hg]), h.rr.ks hk fun g hg => hS g (by simp [hg]), h.len⟩
theorem BakAt.ks0 {κ : Bool} {w w' : World} {k : Nat} {pv rv : Value} {p : List G0} (h : BakAt w k pv rv p) (hk : KS κ [] w w') : BakAt w' k pv rv p := h.ks hk (by simp)
theorem BakAt.c0 {w : World} {k : Nat} {pv rv : Value} {p : List G0} (h : BakAt w k pv rv p) : w.cell? ⟨k, 0, none⟩ = some pv := by rw [L6 h.bl]; rfl
theorem BakAt.c1 {w : World} {k : Nat} {pv rv : Value} {p : List G0} (h : BakAt w k pv rv p) : w.cell? ⟨k, 1, none⟩ = some rv := by rw [L6 h.bl]; rfl
theorem C74 (w : World) (k : Nat) (pv rv : Value) (p : List G0) (id : Int) (h : BakAt w k pv rv p) :
  Fn PR B3 151 #[.pointer (some ⟨k, 0, none⟩), .int .i64 id] w (fun r w' => r = .bool (decide (0 ≤ V0 p id)) ∧ C1 [] w w') := by
 refine Fn.pure (A5C (TW.go (κ := false) (S := []) ?_))
 unfold z8
 have h0 := h.c0
 have hl := h.len
 (have zz:=trivial;repeat((first|clear zz|with_reducible first|refine A3 ?_|refine A4 fun _=>?_|refine A5 fun _=>?_);try simp(disch:=first|omega|assumption|((repeat(first|exact A1|exact uH|apply A2|apply uT));first|done|fail)|(simp;first|done|omega|fail))[h0]))
 refine B8 B5a (fun w' hw' => B8e w' pv p id (by omega) ((h.ks0 hw'.ks).rp)) ?_
 (have zz:=trivial;repeat((first|clear zz|with_reducible first|refine A3 ?_|refine A4 fun _=>?_|refine A5 fun _=>?_);try simp(disch:=first|omega|assumption|((repeat(first|exact A1|exact uH|apply A2|apply uT));first|done|fail)|(simp;first|done|omega|fail))[]))
 exact A9 rfl
theorem B87 (w : World) (k : Nat) (pv rv : Value) (p : List G0) (key : ByteArray) (hk : key.size < 2 ^ 60) (h : BakAt w k pv rv p) :
  Fn PR B3 104 #[.pointer (some ⟨k, 0, none⟩), .string key] w (fun r w' => r = .tuple #[.int .i64 (A6J p (P8 key)), .bool (decide (0 < p.length))] ∧ C1 [] w w') := by
 refine Fn.pure (A35 (TW.go (κ := false) (S := []) ?_))
 unfold x7
 have h0 := h.c0
 have h1 := h.c1
 have hl := h.len
 obtain ⟨a, c, hpv, _⟩ := h.rp.form
 obtain ⟨a2, c2, hrv, _⟩ := h.rr.form
 subst hpv hrv
 (have zz:=trivial;repeat((first|clear zz|with_reducible first|refine A3 ?_|refine A4 fun _=>?_|refine A5 fun _=>?_);try simp(disch:=first|omega|assumption|((repeat(first|exact A1|exact uH|apply A2|apply uT));first|done|fail)|(simp;first|done|omega|fail))[h0, h1]))
 refine B8 A22 (fun w' _ => A5w w' key hk) ?_
 (have zz:=trivial;repeat((first|clear zz|with_reducible first|refine A3 ?_|refine A4 fun _=>?_|refine A5 fun _=>?_);try simp(disch:=first|omega|assumption|((repeat(first|exact A1|exact uH|apply A2|apply uT));first|done|fail)|(simp;first|done|omega|fail))[h0, h1]))
 refine B8 B5T (fun w' hw' => C61 w' _ (F5 (F1 p)) (P8 key) (by rw [W3]; have := B01 p; omega) ((h.ks0 hw'.ks).rr)) ?_
 (have zz:=trivial;repeat((first|clear zz|with_reducible first|refine A3 ?_|refine A4 fun _=>?_|refine A5 fun _=>?_);try simp(disch:=first|omega|assumption|((repeat(first|exact A1|exact uH|apply A2|apply uT));first|done|fail)|(simp;first|done|omega|fail))[h0, h1]))
 refine A9 ?_
 simp [A6J]
theorem C12 (w : World) (b k : Nat) (tv pv rv : Value) (l : List EnV) (p : List G0) (key : ByteArray) (now : Int) (hk : key.size < 2 ^ 60) (hn : l.length ≤ 1000000) (hc : w.cell? ⟨b, 2, none⟩ = some tv) (hv : E3 w tv l.length (l.flatMap D9)) (hb : BakAt w k pv rv p) :
  Fn PR B3 103 #[.pointer (some ⟨b, 0, none⟩), .pointer (some ⟨k, 0, none⟩), .string key, .int .i64 now] w (fun r w' => r = .tuple #[.int .i64 (H3 l p key now).1, .bool (H3 l p key now).2] ∧ C1 [] w w') := by
 refine Fn.pure (A5c (TW.go (κ := false) (S := []) ?_))
 unfold A0d
 obtain ⟨a, c, rfl, hr⟩ := hv.form
 (have zz:=trivial;repeat((first|clear zz|with_reducible first|refine A3 ?_|refine A4 fun _=>?_|refine A5 fun _=>?_);try simp(disch:=first|omega|assumption|((repeat(first|exact A1|exact uH|apply A2|apply uT));first|done|fail)|(simp;first|done|omega|fail))[hc]))
 refine B8 A0J (fun w' hw' => A16 w' _ l key hk hn (hv.ks hw'.ks (by simp))) ?_
 by_cases c1 : D7 l key < 0
 ·(have zz:=trivial;repeat((first|clear zz|with_reducible first|refine A3 ?_|refine A4 fun _=>?_|refine A5 fun _=>?_);try simp(disch:=first|omega|assumption|((repeat(first|exact A1|exact uH|apply A2|apply uT));first|done|fail)|(simp;first|done|omega|fail))[c1]))
  exact A9 (by simp [H3, c1])
 obtain ⟨i, hi, hlt⟩ := C28 (l := l) (key := key) (by omega)
 have hx : l[i]? = some (g4 l key) := by rw [g4, hi, Int.toNat_natCast]; exact getD_some Z3 hlt
 obtain ⟨g, o, rfl, hrow⟩ := hr (by omega)
 have h2 := hrow.cellAt (f := D9) (k := 4) (j := 2) (fun _ => rfl) hx rfl
 have h3 := hrow.cellAt (f := D9) (k := 4) (j := 3) (fun _ => rfl) hx rfl
 have hk1 : H3 l p key now = if (g4 l key).dl < now ∨ V0 p (g4 l key).bk < 0 then (0, false) else ((g4 l key).bk, true) := by simp [H3, c1]
 rw [hk1]
 generalize g4 l key = x at *
 rw [hi]
 have hi0 : ¬ ((i : Nat) : Int) < 0 := by omega
 by_cases c2 : x.dl < now
 ·(have zz:=trivial;repeat((first|clear zz|with_reducible first|refine A3 ?_|refine A4 fun _=>?_|refine A5 fun _=>?_);try simp(disch:=first|omega|assumption|((repeat(first|exact A1|exact uH|apply A2|apply uT));first|done|fail)|(simp;first|done|omega|fail))[hi0, hlt, h3, c2, hc]))
  exact A9 (by simp [c2])
 (have zz:=trivial;repeat((first|clear zz|with_reducible first|refine A3 ?_|refine A4 fun _=>?_|refine A5 fun _=>?_);try simp(disch:=first|omega|assumption|((repeat(first|exact A1|exact uH|apply A2|apply uT));first|done|fail)|(simp;first|done|omega|fail))[hi0, hlt, h3, c2, h2, hc]))
 refine B8 A4C (fun w' hw' => C74 w' k pv rv p x.bk (hb.ks0 hw'.ks)) ?_
 by_cases c3 : V0 p x.bk < 0
 ·have c3' : ¬ 0 ≤ V0 p x.bk := by omega
  (have zz:=trivial;repeat((first|clear zz|with_reducible first|refine A3 ?_|refine A4 fun _=>?_|refine A5 fun _=>?_);try simp(disch:=first|omega|assumption|((repeat(first|exact A1|exact uH|apply A2|apply uT));first|done|fail)|(simp;first|done|omega|fail))[c3, c3', hc]))
  exact A9 (by simp [c3])
 ·have c3' : 0 ≤ V0 p x.bk := by omega
  (have zz:=trivial;repeat((first|clear zz|with_reducible first|refine A3 ?_|refine A4 fun _=>?_|refine A5 fun _=>?_);try simp(disch:=first|omega|assumption|((repeat(first|exact A1|exact uH|apply A2|apply uT));first|done|fail)|(simp;first|done|omega|fail))[c3, c3', hlt, h2, hc]))
  exact A9 (by simp [c2, c3])
theorem C73 {κ : Bool} {S : List Nat} {w0 : World} {H Hj : List Res} {F : Value → WP} {A : (Value → WP) → WP} (v1 : Value) (hF : TW κ S w0 Hj (F v1)) (hA : ∀ J : Value → WP, TW κ S w0 Hj (J v1) → TW κ S w0 H (A J)) : TW κ S w0 H (jn (n := 1) F A) := hA F hF
def k5 (b : Nat) (lk : Int) (tv : Value) (nx : Int) : Res := .pt b (.cells #[.int .i32 lk, .int .u32 0, tv, .int .i64 nx] 103 (0, 0))
theorem B9u (w : World) (b k : Nat) (lk nx : Int) (tv pv rv : Value) (l : List EnV) (p : List G0) (key : ByteArray) (closing : Bool) (now idle : Int) (hk : key.size < 2 ^ 60) (hks : H6 l) (hn : l.length ≤ 1000000)
  (hb : ∀ w', KS false (C7 [k5 b lk tv nx, E6 tv l]) w w' → BakAt w' k pv rv p) (hw : LW false (C7 [k5 b lk tv nx, E6 tv l]) w [k5 b lk tv nx, E6 tv l] w) :
  Fn PR B3 58 #[.pointer (some ⟨b, 0, none⟩), .pointer (some ⟨k, 0, none⟩), .string key, .bool closing, .int .i64 now, .int .i64 idle] w
   (Rn (C7 [k5 b lk tv nx, E6 tv l]) w (fun (_ : Value) u => u = (E5 l p key closing now idle).2.1.val) fun r => [k5 b lk r nx, E6 r (E5 l p key closing now idle).1]) := by
 refine A4P (TW.goH (κ := false) ?_ hw)
 unfold A0D
 have hpl : p.length ≤ 1000 := (hb w (KS.refl _ _)).len
 generalize hS : C7 [k5 b lk tv nx, E6 tv l] = S at *
 simp only [k5]
 refine A3L (e := 160) (k := 4) (v := tv) (q := l.length) (xs := l.flatMap D9) (by (repeat constructor)) fun ht1 ht2 ht3 => ?_
 (have zz:=trivial;repeat((first|clear zz|with_reducible first|refine A3 ?_|refine A4 fun _=>?_|refine A5 fun _=>?_);try simp(disch:=first|omega|assumption|((repeat(first|exact A1|exact uH|apply A2|apply uT));first|done|fail)|(simp;first|done|omega|fail))[]))
 refine B8 A4b (fun w' hw' => C12 w' b k tv pv rv l p key now hk hn (z6 (o := 2) (hw'.pt (by (repeat constructor))) rfl) (K3.own (e := 160) (k := 4) (by (repeat constructor)) w' hw') (hb w' hw'.ks)) ?_
 rename_i ba
 by_cases hne : (H3 l p key now).2 = false ∧ p = []
 ·have hd : E5 l p key closing now idle = (l, ⟨11, 0, false, 0⟩, false) := if_pos hne
  obtain ⟨h1, hp⟩ := hne
  have hp0 : ¬ 0 < p.length := by rw [hp]; simp
  rw [hd]
  (have zz:=trivial;repeat((first|clear zz|with_reducible first|refine A3 ?_|refine A4 fun _=>?_|refine A5 fun _=>?_);try simp(disch:=first|omega|assumption|((repeat(first|exact A1|exact uH|apply A2|apply uT));first|done|fail)|(simp;first|done|omega|fail))[h1]))
  refine B8 u0 (fun w' hw' => B87 w' k pv rv p key hk (hb w' hw'.ks)) ?_
  (have zz:=trivial;repeat((first|clear zz|with_reducible first|refine A3 ?_|refine A4 fun _=>?_|refine A5 fun _=>?_);try simp(disch:=first|omega|assumption|((repeat(first|exact A1|exact uH|apply A2|apply uT));first|done|fail)|(simp;first|done|omega|fail))[hp0]))
  refine C0 tv (by simp [AnsV.val]) ?_
  try simp only [k5]
  (repeat' constructor)
 have hd : E5 l p key closing now idle = if closing then (r5 l key, ⟨0, P7 l p key now, false, 0⟩, (T7 l key).isSome)
  else match F9 l (A4V l p key now idle) with
   | none => (l, ⟨12, 0, false, 0⟩, false)
   | some u => (u, ⟨0, P7 l p key now, !(H3 l p key now).2, 0⟩, true) := if_neg hne
 rw [B6V, B69]
 refine C73 (Hj := [.pt ba (.cells #[.int .i64 0, .int .i64 0, .bool false, .int .i64 0] 39), k5 b lk tv nx, E6 tv l]) (.int .i64 (P7 l p key now)) ?_ ?_
 case refine_2 =>
  intro J hJ
  simp only [k5] at hJ
  cases h1 : (H3 l p key now).2 with
  | true =>
   have e : P7 l p key now = (H3 l p key now).1 := by simp [P7, h1]
   rw [e] at hJ
   (have zz:=trivial;repeat((first|clear zz|with_reducible first|refine A3 ?_|refine A4 fun _=>?_|refine A5 fun _=>?_);try simp(disch:=first|omega|assumption|((repeat(first|exact A1|exact uH|apply A2|apply uT));first|done|fail)|(simp;first|done|omega|fail))[]))
   exact hJ
  | false =>
   have hp0 : ¬ p = [] := fun h => hne ⟨h1, h⟩
   have hp1 : 0 < p.length := List.length_pos_iff.2 hp0
   have e : P7 l p key now = A6J p (P8 key) := by simp [P7, h1]
   rw [e] at hJ
   (have zz:=trivial;repeat((first|clear zz|with_reducible first|refine A3 ?_|refine A4 fun _=>?_|refine A5 fun _=>?_);try simp(disch:=first|omega|assumption|((repeat(first|exact A1|exact uH|apply A2|apply uT));first|done|fail)|(simp;first|done|omega|fail))[]))
   refine B8 u0 (fun w' hw' => B87 w' k pv rv p key hk (hb w' hw'.ks)) ?_
   (have zz:=trivial;repeat((first|clear zz|with_reducible first|refine A3 ?_|refine A4 fun _=>?_|refine A5 fun _=>?_);try simp(disch:=first|omega|assumption|((repeat(first|exact A1|exact uH|apply A2|apply uT));first|done|fail)|(simp;first|done|omega|fail))[hp1]))
   exact hJ
 ·rw [hd]
  simp only [k5]
  cases closing with
  | true =>
   (have zz:=trivial;repeat((first|clear zz|with_reducible first|refine A3 ?_|refine A4 fun _=>?_|refine A5 fun _=>?_);try simp(disch:=first|omega|assumption|((repeat(first|exact A1|exact uH|apply A2|apply uT));first|done|fail)|(simp;first|done|omega|fail))[]))
   refine G3 B17 (fun w' hw' => B35 w' tv l key hk hks hn (K3.own (e := 160) (k := 4) (by (repeat constructor)) w' hw')) ?_
   rintro r _ rfl
   cases h2 : (T7 l key).isSome with
   | true =>
    refine A3L (e := 160) (k := 4) (v := r) (q := (r5 l key).length) (xs := (r5 l key).flatMap D9) (by (repeat constructor)) fun hr1 hr2 hr3 => ?_
    (have zz:=trivial;repeat((first|clear zz|with_reducible first|refine A3 ?_|refine A4 fun _=>?_|refine A5 fun _=>?_);try simp(disch:=first|omega|assumption|((repeat(first|exact A1|exact uH|apply A2|apply uT));first|done|fail)|(simp;first|done|omega|fail))[hr1]))
    refine C0 r (by simp [AnsV.val]) ?_
    try simp only [k5]
    (repeat' constructor)
   | false =>
    have hdl : r5 l key = l := by
     cases h3 : T7 l key with
     | none => simp [r5, h3]
     | some u => rw [h3] at h2; cases h2
    (have zz:=trivial;repeat((first|clear zz|with_reducible first|refine A3 ?_|refine A4 fun _=>?_|refine A5 fun _=>?_);try simp(disch:=first|omega|assumption|((repeat(first|exact A1|exact uH|apply A2|apply uT));first|done|fail)|(simp;first|done|omega|fail))[ht1]))
    refine C0 tv (by simp [AnsV.val]) ?_
    simp only [hdl]
    (repeat' constructor)
  | false =>
   (have zz:=trivial;repeat((first|clear zz|with_reducible first|refine A3 ?_|refine A4 fun _=>?_|refine A5 fun _=>?_);try simp(disch:=first|omega|assumption|((repeat(first|exact A1|exact uH|apply A2|apply uT));first|done|fail)|(simp;first|done|omega|fail))[]))
   refine G3 B5r (fun w' hw' => B8E w' tv l key (P7 l p key now) (IntKind.i64.wrap (now + idle)) hk hn (K3.own (e := 160) (k := 4) (by (repeat constructor)) w' hw')) ?_
   rintro r _ rfl
   cases h2 : F9 l (A4V l p key now idle) with
   | none =>
    have h2' : F9 l ⟨1, key, P7 l p key now, IntKind.i64.wrap (now + idle)⟩ = none := h2
    simp only [h2']
    (have zz:=trivial;repeat((first|clear zz|with_reducible first|refine A3 ?_|refine A4 fun _=>?_|refine A5 fun _=>?_);try simp(disch:=first|omega|assumption|((repeat(first|exact A1|exact uH|apply A2|apply uT));first|done|fail)|(simp;first|done|omega|fail))[ht1]))
    refine C0 tv (by simp [AnsV.val]) ?_
    try simp only [k5]
    (repeat' constructor)
   | some u =>
    have h2' : F9 l ⟨1, key, P7 l p key now, IntKind.i64.wrap (now + idle)⟩ = some u := h2
    simp only [h2']
    simp only [Option.getD_some]
    refine A3L (e := 160) (k := 4) (v := r) (q := u.length) (xs := u.flatMap D9) (by (repeat constructor)) fun hr1 hr2 hr3 => ?_
    (have zz:=trivial;repeat((first|clear zz|with_reducible first|refine A3 ?_|refine A4 fun _=>?_|refine A5 fun _=>?_);try simp(disch:=first|omega|assumption|((repeat(first|exact A1|exact uH|apply A2|apply uT));first|done|fail)|(simp;first|done|omega|fail))[hr1]))
    refine C0 r (by simp [AnsV.val]) ?_
    try simp only [k5]
    (repeat' constructor)
end Go.Proofs.YtpbmephflllolaaGreat
namespace Go.Proofs.YtpbmephflllolaaGreat
open Go
structure ShB where
 b : Nat
 lk : Int
 tv : Value
 l : List EnV
 nx : Nat
def H8 (t : ShB) : List Res := [k5 t.b t.lk t.tv (t.nx : Nat), E6 t.tv t.l]
def G1 (z : Int) (t : ShB) : ShB := { t with lk := z }
def C3d (b : Nat) : Value := .pointer (some ⟨b, 0, none⟩)
def b9 (ts : List ShB) : List Value := ts.map fun t => C3d t.b
theorem C5A (ts : List ShB) : (b9 ts).length = ts.length := by simp [b9]
theorem A7a {ts : List ShB} {i : Nat} {t : ShB} (h : ts[i]? = some t) : (b9 ts)[i]? = some (.pointer (some ⟨t.b, 0, none⟩)) := by simp [b9, h, C3d]
def N0 (sv : Value) (ts : List ShB) : Res := .own 93 1 sv ts.length (b9 ts)
abbrev D2x (b : Nat) : Value := .func (.func 87) #[] #[.pointer (some ⟨b, 0, none⟩)]
theorem B0b (w : World) (sv : Value) (ts : List ShB) (hn : ts.length ≤ 1000) (hw : LW false (C7 [N0 sv ts, G7 H8 (ts.map (G1 0))]) w [N0 sv ts, G7 H8 (ts.map (G1 0))] w) :
  Fn PR B3 46 #[sv] w (Rn (C7 [N0 sv ts, G7 H8 (ts.map (G1 0))]) w (fun (bx : Nat) u => u = D2x bx) fun bx => [.pt bx (.cells #[sv] 86), N0 sv ts, G7 H8 (ts.map (G1 1))]) := by
 refine B0Z (TW.goH (κ := false) ?_ hw)
 unfold A3D
 generalize C7 [N0 sv ts, G7 H8 (ts.map (G1 0))] = S at *
 simp only [N0]
 refine S6 (e := 93) (k := 1) (v := sv) (q := ts.length) (xs := b9 ts) (by (repeat constructor)) ?_
 rintro sa sc rfl
 (have zz:=trivial;repeat((first|clear zz|with_reducible first|refine A3 ?_|refine A4 fun _=>?_|refine A5 fun _=>?_);try simp(disch:=first|omega|assumption|((repeat(first|exact A1|exact uH|apply A2|apply uT));first|done|fail)|(simp;first|done|omega|fail))[]))
 rename_i bx
 rw [← C5M (G1 1) (G1 0) ts]
 refine C7L ts.length (fun i => [.pt bx (.cells #[.slice sa ts.length sc] 86), N0 (.slice sa ts.length sc) ts, G7 H8 (mix (G1 1) (G1 0) i ts)]) ?_
 intro i hi L hL
 simp only [N0]
 by_cases hlt : i < ts.length
 ·have hx := List.getElem?_eq_getElem hlt
  have hp := A7a hx
  have hm := B9E (f := G1 1) (g := G1 0) hx
  have hms := B9G (f := G1 1) (g := G1 0) hx
  have hml := B32 (G1 1) (G1 0) i ts
  generalize ts[i] = t at *
  refine A2E (e := 93) (k := 1) (v := .slice sa ts.length sc) (q := ts.length) (xs := b9 ts) (by (repeat constructor)) (by omega) ?_
  rintro g gc hg
  cases hg
  (have zz:=trivial;repeat((first|clear zz|with_reducible first|refine A3 ?_|refine A4 fun _=>?_|refine A5 fun _=>?_);try simp(disch:=first|omega|assumption|((repeat(first|exact A1|exact uH|apply A2|apply uT));first|done|fail)|(simp;first|done|omega|fail))[hlt, hp]))
  refine A70 (f := H8) (i := i) (by (repeat' constructor)) hm ?_
  simp only [H8, G1, k5, List.cons_append, List.nil_append]
  refine F2 (Hc := [.pt t.b (.cells #[.int .i32 0, .int .u32 0, t.tv, .int .i64 (t.nx : Nat)] 103 (0, 0))]) A9J (fun w' _ hs => C6L w' t.b _ _ _ _ hs) (by (repeat' constructor)) ?_
  rintro _ _ rfl
  refine A9f (f := H8) (y := G1 1 t) (ls := mix (G1 1) (G1 0) i ts) (i := i) (by simp only [H8, G1, k5, List.cons_append, List.nil_append]; (repeat' constructor)) (by omega) ?_
  rw [hms]
  (have zz:=trivial;repeat((first|clear zz|with_reducible first|refine A3 ?_|refine A4 fun _=>?_|refine A5 fun _=>?_);try simp(disch:=first|omega|assumption|((repeat(first|exact A1|exact uH|apply A2|apply uT));first|done|fail)|(simp;first|done|omega|fail))[]))
  refine Sels.tw ?_ (hL hlt)
  try simp only [N0]
  (repeat' constructor)
 ·obtain rfl : i = ts.length := by omega
  rw [C5N]
  (have zz:=trivial;repeat((first|clear zz|with_reducible first|refine A3 ?_|refine A4 fun _=>?_|refine A5 fun _=>?_);try simp(disch:=first|omega|assumption|((repeat(first|exact A1|exact uH|apply A2|apply uT));first|done|fail)|(simp;first|done|omega|fail))[]))
  refine C0 bx rfl ?_
  try simp only [N0]
  (repeat' constructor)
abbrev C5U (b : Nat) : Value := .func (.func 136) #[] #[.pointer (some ⟨b, 0, none⟩)]
def A8P (bs : List Value) : List (List Value) := (List.range bs.length).map fun j => [.int .i64 ((bs.length - 1 - j : Nat) : Int), bs.getD (bs.length - 1 - j) (.tuple #[])]
theorem A3V (bs : List Value) : (A8P bs).length = bs.length := by simp [A8P]
theorem B6M {bs : List Value} {m : Nat} {v : Value} (h : bs[m]? = some v) (hi : bs.length - (m + 1) < (A8P bs).length) : (A8P bs)[bs.length - (m + 1)] = [.int .i64 (m : Int), v] := by
 obtain ⟨hm, rfl⟩ := List.getElem?_eq_some_iff.1 h
 simp only [A8P, List.getElem_map, List.getElem_range]
 rw [show bs.length - 1 - (bs.length - (m + 1)) = m by omega]
 simp [List.getD_eq_getElem?_getD, List.getElem?_eq_getElem hm]
theorem B8g (w : World) (v : Value) (hv : ∃ a n c, v = .slice a n c) : Fn PR B3 88 #[v] w (Rn [] w (fun b u => u = C5U b) fun b => [.pt b (.cells #[v] 86)]) := by
 obtain ⟨a, n, c, rfl⟩ := hv
 refine f9 (TW.go (κ := false) (S := []) ?_)
 unfold P3
 (have zz:=trivial;repeat((first|clear zz|with_reducible first|refine A3 ?_|refine A4 fun _=>?_|refine A5 fun _=>?_);try simp(disch:=first|omega|assumption|((repeat(first|exact A1|exact uH|apply A2|apply uT));first|done|fail)|(simp;first|done|omega|fail))[]))
 rename_i b
 exact k7 b rfl (by simp)
theorem C55 (b : Nat) (v : Value) (bs : List Value) (hn : bs.length ≤ 1000) : A36 (C5U b) [.pt b (.cells #[v] 86)] (RqS v bs.length bs) (A8P bs) := by
 refine ⟨_, _, _, rfl, fun y J E hJ hE stJ stE hy w0 h0 => ?_⟩
 obtain ⟨a, c, hv, hr⟩ := (hJ _ _ _ h0).2
 subst hv
 refine Z5 (Z0 (TW.at (κ := true) ?_ (hJ _ _ _ h0).1))
 unfold N6
 (have zz:=trivial;repeat((first|clear zz|with_reducible first|refine A3 ?_|refine A4 fun _=>?_|refine A5 fun _=>?_);try simp(disch:=first|omega|assumption|((repeat(first|exact A1|exact uH|apply A2|apply uT));first|done|fail)|(simp;first|done|omega|fail))[]))
 refine C0F (α := Nat) (fun m => bs.length - m) (fun _ => _) (· ≤ bs.length) (fun m => m) (fun m => .int .i64 ((m : Int) - 1)) bs.length hJ stJ (by simpa using h0) (Nat.le_refl _) fun m a' hm hJm hRm L hL => ?_
 cases m with
 | zero =>
  (have zz:=trivial;repeat((first|clear zz|with_reducible first|refine A3 ?_|refine A4 fun _=>?_|refine A5 fun _=>?_);try simp(disch:=first|omega|assumption|((repeat(first|exact A1|exact uH|apply A2|apply uT));first|done|fail)|(simp;first|done|omega|fail))[]))
  exact A29 stJ (by rw [A3V]; simpa using hJm)
 | succ m =>
  obtain ⟨_, _, hv, hr⟩ := hRm
  obtain ⟨b', o, hb, hrow, hnb⟩ := hr (by omega)
  cases hv
  subst hb
  have hlt : m < bs.length := by omega
  have hx := List.getElem?_eq_getElem hlt
  have h1 := hrow.get hx
  have hat := fun hi => B6M hx hi
  generalize bs[m] = x at *
  have e : (((m + 1 : Nat) : Int) - 1) = (m : Int) := by omega
  rw [e]
  have hlen : bs.length - m = bs.length - (m + 1) + 1 := by omega
  have hL' := hL m
  simp only [hlen] at hL'
  (have zz:=trivial;repeat((first|clear zz|with_reducible first|refine A3 ?_|refine A4 fun _=>?_|refine A5 fun _=>?_);try simp(disch:=first|omega|assumption|((repeat(first|exact A1|exact uH|apply A2|apply uT));first|done|fail)|(simp;first|done|omega|fail))[hlt, h1]))
  refine A54 hJ hE stJ hy hJm (by rw [A3V]; omega) (hat _) (fun w3 h => ?_) (fun w3 h => ?_)
  ·(have zz:=trivial;repeat((first|clear zz|with_reducible first|refine A3 ?_|refine A4 fun _=>?_|refine A5 fun _=>?_);try simp(disch:=first|omega|assumption|((repeat(first|exact A1|exact uH|apply A2|apply uT));first|done|fail)|(simp;first|done|omega|fail))[]))
   exact fun w' hw' => hL' w' (by omega) (by omega) (stJ _ _ _ _ _ h (hw'.sub (by simp)))
  ·(have zz:=trivial;repeat((first|clear zz|with_reducible first|refine A3 ?_|refine A4 fun _=>?_|refine A5 fun _=>?_);try simp(disch:=first|omega|assumption|((repeat(first|exact A1|exact uH|apply A2|apply uT));first|done|fail)|(simp;first|done|omega|fail))[]))
   exact A3Y stE h
theorem RqS.own {e : TypeId} {v : Value} {n : Nat} {xs : List Value} {S : List Nat} {w0 w : World} {A F : List Res} (hm : Res.own e 1 v n xs ∈ A) (hw : LW false S w0 (A ++ F) w) : RqS v n xs F w := by
 have ho : P2 w e 1 v n xs := hw.hold _ (List.mem_append_left _ hm)
 obtain ⟨a, c, rfl, hr⟩ := (P2.rd ho).form
 refine ⟨a, c, rfl, fun hn => ?_⟩
 obtain ⟨b, o, rfl, hrow⟩ := hr hn
 exact ⟨b, o, rfl, hrow, hw.notin hm (by simp [Res.foot, K7])⟩
theorem B0a (w : World) (bx : Nat) (sv : Value) (ts : List ShB) (hn : ts.length ≤ 1000) (hw : LW false (C7 [.pt bx (.cells #[sv] 86), N0 sv ts, G7 H8 (ts.map (G1 1))]) w [.pt bx (.cells #[sv] 86), N0 sv ts, G7 H8 (ts.map (G1 1))] w) :
  FnD PR B3 87 #[.pointer (some ⟨bx, 0, none⟩)] w (Rn (C7 [.pt bx (.cells #[sv] 86), N0 sv ts, G7 H8 (ts.map (G1 1))]) w (fun (_ : Unit) u => u = .tuple #[]) fun _ => [.pt bx (.cells #[sv] 86), N0 sv ts, G7 H8 (ts.map (G1 0))]) := by
 refine C2z (args := [.pointer (some ⟨bx, 0, none⟩)]) mixed Tryz.func87 ?_
 rw [A4S]
 refine TW.goH (κ := false) ?_ hw
 unfold A1q
 generalize C7 [.pt bx (.cells #[sv] 86), N0 sv ts, G7 H8 (ts.map (G1 1))] = S at *
 simp only [N0]
 refine S6 (e := 93) (k := 1) (v := sv) (q := ts.length) (xs := b9 ts) (by (repeat constructor)) ?_
 rintro sa sc rfl
 (have zz:=trivial;repeat((first|clear zz|with_reducible first|refine A3 ?_|refine A4 fun _=>?_|refine A5 fun _=>?_);try simp(disch:=first|omega|assumption|((repeat(first|exact A1|exact uH|apply A2|apply uT));first|done|fail)|(simp;first|done|omega|fail))[]))
 refine G3 d8 (fun w' _ => B8g w' (.slice sa ts.length sc) ⟨_, _, _, rfl⟩) ?_
 rintro b _ rfl
 rw [← C5N (G1 1) (G1 0) ts]
 have hpl := C5A ts
 refine TW.eqH (H' := [.pt b (.cells #[.slice sa ts.length sc] 86)] ++ [.pt bx (.cells #[.slice sa ts.length sc] 86), N0 (.slice sa ts.length sc) ts, G7 H8 (mix (G1 1) (G1 0) (ts.length - 0) ts)]) (by simp [N0]) ?_
 have hit := C55 b (.slice sa ts.length sc) (b9 ts) (by omega)
 rw [hpl] at hit
 refine A2a hit (by simp [A8P]) (fun i (_ : Unit) => i ≤ ts.length) (fun i _ => [.pt bx (.cells #[.slice sa ts.length sc] 86), N0 (.slice sa ts.length sc) ts, G7 H8 (mix (G1 1) (G1 0) (ts.length - i) ts)])
  (fun c (y : Unit) => False) (fun y => []) () (Nat.zero_le _) ?_ ?_ ?_ ?_ (by rfl)
 ·intro i _ F w1 _ hw1
  exact RqS.own (e := 93) (by simp only [N0]; (repeat constructor)) hw1
 ·rintro i hi _ F _ K' hK _
  have hi' : i < ts.length := by rw [A3V, hpl] at hi; exact hi
  obtain ⟨m, hm⟩ : ∃ m, ts.length - i = m + 1 := ⟨ts.length - i - 1, by omega⟩
  have hmlt : m < ts.length := by omega
  have hx := List.getElem?_eq_getElem hmlt
  have hp := A7a hx
  have hg := B7a (f := G1 1) (g := G1 0) hx
  have hms := C4P (f := G1 1) (g := G1 0) hx
  have hml := B32 (G1 1) (G1 0) (m + 1) ts
  have hat := B6M hp (by rw [A3V, hpl]; omega)
  have hidx : (b9 ts).length - (m + 1) = i := by omega
  simp only [hidx] at hat
  rw [hat]
  have hK' := hK () (by omega)
  rw [show ts.length - (i + 1) = m by omega] at hK'
  rw [hm]
  generalize ts[m] = t at *
  simp only [VF.app, List.cons_append, List.nil_append]
  (have zz:=trivial;repeat((first|clear zz|with_reducible first|refine A3 ?_|refine A4 fun _=>?_|refine A5 fun _=>?_);try simp(disch:=first|omega|assumption|((repeat(first|exact A1|exact uH|apply A2|apply uT));first|done|fail)|(simp;first|done|omega|fail))[]))
  refine A70 (f := H8) (i := m) (ls := mix (G1 1) (G1 0) (m + 1) ts) (by (repeat' constructor)) hg ?_
  simp only [H8, G1, k5, List.cons_append, List.nil_append]
  refine F2 (Hc := [.pt t.b (.cells #[.int .i32 1, .int .u32 0, t.tv, .int .i64 (t.nx : Nat)] 103 (0, 0))]) A7m (fun w' _ hs => C1A w' t.b _ _ _ _ hs) (by (repeat' constructor)) ?_
  rintro _ _ rfl
  refine A9f (f := H8) (y := G1 0 t) (ls := mix (G1 1) (G1 0) (m + 1) ts) (i := m) (by simp only [H8, G1, k5, List.cons_append, List.nil_append]; (repeat' constructor)) (by omega) ?_
  rw [hms]
  exact TW.perm hK' ((List.Perm.swap ..).trans (List.Perm.cons _ (List.Perm.swap ..)))
 ·rintro _ _
  rw [A3V, hpl, Nat.sub_self, C5M]
  (have zz:=trivial;repeat((first|clear zz|with_reducible first|refine A3 ?_|refine A4 fun _=>?_|refine A5 fun _=>?_);try simp(disch:=first|omega|assumption|((repeat(first|exact A1|exact uH|apply A2|apply uT));first|done|fail)|(simp;first|done|omega|fail))[]))
  refine C0 () rfl ?_
  try simp only [N0]
  (repeat' constructor)
 ·rintro _ _ h; exact h.elim
theorem FnD.use {P : Program} {X : Nat → Prop} {f : FuncId} {args : Array Value} {w : World} {R K : Value → WP} (h : FnD P B3 f args w R) (hk : ∀ v w', R v w' → Sk B3 w w' → K v w') : FnD P X f args w K :=
 CallsD.mono h fun _ _ w' ⟨v, he, hu, hr, hs⟩ => ⟨v, he, hu, hk v w' hr hs, hs.mono fun _ h => h.elim⟩
theorem C0p {κ : Bool} {X : Nat → Prop} {S : List Nat} {w0 : World} {H Hk Hc : List Res} {A : WP} {f : FuncId} {first cap : Array Value} {α : Type} {φ : α → Value → Prop} {Hn : α → List Res} (he : B0 PR f)
  (hf : ∀ w, LW κ S w0 H w → LW false (C7 Hc) w Hc w → FnD PR B3 f (first.toList ++ cap.toList).toArray w (Rn (C7 Hc) w φ Hn)) (hp : Part Hc H Hk) (hK : ∀ a v, φ a v → TW κ S w0 (Hn a ++ Hk) A) : TW κ S w0 H (dfr PR X (.func (.func f) first cap) A) := fun w hw =>
 ⟨he, (hf w hw ((hw.perm hp.perm).sub (List.sublist_append_left _ _)).self).use fun v w' ⟨a, h1, h2⟩ hsk => hK a v h1 w' ((hw.perm hp.perm).part (h2.high fun _ => hsk))⟩
theorem C0J {κ : Bool} {S : List Nat} {w0 : World} {H : List Res} {A : WP} {f : FuncId} {first cap : Array Value} (h : TW κ S w0 H A) : TW κ S w0 H (isf (.func (.func f) first cap) A) := fun w hw => ⟨⟨_, _, _, rfl⟩, h w hw⟩
end Go.Proofs.YtpbmephflllolaaGreat
namespace Go.Proofs.YtpbmephflllolaaGreat
open Go
structure BaH where
 b : Nat
 k : Nat
 pv : Value
 rv : Value
 sv : Value
 c : CfgV
 pool : List G0
 ts : List ShB
def BaH.st (m : BaH) : MoS := ⟨m.c, m.pool, m.ts.map fun t => (t.l, t.nx)⟩
def Q1 (b k : Nat) (c : CfgV) (sv : Value) : Res := .pt b (.cells #[.int .i64 c.wk, .int .i64 c.sh, .int .i64 c.cp, .int .i64 c.idle, .int .i64 c.sl, .pointer (some ⟨k, 0, none⟩), sv] 88 (0, 0))
def A8j (k : Nat) (pv rv : Value) (p : List G0) : List Res := [.pt k (.cells #[pv, rv] 92 (0, 0)), .own 75 2 pv p.length (p.flatMap E7), .own 217 2 rv (F5 (F1 p)).length ((F5 (F1 p)).flatMap E2)]
def C8 (m : BaH) : List Res := [Q1 m.b m.k m.c m.sv, .pt m.k (.cells #[m.pv, m.rv] 92 (0, 0)), .own 75 2 m.pv m.pool.length (m.pool.flatMap E7), .own 217 2 m.rv (F5 (F1 m.pool)).length ((F5 (F1 m.pool)).flatMap E2), N0 m.sv m.ts, G7 H8 (m.ts.map (G1 0))]
abbrev BDo (w : World) (m : BaH) (r : MoS × AnsV) : Value → WP := Rn (C7 (C8 m)) w (fun (m' : BaH) u => u = r.2.val ∧ m'.b = m.b ∧ m'.st = r.1) C8
section
variable {κ : Bool} {S : List Nat} {w0 w : World} {H Hk Hc : List Res} {K : Value → WP}
theorem C4g {k : Nat} {pv rv : Value} {p : List G0} (hw : LW κ S w0 H w) (hp : Part (Hc ++ A8j k pv rv p) H Hk) (hl : p.length ≤ 1000) : ∀ w', KS false (C7 Hc) w w' → BakAt w' k pv rv p := fun w' hk => by
 have h1 := hw.perm hp.perm
 rw [List.append_assoc] at h1
 have hd := (List.pairwise_append.1 h1.dis).2.2
 have st : ∀ r ∈ A8j k pv rv p, r.holds w' := fun r hr =>
  Res.stable (fun b hb o ho e => hk.2.1 b o (fun hf => by
   obtain ⟨s, hs, hbs⟩ := J0.1 hf
   exact hd s hs r (List.mem_append_left _ hr) b hbs hb) ho e) (h1.hold r (List.mem_append_right _ (List.mem_append_left _ hr)))
 exact ⟨(st _ (List.mem_cons_self ..)).1, P2.rd (st (.own 75 2 pv p.length (p.flatMap E7)) (by simp [A8j])), P2.rd (st (.own 217 2 rv (F5 (F1 p)).length ((F5 (F1 p)).flatMap E2)) (by simp [A8j])), hl⟩
end
theorem C6G {X : Nat → Prop} {κ : Bool} {S : List Nat} {w0 : World} {H Hk : List Res} {K : Value → WP} {b k k' : Nat} {c : CfgV} {sv : Value} {d : Array Value} {T2 : TypeId} (hp : Part [Q1 b k c sv, .pt k' (.cells d T2 (0, 0))] H Hk) (hd : 0 < d.size)
  (hK : TW κ S w0 (Q1 b k' c sv :: .pt k' (.cells d T2 (0, 0)) :: Hk) (K (.tuple #[]))) : TW κ S w0 H (B1 PR X 36 [.pointer (some ⟨b, 5, none⟩), .pointer (some ⟨k', 0, none⟩)] K) := by
 refine TW.perm ?_ hp.perm
 refine F2 (Hc := [Q1 b k c sv]) (Hk := .pt k' (.cells d T2 (0, 0)) :: Hk) P6 (fun w' hw' hs => B4m w' b k' _ _ _ _ _ _ _ _ d T2 hd hs (hw'.hold (.pt k' (.cells d T2 (0, 0))) (by simp)).1 (fun e => ?_)) (Part.cons Sel.here Part.nil) ?_
 ·have := (List.pairwise_cons.1 hw'.dis).1 (.pt k' (.cells d T2 (0, 0))) (by simp) b (by simp [Q1, Res.foot])
  exact this (by simp [Res.foot, e])
 ·rintro _ _ rfl
  exact hK
theorem C4V (w : World) (m : BaH) (hl : m.pool.length ≤ 1000) (hw : LW false (C7 (C8 m)) w (C8 m) w) :
  Fn PR B3 19 #[.pointer (some ⟨m.b, 0, none⟩)] w (Rn (C7 (C8 m)) w (fun r u => u = r) fun r => .own 75 2 r m.pool.length (m.pool.flatMap E7) :: C8 m) := by
 refine A34 (TW.goH (κ := false) ?_ hw)
 unfold x3
 generalize C7 (C8 m) = S at *
 simp only [C8, Q1]
 (have zz:=trivial;repeat((first|clear zz|with_reducible first|refine A3 ?_|refine A4 fun _=>?_|refine A5 fun _=>?_);try simp(disch:=first|omega|assumption|((repeat(first|exact A1|exact uH|apply A2|apply uT));first|done|fail)|(simp;first|done|omega|fail))[]))
 refine B8 Q2 (fun w' hw' => B60 w' m.b m.k _ _ _ (hw'.pt (by (repeat constructor))) rfl (hw'.pt (o := .cells #[m.pv, m.rv] 92 (0, 0)) (by (repeat constructor))) rfl) ?_
 refine S6 (e := 75) (k := 2) (v := m.pv) (q := m.pool.length) (xs := m.pool.flatMap E7) (by (repeat constructor)) ?_
 intro pa pc hpv
 rw [hpv]
 (have zz:=trivial;repeat((first|clear zz|with_reducible first|refine A3 ?_|refine A4 fun _=>?_|refine A5 fun _=>?_);try simp(disch:=first|omega|assumption|((repeat(first|exact A1|exact uH|apply A2|apply uT));first|done|fail)|(simp;first|done|omega|fail))[]))
 refine G3 T9 (fun w' hw' => B4g w' (.slice pa m.pool.length pc) m.pool.length (m.pool.flatMap E7) (by omega) (U1 (k := 2) (fun _ => rfl) _) (B2s _) (K3.own (e := 75) (k := 2) (by (repeat constructor)) w' hw')) ?_
 rintro _ r rfl
 refine C0 r rfl ?_
 try simp only [C8, Q1, hpv]
 (repeat' constructor)
structure PoolBt (w : World) (m : BaH) (v : Value) (p : List G0) : Prop where
 rd : E3 w v p.length (p.flatMap E7)
 off : 0 < p.length → ∀ g ∈ K7 v, g ∉ C7 (C8 m)
 len : p.length ≤ 1000
 form : v.cells = #[v] ∧ plain v = true
theorem PoolBt.at {w w' : World} {m : BaH} {v : Value} {p : List G0} {κ : Bool} (h : PoolBt w m v p) (hk : KS κ (C7 (C8 m)) w w') : E3 w' v p.length (p.flatMap E7) :=
 h.rd.ks0 (fun e => by rw [List.length_eq_zero_iff.1 e]; rfl) hk h.off
theorem B2x (w : World) (m : BaH) (p : List G0) (v : Value) (hv : PoolBt w m v p) (hw : LW false (C7 (C8 m)) w (C8 m) w) :
  Fn PR B3 26 #[.pointer (some ⟨m.b, 0, none⟩), v] w (BDo w m (A4c m.st p)) := by
 refine A3a (TW.goH (κ := false) ?_ hw)
 unfold p8
 obtain ⟨a, c, hvf, _⟩ := hv.rd.form
 have hv2 := hv
 subst hvf
 have hlen := hv.len
 unfold BDo
 generalize hS : C7 (C8 m) = S at *
 simp only [C8, Q1]
 (have zz:=trivial;repeat((first|clear zz|with_reducible first|refine A3 ?_|refine A4 fun _=>?_|refine A5 fun _=>?_);try simp(disch:=first|omega|assumption|((repeat(first|exact A1|exact uH|apply A2|apply uT));first|done|fail)|(simp;first|done|omega|fail))[]))
 refine B8 B4B (fun w' hw' => B6x w' (.slice a p.length c) p (by omega) (hv.at (by rw [hS]; exact hw'.ks))) ?_
 by_cases c1 : N8 p = 0
 ·have e : A4c m.st p = ({ m.st with pool := p }, ⟨0, 0, false, 0⟩) := if_pos c1
  rw [e]
  (have zz:=trivial;repeat((first|clear zz|with_reducible first|refine A3 ?_|refine A4 fun _=>?_|refine A5 fun _=>?_);try simp(disch:=first|omega|assumption|((repeat(first|exact A1|exact uH|apply A2|apply uT));first|done|fail)|(simp;first|done|omega|fail))[c1]))
  refine G3 T9 (fun w' hw' => B4g w' (.slice a p.length c) p.length (p.flatMap E7) (by omega) (U1 (k := 2) (fun _ => rfl) _) (B2s _) (hv.at (by rw [hS]; exact hw'.ks))) ?_
  rintro _ r rfl
  refine S6 (e := 75) (k := 2) (v := r) (q := p.length) (xs := p.flatMap E7) (by (repeat constructor)) ?_
  rintro ra rc rfl
  (have zz:=trivial;repeat((first|clear zz|with_reducible first|refine A3 ?_|refine A4 fun _=>?_|refine A5 fun _=>?_);try simp(disch:=first|omega|assumption|((repeat(first|exact A1|exact uH|apply A2|apply uT));first|done|fail)|(simp;first|done|omega|fail))[]))
  refine G3 B5k (fun w' hw' => C9s w' (.slice a p.length c) p hlen (hv.at (by rw [hS]; exact hw'.ks))) ?_
  rintro _ r rfl
  refine S6 (e := 217) (k := 2) (v := r) (q := (F5 (F1 p)).length) (xs := (F5 (F1 p)).flatMap E2) (by (repeat constructor)) ?_
  rintro qa qc rfl
  (have zz:=trivial;repeat((first|clear zz|with_reducible first|refine A3 ?_|refine A4 fun _=>?_|refine A5 fun _=>?_);try simp(disch:=first|omega|assumption|((repeat(first|exact A1|exact uH|apply A2|apply uT));first|done|fail)|(simp;first|done|omega|fail))[]))
  rename_i bk
  refine C6G (b := m.b) (k := m.k) (c := m.c) (sv := m.sv) (d := #[.slice ra p.length rc, .slice qa (F5 (F1 p)).length qc]) (T2 := 92) (by simp only [Q1]; (repeat' constructor)) (by simp) ?_
  simp only [Q1]
  (have zz:=trivial;repeat((first|clear zz|with_reducible first|refine A3 ?_|refine A4 fun _=>?_|refine A5 fun _=>?_);try simp(disch:=first|omega|assumption|((repeat(first|exact A1|exact uH|apply A2|apply uT));first|done|fail)|(simp;first|done|omega|fail))[]))
  refine C0 { m with k := bk, pv := .slice ra p.length rc, rv := .slice qa (F5 (F1 p)).length qc, pool := p } ⟨by simp [AnsV.val], rfl, rfl⟩ ?_
  try simp only [C8, Q1]
  (repeat' constructor)
 ·have e : A4c m.st p = (m.st, ⟨N8 p, 0, false, 0⟩) := if_neg c1
  rw [e]
  (have zz:=trivial;repeat((first|clear zz|with_reducible first|refine A3 ?_|refine A4 fun _=>?_|refine A5 fun _=>?_);try simp(disch:=first|omega|assumption|((repeat(first|exact A1|exact uH|apply A2|apply uT));first|done|fail)|(simp;first|done|omega|fail))[c1]))
  refine C0 m ⟨by simp [AnsV.val], rfl, rfl⟩ ?_
  try simp only [C8, Q1]
  (repeat' constructor)
end Go.Proofs.YtpbmephflllolaaGreat
namespace Go.Proofs.YtpbmephflllolaaGreat
open Go
theorem B58 {ts : List ShB} {i : Nat} {t u : ShB} (h : ts[i]? = some t) (hb : u.b = t.b) : b9 (ts.set i u) = b9 ts := by
 obtain ⟨hi, rfl⟩ := List.getElem?_eq_some_iff.1 h
 simp only [b9, List.map_set, hb]
 apply List.ext_getElem?
 intro j
 by_cases hj : i = j
 ·subst hj; simp [hi]
 ·rw [List.getElem?_set_ne hj]
theorem C5T {ts : List ShB} {i : Nat} {t : ShB} (h : ts[i]? = some t) : (ts.map (G1 0))[i]? = some (G1 0 t) := by simp [h]
theorem B0j (v : Value) (t : ShB) : N0 v [t] = .own 93 1 v 1 [.pointer (some ⟨t.b, 0, none⟩)] := rfl
structure BaOk (c : CfgV) (m : BaH) : Prop where
 few : m.ts.length ≤ 16
 pos : 0 < m.ts.length
 sh : m.c.sh = m.ts.length
 cfg : m.c = c
 len : ∀ t ∈ m.ts, t.l.length ≤ 64
 keys : ∀ t ∈ m.ts, H6 t.l
 pool : m.pool.length ≤ 1000
theorem BaOk.of {c : CfgV} {m : BaH} (h : Inv c m.st) : BaOk c m := by
 have hb := l0 h.ok
 have hl : m.st.tabs.length = m.ts.length := by simp [BaH.st]
 have hsh := h.sh
 have hc : m.c = c := h.cfg
 have e : (MoH.mk 0 .nilIface .nilIface m.c m.pool (m.ts.map fun t : ShB => ((.nilIface, t.l), t.nx))).st = m.st := by simp [MoH.st, BaH.st]
 have h2 : Inv c (MoH.mk 0 .nilIface .nilIface m.c m.pool (m.ts.map fun t : ShB => ((.nilIface, t.l), t.nx))).st := by rw [e]; exact h
 have hp : m.pool.length ≤ 1000 := h2.ok2.pool
 refine ⟨by omega, by omega, by rw [hc]; omega, hc, fun t ht => ?_, fun t ht => ?_, hp⟩
 ·have := h.tab (t.l, t.nx) (List.mem_map.2 ⟨t, ht, rfl⟩); have h1 := this.len; have h2 := this.few; simp only at h1; omega
 ·exact (h.tab (t.l, t.nx) (List.mem_map.2 ⟨t, ht, rfl⟩)).keys
theorem C4E {X : Nat → Prop} {S : List Nat} {w0 : World} {H Hk : List Res} {K : Value → WP} {b k : Nat} {lk nx : Int} {tv pv rv : Value} {l : List EnV} {p : List G0} {key : ByteArray} {cl : Bool} {now idle : Int} (hk : key.size < 2 ^ 60) (hks : H6 l) (hn : l.length ≤ 1000000) (hl : p.length ≤ 1000)
  (hp : Part ([k5 b lk tv nx, E6 tv l] ++ A8j k pv rv p) H Hk) (hK : ∀ r, TW false S w0 ([k5 b lk r nx, E6 r (E5 l p key cl now idle).1] ++ (A8j k pv rv p ++ Hk)) (K (E5 l p key cl now idle).2.1.val)) :
  TW false S w0 H (B1 PR X 58 [.pointer (some ⟨b, 0, none⟩), .pointer (some ⟨k, 0, none⟩), .string key, .bool cl, .int .i64 now, .int .i64 idle] K) := by
 refine TW.perm (H' := [k5 b lk tv nx, E6 tv l] ++ (A8j k pv rv p ++ Hk)) ?_ (by rw [← List.append_assoc]; exact hp.perm)
 refine F2 (Hc := [k5 b lk tv nx, E6 tv l]) A33 (fun w' hw' hs => B9u w' b k lk nx tv pv rv l p key cl now idle hk hks hn
  (C4g (Hc := [k5 b lk tv nx, E6 tv l]) (Hk := Hk) hw' (by rw [← List.append_assoc]; exact Y7) hl) hs) Y7 ?_
 rintro r _ rfl
 exact hK r
set_option maxHeartbeats 1000000 in
theorem A92 (w : World) (m : BaH) (pk : ByteArray) (now : Int) (c : CfgV) (hpk : pk.size < 2 ^ 40) (hm : BaOk c m) (hw : LW false (C7 (C8 m)) w (C8 m) w) :
  Fn PR B3 24 #[.pointer (some ⟨m.b, 0, none⟩), .string pk, .int .i64 now] w (BDo w m (c8 m.st pk now)) := by
 refine A2c (TW.goH (κ := false) ?_ hw)
 unfold U6
 unfold BDo
 have hlen := hm.few
 generalize hS : C7 (C8 m) = S at *
 simp only [C8, Q1, N0]
 refine S6 (e := 93) (k := 1) (v := m.sv) (q := m.ts.length) (xs := b9 m.ts) (by (repeat constructor)) ?_
 intro sa sc hsv
 rw [hsv]
 (have zz:=trivial;repeat((first|clear zz|with_reducible first|refine A3 ?_|refine A4 fun _=>?_|refine A5 fun _=>?_);try simp(disch:=first|omega|assumption|((repeat(first|exact A1|exact uH|apply A2|apply uT));first|done|fail)|(simp;first|done|omega|fail))[]))
 refine B8 B1s (fun w' hw' => B3u w' pk hpk) ?_
 by_cases c1 : (D8 pk).2.2 = 0
 case neg =>
  have e : c8 m.st pk now = (m.st, ⟨9, 0, false, 0⟩) := by unfold c8; simp only; rw [if_pos c1]
  rw [e]
  (have zz:=trivial;repeat((first|clear zz|with_reducible first|refine A3 ?_|refine A4 fun _=>?_|refine A5 fun _=>?_);try simp(disch:=first|omega|assumption|((repeat(first|exact A1|exact uH|apply A2|apply uT));first|done|fail)|(simp;first|done|omega|fail))[packet.val, S3, c1]))
  refine C0 m ⟨by simp [AnsV.val], rfl, rfl⟩ ?_
  try simp only [C8, Q1, N0, hsv]
  (repeat' constructor)
 have hk := A6V (D8 pk).1
 (have zz:=trivial;repeat((first|clear zz|with_reducible first|refine A3 ?_|refine A4 fun _=>?_|refine A5 fun _=>?_);try simp(disch:=first|omega|assumption|((repeat(first|exact A1|exact uH|apply A2|apply uT));first|done|fail)|(simp;first|done|omega|fail))[packet.val, S3, c1]))
 refine B8 (u := y0 (D8 pk).1) B2D (fun w' hw' => C3b w' (D8 pk).1) ?_
 (have zz:=trivial;repeat((first|clear zz|with_reducible first|refine A3 ?_|refine A4 fun _=>?_|refine A5 fun _=>?_);try simp(disch:=first|omega|assumption|((repeat(first|exact A1|exact uH|apply A2|apply uT));first|done|fail)|(simp;first|done|omega|fail))[y0]))
 rename_i b4 b6
 have hsh := hm.sh
 have hpos := hm.pos
 rw [show (if S2 (D8 pk).1 = true then A1C (D8 pk).1 else Q8) = p5 (D8 pk).1 from rfl]
 generalize hkey : p5 (D8 pk).1 = key at *
 have e : c8 m.st pk now = ({ m.st with tabs := m.st.tabs.set (M6 key m.c.sh) ((E5 (m.st.tabs.getD (M6 key m.c.sh) ([], 0)).1 m.pool key (S9 (D8 pk).1 (D8 pk).2.1) now m.c.idle).1, (m.st.tabs.getD (M6 key m.c.sh) ([], 0)).2) },
   (E5 (m.st.tabs.getD (M6 key m.c.sh) ([], 0)).1 m.pool key (S9 (D8 pk).1 (D8 pk).2.1) now m.c.idle).2.1) := by
  unfold c8; simp only; rw [if_neg (by rw [c1]; simp), hkey]; rfl
 rw [e]
 refine B8 B3G (fun w' hw' => C3a w' key (m.ts.length : Nat) hk (by omega)) ?_
 rw [← hsh]
 have hlt : M6 key m.c.sh < m.ts.length := by
  unfold M6; rw [if_neg (by omega), hsh, Int.toNat_natCast]; exact Nat.mod_lt _ hpos
 generalize M6 key m.c.sh = i at *
 obtain ⟨t, hx⟩ : ∃ x, m.ts[i]? = some x := ⟨_, List.getElem?_eq_getElem hlt⟩
 have hxm := List.mem_of_getElem? hx
 have hgd : m.st.tabs.getD i ([], 0) = (t.l, t.nx) := by simp [BaH.st, List.getD_eq_getElem?_getD, hx]
 rw [hgd]
 simp only
 have hp := A7a hx
 refine A2E (e := 93) (k := 1) (v := .slice sa m.ts.length sc) (q := m.ts.length) (xs := b9 m.ts) (by (repeat constructor)) (by omega) ?_
 rintro g gc hg
 cases hg
 (have zz:=trivial;repeat((first|clear zz|with_reducible first|refine A3 ?_|refine A4 fun _=>?_|refine A5 fun _=>?_|refine D1 fun _=>?_|refine D0 (hK:=fun _=>?_)|refine D3 (hK:=fun _=>?_)|refine D2 (hK:=fun _=>?_)|refine D4 (hK:=fun _=>?_)|refine C9 (hK:=fun _=>?_));try simp(disch:=first|omega|assumption|((repeat(first|exact A1|exact uH|apply A2|apply uT));first|done|fail)|(simp;first|done|omega|fail))[hlt, hp]))
 rename_i gs
 refine A70 (f := H8) (i := i) (by (repeat' constructor)) (C5T hx) ?_
 simp only [H8, List.cons_append, List.nil_append]
 refine B00 (f := H8) (x := G1 0 t) (by simp only [H8]; (repeat' constructor)) ?_
 refine F2 (Hc := [.own 93 1 (.slice (some ⟨gs, 0, none⟩) 1 1) 1 [.pointer (some ⟨t.b, 0, none⟩)], G7 H8 [G1 0 t]]) v7 (fun w' _ hs => B0b w' _ [t] (by simp) hs) (by (repeat' constructor)) ?_
 rintro bx _ rfl
 simp only [B0j, List.map_cons, List.map_nil, List.cons_append, List.nil_append]
 refine C0J ?_
 (have zz:=trivial;repeat((first|clear zz|with_reducible first|refine A3 ?_|refine A4 fun _=>?_|refine A5 fun _=>?_);try simp(disch:=first|omega|assumption|((repeat(first|exact A1|exact uH|apply A2|apply uT));first|done|fail)|(simp;first|done|omega|fail))[]))
 refine B8 Q2 (fun w' hw' => B60 w' m.b m.k _ _ _ (hw'.pt (by (repeat constructor))) rfl (hw'.pt (o := .cells #[m.pv, m.rv] 92 (0, 0)) (by (repeat constructor))) rfl) ?_
 (have zz:=trivial;repeat((first|clear zz|with_reducible first|refine A3 ?_|refine A4 fun _=>?_|refine A5 fun _=>?_);try simp(disch:=first|omega|assumption|((repeat(first|exact A1|exact uH|apply A2|apply uT));first|done|fail)|(simp;first|done|omega|fail))[]))
 rw [V4 (by (repeat constructor)) (by rfl)]
 (have zz:=trivial;repeat((first|clear zz|with_reducible first|refine A3 ?_|refine A4 fun _=>?_|refine A5 fun _=>?_);try simp(disch:=first|omega|assumption|((repeat(first|exact A1|exact uH|apply A2|apply uT));first|done|fail)|(simp;first|done|omega|fail))[]))
 refine B8 A95 (fun w' _ => C0w w' (D8 pk).1 (D8 pk).2.1) ?_
 (have zz:=trivial;repeat((first|clear zz|with_reducible first|refine A3 ?_|refine A4 fun _=>?_|refine A5 fun _=>?_);try simp(disch:=first|omega|assumption|((repeat(first|exact A1|exact uH|apply A2|apply uT));first|done|fail)|(simp;first|done|omega|fail))[]))
 generalize S9 (D8 pk).1 (D8 pk).2.1 = cl at *
 refine A8Z (f := H8) (x := G1 1 t) (by (repeat' constructor)) ?_
 simp only [H8, G1, List.cons_append, List.nil_append]
 have hkey2 := hm.keys _ hxm
 have hlen2 := hm.len _ hxm
 refine C4E (nx := (t.nx : Nat)) (tv := t.tv) (pv := m.pv) (rv := m.rv) (l := t.l) (p := m.pool) hk hkey2 (by omega) hm.pool (by simp only [A8j, List.cons_append, List.nil_append]; (repeat' constructor)) fun r => ?_
 simp only [A8j, List.cons_append, List.nil_append]
 (have zz:=trivial;repeat((first|clear zz|with_reducible first|refine A3 ?_|refine A4 fun _=>?_|refine A5 fun _=>?_);try simp(disch:=first|omega|assumption|((repeat(first|exact A1|exact uH|apply A2|apply uT));first|done|fail)|(simp;first|done|omega|fail))[AnsV.val]))
 refine B00 (f := H8) (x := G1 1 ⟨t.b, 1, r, (E5 t.l m.pool key cl now m.c.idle).1, t.nx⟩) (by simp only [H8, G1]; (repeat' constructor)) ?_
 refine C0p (Hc := [.pt bx (.cells #[.slice (some ⟨gs, 0, none⟩) 1 1] 86), .own 93 1 (.slice (some ⟨gs, 0, none⟩) 1 1) 1 [.pointer (some ⟨t.b, 0, none⟩)], G7 H8 [G1 1 ⟨t.b, 1, r, (E5 t.l m.pool key cl now m.c.idle).1, t.nx⟩]]) m4
  (fun w' _ hs => B0a w' bx _ [⟨t.b, 1, r, (E5 t.l m.pool key cl now m.c.idle).1, t.nx⟩] (by simp) hs) (by (repeat' constructor)) ?_
 rintro _ _ rfl
 simp only [B0j, List.map_cons, List.map_nil, List.cons_append, List.nil_append]
 refine A8Z (f := H8) (x := G1 0 ⟨t.b, 1, r, (E5 t.l m.pool key cl now m.c.idle).1, t.nx⟩) (by (repeat' constructor)) ?_
 simp only [H8, List.cons_append, List.nil_append]
 refine A9f (f := H8) (y := G1 0 ⟨t.b, 1, r, (E5 t.l m.pool key cl now m.c.idle).1, t.nx⟩) (ls := m.ts.map (G1 0)) (i := i) (by simp only [H8, List.cons_append, List.nil_append]; (repeat' constructor)) (by simpa using hlt) ?_
 (have zz:=trivial;repeat((first|clear zz|with_reducible first|refine A3 ?_|refine A4 fun _=>?_|refine A5 fun _=>?_);try simp(disch:=first|omega|assumption|((repeat(first|exact A1|exact uH|apply A2|apply uT));first|done|fail)|(simp;first|done|omega|fail))[]))
 refine C0 { m with sv := .slice (some ⟨g, 0, none⟩) m.ts.length sc, ts := m.ts.set i ⟨t.b, 1, r, (E5 t.l m.pool key cl now m.c.idle).1, t.nx⟩ } ⟨by simp [AnsV.val], rfl, by simp [BaH.st, List.map_set]⟩ ?_
 simp only [C8, Q1, N0, B58 hx, List.length_set, List.map_set]
 (repeat' constructor)
set_option maxHeartbeats 1000000 in
theorem B3c (w : World) (m : BaH) (j now : Int) (c : CfgV) (hm : BaOk c m) (hw : LW false (C7 (C8 m)) w (C8 m) w) :
  Fn PR B3 27 #[.pointer (some ⟨m.b, 0, none⟩), .int .i64 j, .int .i64 now] w (BDo w m (A0B m.st j now)) := by
 refine A3H (TW.goH (κ := false) ?_ hw)
 unfold W2
 unfold BDo
 have hlen := hm.few
 have hstl : m.st.tabs.length = m.ts.length := by simp [BaH.st]
 generalize hS : C7 (C8 m) = S at *
 simp only [C8, Q1, N0]
 refine S6 (e := 93) (k := 1) (v := m.sv) (q := m.ts.length) (xs := b9 m.ts) (by (repeat constructor)) ?_
 intro sa sc hsv
 rw [hsv]
 by_cases c1 : j < 0
 ·have e : A0B m.st j now = (m.st, ⟨1, 0, false, 0⟩) := if_pos (Or.inl c1)
  rw [e]
  (have zz:=trivial;repeat((first|clear zz|with_reducible first|refine A3 ?_|refine A4 fun _=>?_|refine A5 fun _=>?_);try simp(disch:=first|omega|assumption|((repeat(first|exact A1|exact uH|apply A2|apply uT));first|done|fail)|(simp;first|done|omega|fail))[c1]))
  refine C0 m ⟨by simp [AnsV.val], rfl, rfl⟩ ?_
  simp only [C8, Q1, N0, hsv]
  (repeat' constructor)
 by_cases c2 : (m.ts.length : Int) ≤ j
 ·have e : A0B m.st j now = (m.st, ⟨1, 0, false, 0⟩) := if_pos (Or.inr (by rw [hstl]; exact c2))
  rw [e]
  (have zz:=trivial;repeat((first|clear zz|with_reducible first|refine A3 ?_|refine A4 fun _=>?_|refine A5 fun _=>?_);try simp(disch:=first|omega|assumption|((repeat(first|exact A1|exact uH|apply A2|apply uT));first|done|fail)|(simp;first|done|omega|fail))[c1, c2]))
  refine C0 m ⟨by simp [AnsV.val], rfl, rfl⟩ ?_
  simp only [C8, Q1, N0, hsv]
  (repeat' constructor)
 obtain ⟨i, hi⟩ : ∃ i : Nat, j = i := ⟨j.toNat, by omega⟩
 rw [hi] at c1 c2 ⊢
 have hlt : i < m.ts.length := by omega
 obtain ⟨t, hx⟩ : ∃ x, m.ts[i]? = some x := ⟨_, List.getElem?_eq_getElem hlt⟩
 have hxm := List.mem_of_getElem? hx
 have hgd : m.st.tabs.getD i ([], 0) = (t.l, t.nx) := by simp [BaH.st, List.getD_eq_getElem?_getD, hx]
 have e : A0B m.st i now = ({ m.st with tabs := m.st.tabs.set i ((E1 t.l t.nx 4 now).1, (E1 t.l t.nx 4 now).2.1) }, ⟨0, 0, false, ((E1 t.l t.nx 4 now).2.2 : Nat)⟩) := by
  unfold A0B
  rw [if_neg (by rw [hstl]; omega)]
  simp only [Int.toNat_natCast, hgd]
 rw [e]
 have hp := A7a hx
 refine A2E (e := 93) (k := 1) (v := .slice sa m.ts.length sc) (q := m.ts.length) (xs := b9 m.ts) (by (repeat constructor)) (by omega) ?_
 rintro g gc hg
 cases hg
 have hi0 : ¬ ((i : Nat) : Int) < 0 := by omega
 (have zz:=trivial;repeat((first|clear zz|with_reducible first|refine A3 ?_|refine A4 fun _=>?_|refine A5 fun _=>?_|refine D1 fun _=>?_|refine D0 (hK:=fun _=>?_)|refine D3 (hK:=fun _=>?_)|refine D2 (hK:=fun _=>?_)|refine D4 (hK:=fun _=>?_)|refine C9 (hK:=fun _=>?_));try simp(disch:=first|omega|assumption|((repeat(first|exact A1|exact uH|apply A2|apply uT));first|done|fail)|(simp;first|done|omega|fail))[hi0, c2, hlt, hp]))
 rename_i gs
 refine A70 (f := H8) (i := i) (by (repeat' constructor)) (C5T hx) ?_
 simp only [H8, List.cons_append, List.nil_append]
 refine B00 (f := H8) (x := G1 0 t) (by simp only [H8]; (repeat' constructor)) ?_
 refine F2 (Hc := [.own 93 1 (.slice (some ⟨gs, 0, none⟩) 1 1) 1 [.pointer (some ⟨t.b, 0, none⟩)], G7 H8 [G1 0 t]]) v7 (fun w' _ hs => B0b w' _ [t] (by simp) hs) (by (repeat' constructor)) ?_
 rintro bx _ rfl
 simp only [B0j, List.map_cons, List.map_nil, List.cons_append, List.nil_append]
 refine C0J ?_
 refine A8Z (f := H8) (x := G1 1 t) (by (repeat' constructor)) ?_
 simp only [H8, G1, k5, List.cons_append, List.nil_append]
 have hkey2 := hm.keys _ hxm
 have hlen2 := hm.len _ hxm
 (have zz:=trivial;repeat((first|clear zz|with_reducible first|refine A3 ?_|refine A4 fun _=>?_|refine A5 fun _=>?_);try simp(disch:=first|omega|assumption|((repeat(first|exact A1|exact uH|apply A2|apply uT));first|done|fail)|(simp;first|done|omega|fail))[]))
 refine G3 B3z (fun w' hw' => C6e w' t.tv t.l t.nx 4 now hkey2 (by omega) (K3.own (e := 160) (k := 4) (by (repeat constructor)) w' hw')) ?_
 rintro r _ rfl
 refine A3L (e := 160) (k := 4) (v := r) (q := (E1 t.l t.nx 4 now).1.length) (xs := (E1 t.l t.nx 4 now).1.flatMap D9) (by (repeat constructor)) fun hr1 hr2 hr3 => ?_
 (have zz:=trivial;repeat((first|clear zz|with_reducible first|refine A3 ?_|refine A4 fun _=>?_|refine A5 fun _=>?_);try simp(disch:=first|omega|assumption|((repeat(first|exact A1|exact uH|apply A2|apply uT));first|done|fail)|(simp;first|done|omega|fail))[hr1]))
 refine B00 (f := H8) (x := G1 1 ⟨t.b, 1, r, (E1 t.l t.nx 4 now).1, (E1 t.l t.nx 4 now).2.1⟩) (by simp only [H8, G1, k5]; (repeat' constructor)) ?_
 refine C0p (Hc := [.pt bx (.cells #[.slice (some ⟨gs, 0, none⟩) 1 1] 86), .own 93 1 (.slice (some ⟨gs, 0, none⟩) 1 1) 1 [.pointer (some ⟨t.b, 0, none⟩)], G7 H8 [G1 1 ⟨t.b, 1, r, (E1 t.l t.nx 4 now).1, (E1 t.l t.nx 4 now).2.1⟩]]) m4
  (fun w' _ hs => B0a w' bx _ [⟨t.b, 1, r, (E1 t.l t.nx 4 now).1, (E1 t.l t.nx 4 now).2.1⟩] (by simp) hs) (by (repeat' constructor)) ?_
 rintro _ _ rfl
 simp only [B0j, List.map_cons, List.map_nil, List.cons_append, List.nil_append]
 refine A8Z (f := H8) (x := G1 0 ⟨t.b, 1, r, (E1 t.l t.nx 4 now).1, (E1 t.l t.nx 4 now).2.1⟩) (by (repeat' constructor)) ?_
 simp only [H8, List.cons_append, List.nil_append]
 refine A9f (f := H8) (y := G1 0 ⟨t.b, 1, r, (E1 t.l t.nx 4 now).1, (E1 t.l t.nx 4 now).2.1⟩) (ls := m.ts.map (G1 0)) (i := i) (by simp only [H8, List.cons_append, List.nil_append]; (repeat' constructor)) (by simpa using hlt) ?_
 (have zz:=trivial;repeat((first|clear zz|with_reducible first|refine A3 ?_|refine A4 fun _=>?_|refine A5 fun _=>?_);try simp(disch:=first|omega|assumption|((repeat(first|exact A1|exact uH|apply A2|apply uT));first|done|fail)|(simp;first|done|omega|fail))[]))
 refine C0 { m with sv := .slice (some ⟨g, 0, none⟩) m.ts.length sc, ts := m.ts.set i ⟨t.b, 1, r, (E1 t.l t.nx 4 now).1, (E1 t.l t.nx 4 now).2.1⟩ } ⟨by simp [AnsV.val], rfl, by simp [BaH.st, List.map_set]⟩ ?_
 simp only [C8, Q1, N0, B58 hx, List.length_set, List.map_set]
 (repeat' constructor)
end Go.Proofs.YtpbmephflllolaaGreat
namespace Go.Proofs.YtpbmephflllolaaGreat
open Go
theorem A3Z (l : List EnV) : (W8 l).length = F3 l 1 := by
 have : ∀ (m : List EnV) (i : Nat), (N9 i m).length = F3 m 1 := by
  intro m
  induction m with
  | nil => intro i; simp [N9, F3]
  | cons x m ih =>
   intro i
   have h := ih (i + 1)
   by_cases c : x.st = 1
   ·simp [N9, F3, c, h]
   ·simp [N9, F3, c, h]
 simp only [W8, List.length_map, G6, this]
def M3 (tabs : List (List EnV × Nat)) : List ByteArray := tabs.flatMap fun t => W8 t.1
theorem C3A (tabs : List (List EnV × Nat)) : (M3 tabs).length = B0r tabs := by
 unfold M3 B0r
 induction tabs with
 | nil => rfl
 | cons t tabs ih => rw [List.flatMap_cons, List.length_append, ih, A3Z]; simp
theorem B6K {tabs : List (List EnV × Nat)} (h : ∀ t ∈ tabs, t.1.length ≤ 64) : (M3 tabs).length ≤ tabs.length * 64 := by
 unfold M3
 induction tabs with
 | nil => simp
 | cons t tabs ih =>
  have h1 := ih fun t ht => h t (by simp [ht])
  have h2 := h t (by simp)
  have h3 : (W8 t.1).length ≤ t.1.length := by rw [A3Z]; exact List.countP_le_length
  rw [List.flatMap_cons, List.length_append, List.length_cons]; omega
set_option maxHeartbeats 1000000 in
theorem B62 (w : World) (m : BaH) (c : CfgV) (hm : BaOk c m) (hw : LW false (C7 (C8 m)) w (C8 m) w) :
  Fn PR B3 16 #[.pointer (some ⟨m.b, 0, none⟩)] w (Rn (C7 (C8 m)) w (fun (r : Value) u => u = r) fun r => .own 9 1 r (M3 m.st.tabs).length ((M3 m.st.tabs).map Value.string) :: C8 m) := by
 refine A4A (TW.goH (κ := false) ?_ hw)
 unfold Z8
 have hlen := hm.few
 obtain ⟨tb, htb⟩ : ∃ tb, tb = m.st.tabs := ⟨_, rfl⟩
 have htl : tb.length = m.ts.length := by rw [htb]; simp [BaH.st]
 have hall : ∀ t ∈ tb, t.1.length ≤ 64 := fun t ht => by
  rw [htb] at ht
  obtain ⟨x, hx, rfl⟩ := List.mem_map.1 ht; exact hm.len x hx
 rw [← htb]
 generalize hS : C7 (C8 m) = S at *
 simp only [C8, Q1, N0]
 refine S6 (e := 93) (k := 1) (v := m.sv) (q := m.ts.length) (xs := b9 m.ts) (by (repeat constructor)) ?_
 intro sa sc hsv
 rw [hsv]
 (have zz:=trivial;repeat((first|clear zz|with_reducible first|refine A3 ?_|refine A4 fun _=>?_|refine A5 fun _=>?_);try simp(disch:=first|omega|assumption|((repeat(first|exact A1|exact uH|apply A2|apply uT));first|done|fail)|(simp;first|done|omega|fail))[]))
 refine F2 (Hc := [N0 (.slice sa m.ts.length sc) m.ts, G7 H8 (m.ts.map (G1 0))]) v7 (fun w' _ hs => B0b w' _ m.ts (by omega) hs) (by simp only [N0]; (repeat' constructor)) ?_
 rintro bx _ rfl
 simp only [N0, List.cons_append, List.nil_append]
 refine C0J ?_
 refine Z9 9 1 ?_
 (have zz:=trivial;repeat((first|clear zz|with_reducible first|refine A3 ?_|refine A4 fun _=>?_|refine A5 fun _=>?_);try simp(disch:=first|omega|assumption|((repeat(first|exact A1|exact uH|apply A2|apply uT));first|done|fail)|(simp;first|done|omega|fail))[]))
 refine Sels.tw (rs := [.own 9 1 (.slice none 0 0) 0 [], .pt bx (.cells #[.slice sa m.ts.length sc] 86), .own 93 1 (.slice sa m.ts.length sc) m.ts.length (b9 m.ts), G7 H8 (m.ts.map (G1 1)), .pt m.b (.cells #[.int .i64 m.c.wk, .int .i64 m.c.sh, .int .i64 m.c.cp, .int .i64 m.c.idle, .int .i64 m.c.sl, .pointer (some ⟨m.k, 0, none⟩), .slice sa m.ts.length sc] 88 (0, 0)),
  .pt m.k (.cells #[m.pv, m.rv] 92 (0, 0)), .own 75 2 m.pv m.pool.length (m.pool.flatMap E7), .own 217 2 m.rv (F5 (F1 m.pool)).length ((F5 (F1 m.pool)).flatMap E2)]) (by (repeat' constructor)) ?_
 refine K8 (α := Option Addr × Nat) m.ts.length (fun i x => .slice x.1 (M3 (tb.take i)).length x.2) (fun i x => [.own 9 1 (.slice x.1 (M3 (tb.take i)).length x.2) (M3 (tb.take i)).length ((M3 (tb.take i)).map Value.string), .pt bx (.cells #[.slice sa m.ts.length sc] 86), .own 93 1 (.slice sa m.ts.length sc) m.ts.length (b9 m.ts), G7 H8 (m.ts.map (G1 1)), .pt m.b (.cells #[.int .i64 m.c.wk, .int .i64 m.c.sh, .int .i64 m.c.cp, .int .i64 m.c.idle, .int .i64 m.c.sl, .pointer (some ⟨m.k, 0, none⟩), .slice sa m.ts.length sc] 88 (0, 0)),
  .pt m.k (.cells #[m.pv, m.rv] 92 (0, 0)), .own 75 2 m.pv m.pool.length (m.pool.flatMap E7), .own 217 2 m.rv (F5 (F1 m.pool)).length ((F5 (F1 m.pool)).flatMap E2)]) (fun _ _ => True) (none, 0) trivial ?_
 rintro i ⟨xa, xc⟩ hi _ L hL
 have hsum : (M3 (tb.take i)).length ≤ 1024 := by
  have h1 := B6K (tabs := tb.take i) fun t ht => hall t (List.mem_of_mem_take ht)
  have h2 : (tb.take i).length ≤ 16 := by rw [List.length_take]; omega
  omega
 by_cases hlt : i < m.ts.length
 ·have hx := List.getElem?_eq_getElem hlt
  have hp := A7a hx
  have hxm := List.getElem_mem hlt
  have hlk : (m.ts.map (G1 1))[i]? = some (G1 1 m.ts[i]) := by simp [hlt]
  have hst : M3 (tb.take (i + 1)) = M3 (tb.take i) ++ W8 (m.ts[i]).l := by
   have hx2 : tb[i]? = some ((m.ts[i]).l, (m.ts[i]).nx) := by rw [htb]; simp [BaH.st, hlt]
   rw [List.take_add_one, hx2]; simp [M3, List.flatMap_append]
  simp only [hst] at hL
  have hl64 := hm.len _ hxm
  have hkl : (W8 (m.ts[i]).l).length ≤ 64 := by rw [A3Z]; exact Nat.le_trans List.countP_le_length hl64
  generalize m.ts[i] = t at *
  refine A2E (e := 93) (k := 1) (v := .slice sa m.ts.length sc) (q := m.ts.length) (xs := b9 m.ts) (by (repeat constructor)) (by omega) ?_
  rintro g gc hg
  cases hg
  refine A70 (f := H8) (i := i) (ls := m.ts.map (G1 1)) (by (repeat' constructor)) hlk ?_
  simp only [H8, G1, k5, List.cons_append, List.nil_append]
  (have zz:=trivial;repeat((first|clear zz|with_reducible first|refine A3 ?_|refine A4 fun _=>?_|refine A5 fun _=>?_);try simp(disch:=first|omega|assumption|((repeat(first|exact A1|exact uH|apply A2|apply uT));first|done|fail)|(simp;first|done|omega|fail))[hlt, hp]))
  refine G3 B31 (fun w' hw' => C6c w' t.tv t.l (by omega) (K3.own (e := 160) (k := 4) (by (repeat constructor)) w' hw')) ?_
  rintro _ r rfl
  refine Y5 (e := 9) (k := 1) (q := (M3 (tb.take i)).length) (r := (W8 t.l).length) (xs := (M3 (tb.take i)).map Value.string) (news := (W8 t.l).map Value.string) (by (repeat constructor)) (K3.own (by (repeat constructor))) (by decide) (by simp) (by simp [List.all_map, Function.comp_def]) (by simp only [maxLen]; omega) (by omega) fun a' c' => ?_
  refine A9f (f := H8) (y := G1 1 t) (ls := m.ts.map (G1 1)) (i := i) (by simp only [H8, G1, k5, List.cons_append, List.nil_append]; (repeat' constructor)) (by simpa using hlt) ?_
  have hsame : (m.ts.map (G1 1)).set i (G1 1 t) = m.ts.map (G1 1) := by
   obtain ⟨h1, h2⟩ := List.getElem?_eq_some_iff.1 hlk
   rw [← h2]; exact List.set_getElem_self h1
  rw [hsame]
  (have zz:=trivial;repeat((first|clear zz|with_reducible first|refine A3 ?_|refine A4 fun _=>?_|refine A5 fun _=>?_);try simp(disch:=first|omega|assumption|((repeat(first|exact A1|exact uH|apply A2|apply uT));first|done|fail)|(simp;first|done|omega|fail))[]))
  have h := hL hlt (a', c') trivial
  simp only [List.length_append, List.map_append] at h
  exact Sels.tw (by (repeat' constructor)) h
 ·obtain rfl : i = m.ts.length := by omega
  rw [← htl, List.take_length]
  (have zz:=trivial;repeat((first|clear zz|with_reducible first|refine A3 ?_|refine A4 fun _=>?_|refine A5 fun _=>?_);try simp(disch:=first|omega|assumption|((repeat(first|exact A1|exact uH|apply A2|apply uT));first|done|fail)|(simp;first|done|omega|fail))[]))
  rw [htl]
  refine C0p (Hc := [.pt bx (.cells #[.slice sa m.ts.length sc] 86), N0 (.slice sa m.ts.length sc) m.ts, G7 H8 (m.ts.map (G1 1))]) m4
   (fun w' _ hs => B0a w' bx _ m.ts (by omega) hs) (by simp only [N0]; (repeat' constructor)) ?_
  rintro _ _ rfl
  simp only [N0, List.cons_append, List.nil_append]
  refine C0 (.slice xa (M3 tb).length xc) rfl ?_
  try simp only [C8, Q1, N0, hsv]
  (repeat' constructor)
end Go.Proofs.YtpbmephflllolaaGreat
namespace Go.Proofs.YtpbmephflllolaaGreat
open Go
theorem L9.str_at {w : World} {b o : Nat} {l : List ByteArray} (h : L9 w b o (l.map Value.string)) {i : Nat} {x : ByteArray} (hx : l[i]? = some x) : w.cell? ⟨b, o + i, none⟩ = some (.string x) := h.get (by simp [hx])
theorem C4a (w : World) (va vb : Value) (l : List ByteArray) (hl : l.length ≤ 1000000) (ha : E3 w va l.length (l.map Value.string)) (hb : E3 w vb l.length (l.map Value.string)) :
  Fn PR B3 15 #[va, vb] w (fun u w' => u = .bool true ∧ C1 [] w w') := by
 refine Fn.pure (A5Z (TW.go (κ := false) (S := []) ?_))
 unfold A0c
 obtain ⟨a1, c1, rfl, h1⟩ := ha.form
 obtain ⟨a2, c2, rfl, h2⟩ := hb.form
 (have zz:=trivial;repeat((first|clear zz|with_reducible first|refine A3 ?_|refine A4 fun _=>?_|refine A5 fun _=>?_);try simp(disch:=first|omega|assumption|((repeat(first|exact A1|exact uH|apply A2|apply uT));first|done|fail)|(simp;first|done|omega|fail))[]))
 refine K8 (α := Unit) l.length (fun _ _ => .bool false) (fun _ _ => []) (fun _ _ => True) () trivial ?_
 rintro i _ hi _ L hL
 by_cases hlt : i < l.length
 ·have hx := List.getElem?_eq_getElem hlt
  obtain ⟨b1, o1, rfl, r1⟩ := h1 (by omega)
  obtain ⟨b2, o2, rfl, r2⟩ := h2 (by omega)
  have e1 := r1.str_at hx
  have e2 := r2.str_at hx
  (have zz:=trivial;repeat((first|clear zz|with_reducible first|refine A3 ?_|refine A4 fun _=>?_|refine A5 fun _=>?_);try simp(disch:=first|omega|assumption|((repeat(first|exact A1|exact uH|apply A2|apply uT));first|done|fail)|(simp;first|done|omega|fail))[hlt, e1, e2]))
  exact hL hlt () trivial
 ·obtain rfl : i = l.length := by omega
  (have zz:=trivial;repeat((first|clear zz|with_reducible first|refine A3 ?_|refine A4 fun _=>?_|refine A5 fun _=>?_);try simp(disch:=first|omega|assumption|((repeat(first|exact A1|exact uH|apply A2|apply uT));first|done|fail)|(simp;first|done|omega|fail))[]))
  exact A9 rfl
def g6 (l : List EnV) : List ByteArray := (l.filter fun x => decide (x.st = 1)).map (·.key)
theorem C46 (l : List EnV) : g6 l = W8 l := by
 have : ∀ (m : List EnV) (i : Nat), (N9 i m).map (·.2.key) = g6 m := by
  intro m
  induction m with
  | nil => intro i; rfl
  | cons x m ih =>
   intro i
   have h := ih (i + 1)
   by_cases c : x.st = 1
   ·simp [N9, g6, c] at h ⊢; exact h
   ·simp [N9, g6, c] at h ⊢; exact h
 exact (this l 0).symm
theorem C1W (w : World) (v : Value) (l : List EnV) (hn : l.length ≤ 1000000) (hv : E3 w v l.length (l.flatMap D9)) :
  Fn PR B3 48 #[v] w (Rn [] w (fun (r : Value) u => u = r) fun r => [.own 9 1 r (W8 l).length ((W8 l).map Value.string)]) := by
 refine A7K (TW.go (κ := false) (S := []) ?_)
 unfold A1B
 rw [← C46]
 obtain ⟨a, c, rfl, hr⟩ := hv.form
 refine Z9 9 1 ?_
 (have zz:=trivial;repeat((first|clear zz|with_reducible first|refine A3 ?_|refine A4 fun _=>?_|refine A5 fun _=>?_);try simp(disch:=first|omega|assumption|((repeat(first|exact A1|exact uH|apply A2|apply uT));first|done|fail)|(simp;first|done|omega|fail))[]))
 refine K8 (α := Option Addr × Nat) l.length (fun i x => .slice x.1 (g6 (l.take i)).length x.2) (fun i x => [.own 9 1 (.slice x.1 (g6 (l.take i)).length x.2) (g6 (l.take i)).length ((g6 (l.take i)).map Value.string)]) (fun _ _ => True) (none, 0) trivial ?_
 rintro i ⟨xa, xc⟩ hi _ L hL
 have hle : (g6 (l.take i)).length ≤ 1000000 := by
  have h1 : (g6 (l.take i)).length ≤ (l.take i).length := by simp only [g6, List.length_map]; exact List.length_filter_le _ _
  rw [List.length_take] at h1; omega
 by_cases hlt : i < l.length
 ·have hx := List.getElem?_eq_getElem hlt
  obtain ⟨b, o, rfl, hrow⟩ := hr (by omega)
  have h0 := hrow.cellAt (f := D9) (k := 4) (j := 0) (fun _ => rfl) hx rfl
  have h1 := hrow.cellAt (f := D9) (k := 4) (j := 1) (fun _ => rfl) hx rfl
  have hst : g6 (l.take (i + 1)) = g6 (l.take i) ++ (if (l[i]).st = 1 then [(l[i]).key] else []) := by
   rw [List.take_add_one, hx, g6, List.filter_append, List.map_append]
   by_cases c : (l[i]).st = 1 <;> simp [g6, c]
  simp only [hst] at hL
  generalize l[i] = x at *
  by_cases c1 : x.st = 1
  ·simp only [c1, if_true] at hL h0
   (have zz:=trivial;repeat((first|clear zz|with_reducible first|refine A3 ?_|refine A4 fun _=>?_|refine A5 fun _=>?_|refine D1 fun _=>?_|refine D0 (hK:=fun _=>?_)|refine D3 (hK:=fun _=>?_)|refine D2 (hK:=fun _=>?_)|refine D4 (hK:=fun _=>?_)|refine C9 (hK:=fun _=>?_));try simp(disch:=first|omega|assumption|((repeat(first|exact A1|exact uH|apply A2|apply uT));first|done|fail)|(simp;first|done|omega|fail))[hlt, h0, h1, c1]))
   refine Y5 (e := 9) (k := 1) (q := (g6 (l.take i)).length) (r := 1) (xs := (g6 (l.take i)).map Value.string) (news := [Value.string x.key]) (by (repeat constructor)) (K3.own (by (repeat constructor))) (by decide) (by simp) (by simp) (by simp only [maxLen]; omega) (by omega) fun a' c' => ?_
   (have zz:=trivial;repeat((first|clear zz|with_reducible first|refine A3 ?_|refine A4 fun _=>?_|refine A5 fun _=>?_);try simp(disch:=first|omega|assumption|((repeat(first|exact A1|exact uH|apply A2|apply uT));first|done|fail)|(simp;first|done|omega|fail))[]))
   have h := hL hlt (a', c') trivial
   simp only [List.length_append, List.map_append, List.length_cons, List.length_nil, Nat.zero_add, List.map_cons, List.map_nil] at h
   exact Sels.tw (by (repeat' constructor)) h
  ·simp only [c1, if_false, List.append_nil] at hL
   (have zz:=trivial;repeat((first|clear zz|with_reducible first|refine A3 ?_|refine A4 fun _=>?_|refine A5 fun _=>?_);try simp(disch:=first|omega|assumption|((repeat(first|exact A1|exact uH|apply A2|apply uT));first|done|fail)|(simp;first|done|omega|fail))[hlt, h0, h1, c1]))
   exact Sels.tw (by (repeat' constructor)) (hL hlt (xa, xc) trivial)
 ·obtain rfl : i = l.length := by omega
  rw [List.take_length]
  (have zz:=trivial;repeat((first|clear zz|with_reducible first|refine A3 ?_|refine A4 fun _=>?_|refine A5 fun _=>?_);try simp(disch:=first|omega|assumption|((repeat(first|exact A1|exact uH|apply A2|apply uT));first|done|fail)|(simp;first|done|omega|fail))[]))
  exact C0 (.slice xa (g6 l).length xc) rfl (by (repeat' constructor))
def V6 (ts : List (Value × List EnV)) : List ByteArray := ts.flatMap fun t => W8 t.2
theorem C1p (w : World) (c : CfgV) (pv tv lv : Value) (ts : List (Value × List EnV)) (hn : ts.length ≤ 16) (hl : ∀ t ∈ ts, t.2.length ≤ 64) (hv : E3 w tv ts.length (ts.map (·.1))) (ht : ∀ t ∈ ts, E3 w t.1 t.2.length (t.2.flatMap D9)) (hsz : pv.cells.size = 1 ∧ lv.cells.size = 1) :
  Fn PR B3 17 #[.agg #[.int .i64 c.wk, .int .i64 c.sh, .int .i64 c.cp, .int .i64 c.idle, .int .i64 c.sl, pv, tv, lv]] w (Rn [] w (fun (r : Value) u => u = r) fun r => [.own 9 1 r (V6 ts).length ((V6 ts).map Value.string)]) := by
 refine A6n (TW.go (κ := false) (S := []) ?_)
 unfold A1W
 obtain ⟨a, cc, rfl, hr⟩ := hv.form
 (have zz:=trivial;repeat((first|clear zz|with_reducible first|refine A3 ?_|refine A4 fun _=>?_|refine A5 fun _=>?_);try simp(disch:=first|omega|assumption|((repeat(first|exact A1|exact uH|apply A2|apply uT));first|done|fail)|(simp;first|done|omega|fail))[]))
 rename_i bm
 refine Z9 9 1 ?_
 refine K8 (α := Option Addr × Nat) ts.length (fun i x => .slice x.1 (V6 (ts.take i)).length x.2) (fun i x => [.own 9 1 (.slice x.1 (V6 (ts.take i)).length x.2) (V6 (ts.take i)).length ((V6 (ts.take i)).map Value.string), .pt bm (.cells #[.int .i64 c.wk, .int .i64 c.sh, .int .i64 c.cp, .int .i64 c.idle, .int .i64 c.sl, pv, .slice a ts.length cc, lv] 36)]) (fun _ _ => True) (none, 0) trivial ?_
 rintro i ⟨xa, xc⟩ hi _ L hL
 have hle : ∀ l : List (Value × List EnV), (∀ t ∈ l, t.2.length ≤ 64) → (V6 l).length ≤ l.length * 64 := by
  intro l
  induction l with
  | nil => intro _; simp [V6]
  | cons t l ih =>
   intro h
   have h1 := ih fun x hx => h x (by simp [hx])
   have h2 := h t (by simp)
   have h3 : (W8 t.2).length ≤ t.2.length := by rw [A3Z]; exact List.countP_le_length
   unfold V6 at h1 ⊢
   rw [List.flatMap_cons, List.length_append, List.length_cons]; omega
 have hsum : (V6 (ts.take i)).length ≤ 1024 := by
  have h1 := hle (ts.take i) fun t ht => hl t (List.mem_of_mem_take ht)
  have h2 : (ts.take i).length ≤ 16 := by rw [List.length_take]; omega
  omega
 by_cases hlt : i < ts.length
 ·have hx := List.getElem?_eq_getElem hlt
  obtain ⟨b, o, rfl, hrow⟩ := hr (by omega)
  have h0 := hrow.get (i := i) (v := ts[i].1) (by simp [hlt])
  have hmem := List.getElem_mem hlt
  have hst : V6 (ts.take (i + 1)) = V6 (ts.take i) ++ W8 (ts[i]).2 := by
   rw [List.take_add_one, hx, V6, List.flatMap_append]; simp [V6]
  simp only [hst] at hL
  have hl64 := hl _ hmem
  have hkl : (W8 (ts[i]).2).length ≤ 64 := by rw [A3Z]; exact Nat.le_trans List.countP_le_length hl64
  have htt := ht _ hmem
  generalize ts[i] = t at *
  (have zz:=trivial;repeat((first|clear zz|with_reducible first|refine A3 ?_|refine A4 fun _=>?_|refine A5 fun _=>?_);try simp(disch:=first|omega|assumption|((repeat(first|exact A1|exact uH|apply A2|apply uT));first|done|fail)|(simp;first|done|omega|fail))[hlt, h0]))
  refine G3 A5l (fun w' hw' => C1W w' t.1 t.2 (by omega) (htt.ks hw'.ks (by simp))) ?_
  rintro _ r rfl
  refine Y5 (e := 9) (k := 1) (q := (V6 (ts.take i)).length) (r := (W8 t.2).length) (xs := (V6 (ts.take i)).map Value.string) (news := (W8 t.2).map Value.string) (by (repeat constructor)) (K3.own (by (repeat constructor))) (by decide) (by simp) (by simp [List.all_map, Function.comp_def]) (by simp only [maxLen]; omega) (by omega) fun a' c' => ?_
  (have zz:=trivial;repeat((first|clear zz|with_reducible first|refine A3 ?_|refine A4 fun _=>?_|refine A5 fun _=>?_);try simp(disch:=first|omega|assumption|((repeat(first|exact A1|exact uH|apply A2|apply uT));first|done|fail)|(simp;first|done|omega|fail))[]))
  have h := hL hlt (a', c') trivial
  simp only [List.length_append, List.map_append] at h
  exact Sels.tw (by (repeat' constructor)) h
 ·obtain rfl : i = ts.length := by omega
  rw [List.take_length]
  (have zz:=trivial;repeat((first|clear zz|with_reducible first|refine A3 ?_|refine A4 fun _=>?_|refine A5 fun _=>?_);try simp(disch:=first|omega|assumption|((repeat(first|exact A1|exact uH|apply A2|apply uT));first|done|fail)|(simp;first|done|omega|fail))[]))
  exact C0 (.slice xa (V6 ts).length xc) rfl (by (repeat' constructor))
end Go.Proofs.YtpbmephflllolaaGreat
namespace Go.Proofs.YtpbmephflllolaaGreat
open Go
theorem B4e (w : World) (m : BaH) (c : CfgV) (hm : BaOk c m) (hw : LW false (C7 (C8 m)) w (C8 m) w) :
  Fn PR B3 20 #[.pointer (some ⟨m.b, 0, none⟩)] w (BDo w m (A8b m.st)) := by
 refine A3d (TW.goH (κ := false) ?_ hw)
 unfold u3
 unfold BDo
 generalize hS : C7 (C8 m) = S at *
 (have zz:=trivial;repeat((first|clear zz|with_reducible first|refine A3 ?_|refine A4 fun _=>?_|refine A5 fun _=>?_);try simp(disch:=first|omega|assumption|((repeat(first|exact A1|exact uH|apply A2|apply uT));first|done|fail)|(simp;first|done|omega|fail))[]))
 refine F2 (Hc := C8 m) s8 (fun w' _ hs => B62 w' m c hm hs) (by simp only [C8]; (repeat' constructor)) ?_
 rintro _ r rfl
 simp only [C8, Q1, N0, List.cons_append, List.nil_append]
 refine S6 (e := 9) (k := 1) (v := r) (q := (M3 m.st.tabs).length) (xs := (M3 m.st.tabs).map Value.string) (by (repeat constructor)) ?_
 rintro ra rc rfl
 (have zz:=trivial;repeat((first|clear zz|with_reducible first|refine A3 ?_|refine A4 fun _=>?_|refine A5 fun _=>?_);try simp(disch:=first|omega|assumption|((repeat(first|exact A1|exact uH|apply A2|apply uT));first|done|fail)|(simp;first|done|omega|fail))[]))
 refine C0 m ⟨by simp [AnsV.val, A8b, C3A], rfl, rfl⟩ ?_
 try simp only [C8, Q1, N0]
 (repeat' constructor)
theorem C3m {X : Nat → Prop} {κ : Bool} {S : List Nat} {w0 : World} {H Hk : List Res} {K : Value → WP} {b k' : Nat} {c0 c1 c2 c3 c4 c5 c6 : Value} {T : TypeId} {d : Array Value} {T2 : TypeId} (hp : Part [.pt b (.cells #[c0, c1, c2, c3, c4, c5, c6] T (0, 0)), .pt k' (.cells d T2 (0, 0))] H Hk) (hd : 0 < d.size)
  (hK : TW κ S w0 (.pt b (.cells #[c0, c1, c2, c3, c4, .pointer (some ⟨k', 0, none⟩), c6] T (0, 0)) :: .pt k' (.cells d T2 (0, 0)) :: Hk) (K (.tuple #[]))) : TW κ S w0 H (B1 PR X 36 [.pointer (some ⟨b, 5, none⟩), .pointer (some ⟨k', 0, none⟩)] K) := by
 refine TW.perm ?_ hp.perm
 refine F2 (Hc := [.pt b (.cells #[c0, c1, c2, c3, c4, c5, c6] T (0, 0))]) (Hk := .pt k' (.cells d T2 (0, 0)) :: Hk) P6 (fun w' hw' hs => B4m w' b k' _ _ _ _ _ _ _ _ d T2 hd hs (hw'.hold (.pt k' (.cells d T2 (0, 0))) (by simp)).1 (fun e => ?_)) (Part.cons Sel.here Part.nil) ?_
 ·have := (List.pairwise_cons.1 hw'.dis).1 (.pt k' (.cells d T2 (0, 0))) (by simp) b (by simp [Res.foot])
  exact this (by simp [Res.foot, e])
 ·rintro _ _ rfl
  exact hK
set_option maxHeartbeats 1000000 in
theorem C5s (w : World) (c : CfgV) : Fn PR B3 10 #[c.val] w (Rn [] w (fun (m : BaH) u => if Y2 c then u = .tuple #[.pointer (some ⟨m.b, 0, none⟩), .int .i64 0] ∧ m.st = ⟨c, [], A5z c⟩ else u = .tuple #[.pointer none, .int .i64 1])
  fun m => if Y2 c then C8 m else []) := by
 refine B2w (TW.go (κ := false) (S := []) ?_)
 unfold A55
 simp only [CfgV.val]
 (have zz:=trivial;repeat((first|clear zz|with_reducible first|refine A3 ?_|refine A4 fun _=>?_|refine A5 fun _=>?_);try simp(disch:=first|omega|assumption|((repeat(first|exact A1|exact uH|apply A2|apply uT));first|done|fail)|(simp;first|done|omega|fail))[]))
 rename_i bc
 refine B8 B3d (fun w' _ => C1u w' c) ?_
 cases hok : Y2 c with
 | false =>
  (have zz:=trivial;repeat((first|clear zz|with_reducible first|refine A3 ?_|refine A4 fun _=>?_|refine A5 fun _=>?_);try simp(disch:=first|omega|assumption|((repeat(first|exact A1|exact uH|apply A2|apply uT));first|done|fail)|(simp;first|done|omega|fail))[]))
  exact C0 ⟨0, 0, .nilIface, .nilIface, .nilIface, c, [], []⟩ (by simp) Sels.nil
 | true =>
  have hb : 1 ≤ c.sh ∧ c.sh ≤ 16 ∧ 1 ≤ c.cp ∧ c.cp ≤ 64 := by
   simp [Y2, Y1] at hok; omega
  obtain ⟨n, hn⟩ : ∃ n : Nat, c.sh = n := ⟨c.sh.toNat, by omega⟩
  obtain ⟨k, hk⟩ : ∃ k : Nat, c.cp = k := ⟨c.cp.toNat, by omega⟩
  rw [hn] at hb
  rw [hk] at hb
  (have zz:=trivial;repeat((first|clear zz|with_reducible first|refine A3 ?_|refine A4 fun _=>?_|refine A5 fun _=>?_);try simp(disch:=first|omega|assumption|((repeat(first|exact A1|exact uH|apply A2|apply uT));first|done|fail)|(simp;first|done|omega|fail))[hn, hk]))
  rename_i bb bk
  refine C3m (b := bb) (k' := bk) (d := #[.slice none 0 0, .slice none 0 0]) (by (repeat' constructor)) (by simp) ?_
  refine Z9 93 1 ?_
  refine C7Z (f := H8) ?_
  (have zz:=trivial;repeat((first|clear zz|with_reducible first|refine A3 ?_|refine A4 fun _=>?_|refine A5 fun _=>?_);try simp(disch:=first|omega|assumption|((repeat(first|exact A1|exact uH|apply A2|apply uT));first|done|fail)|(simp;first|done|omega|fail))[hn, hk]))
  refine Sels.tw (rs := [.own 93 1 (.slice none 0 0) 0 [], .pt bb (.cells #[.int .i64 c.wk, .int .i64 n, .int .i64 k, .int .i64 c.idle, .int .i64 c.sl, .pointer (some ⟨bk, 0, none⟩), .slice none 0 0] 88), G7 H8 [], .pt bk (.cells #[.slice none 0 0, .slice none 0 0] 92),
   .pt bc (.cells #[.int .i64 c.wk, .int .i64 n, .int .i64 k, .int .i64 c.idle, .int .i64 c.sl] 23)]) (by (repeat' constructor)) ?_
  refine B4G n (fun i (x : List ShB × Option Addr × Nat) => [.own 93 1 (.slice x.2.1 i x.2.2) i (b9 x.1), .pt bb (.cells #[.int .i64 c.wk, .int .i64 n, .int .i64 k, .int .i64 c.idle, .int .i64 c.sl, .pointer (some ⟨bk, 0, none⟩), .slice x.2.1 i x.2.2] 88), G7 H8 x.1, .pt bk (.cells #[.slice none 0 0, .slice none 0 0] 92),
   .pt bc (.cells #[.int .i64 c.wk, .int .i64 n, .int .i64 k, .int .i64 c.idle, .int .i64 c.sl] 23)]) (fun i x => x.1.length = i ∧ x.1.map (G1 0) = x.1 ∧ x.1.map (fun t => (t.l, t.nx)) = List.replicate i (newE k, 0)) ([], none, 0) ⟨rfl, rfl, rfl⟩ ?_
  rintro i ⟨ts, xa, xc⟩ hi ⟨hlen, hlk, hmap⟩ L hL
  simp only at hlen hlk hmap hL ⊢
  by_cases hlt : i < n
  ·(have zz:=trivial;repeat((first|clear zz|with_reducible first|refine A3 ?_|refine A4 fun _=>?_|refine A5 fun _=>?_);try simp(disch:=first|omega|assumption|((repeat(first|exact A1|exact uH|apply A2|apply uT));first|done|fail)|(simp;first|done|omega|fail))[hlt]))
   refine G3 A8y (fun w' _ => B1P w' k (by omega)) ?_
   rintro _ r rfl
   refine A3L (e := 160) (k := 4) (v := r) (q := (newE k).length) (xs := (newE k).flatMap D9) (by (repeat constructor)) fun hr1 hr2 hr3 => ?_
   have hr4 : r.cells.toList = [r] := by rw [hr1]
   (have zz:=trivial;repeat((first|clear zz|with_reducible first|refine A3 ?_|refine A4 fun _=>?_|refine A5 fun _=>?_|refine D1 fun _=>?_|refine D0 (hK:=fun _=>?_)|refine D3 (hK:=fun _=>?_)|refine D2 (hK:=fun _=>?_)|refine D4 (hK:=fun _=>?_)|refine C9 (hK:=fun _=>?_));try simp(disch:=first|omega|assumption|((repeat(first|exact A1|exact uH|apply A2|apply uT));first|done|fail)|(simp;first|done|omega|fail))[hlt, hr1]))
   rename_i bs gs
   refine Y5 (e := 93) (k := 1) (q := i) (r := 1) (xs := b9 ts) (news := [.pointer (some ⟨bs, 0, none⟩)]) (by (repeat constructor)) (K3.own (by (repeat constructor))) (by decide) (by simp) (by simp) (by simp only [maxLen]; omega) (by omega) fun a' c' => ?_
   (have zz:=trivial;repeat((first|clear zz|with_reducible first|refine A3 ?_|refine A4 fun _=>?_|refine A5 fun _=>?_);try simp(disch:=first|omega|assumption|((repeat(first|exact A1|exact uH|apply A2|apply uT));first|done|fail)|(simp;first|done|omega|fail))[hlt]))
   refine C58 (f := H8) (y := ⟨bs, 0, r, newE k, 0⟩) (ls := ts) (by simp only [H8, k5, List.cons_append, List.nil_append]; (repeat' constructor)) ?_
   refine Sels.tw ?_ (hL hlt (ts ++ [⟨bs, 0, r, newE k, 0⟩], a', c') ⟨by simp [hlen], by rw [List.map_append, hlk]; rfl, by rw [List.map_append, hmap, List.replicate_succ']; rfl⟩)
   simp only [b9, List.map_append, List.map_cons, List.map_nil, C3d]
   (repeat' constructor)
  ·obtain rfl : i = n := by omega
   (have zz:=trivial;repeat((first|clear zz|with_reducible first|refine A3 ?_|refine A4 fun _=>?_|refine A5 fun _=>?_);try simp(disch:=first|omega|assumption|((repeat(first|exact A1|exact uH|apply A2|apply uT));first|done|fail)|(simp;first|done|omega|fail))[]))
   refine Z9 75 2 ?_
   refine Z9 217 2 ?_
   refine C0 ⟨bb, bk, .slice none 0 0, .slice none 0 0, .slice xa i xc, c, [], ts⟩ ⟨rfl, ?_⟩ ?_
   ·simp only [BaH.st, hmap, A5z, hn, hk, Int.toNat_natCast]
   ·have hs0 : F5 (F1 []) = [] := List.length_eq_zero_iff.1 (by rw [W3]; rfl)
    simp only [C8, Q1, N0, hn, hk, hlen, hlk, hs0, List.length_nil, List.flatMap_nil]
    (repeat' constructor)
theorem C7E (w : World) (m : BaH) (o : OpV) (v : Value) (now : Int) (c : CfgV) (hv : PoolBt w m v o.pool) (hpk : o.packet.size < 2 ^ 40) (hm : BaOk c m) (hw : LW false (C7 (C8 m)) w (C8 m) w) :
  Fn PR B3 13 #[.pointer (some ⟨m.b, 0, none⟩), o.val v, .int .i64 now] w (BDo w m (j8 m.st o now)) := by
 refine A5f (TW.goH (κ := false) (S := C7 (C8 m)) ?_ hw)
 unfold A0k
 simp only [OpV.val]
 unfold BDo
 generalize hS : C7 (C8 m) = S at *
 have hc1 : v.cells.size = 1 := by rw [hv.form.1]; rfl
 by_cases k0 : o.kind = 0
 ·rw [B0p _ _ _ k0]
  (have zz:=trivial;repeat((first|clear zz|with_reducible first|refine A3 ?_|refine A4 fun _=>?_|refine A5 fun _=>?_);try simp(disch:=first|omega|assumption|((repeat(first|exact A1|exact uH|apply A2|apply uT));first|done|fail)|(simp;first|done|omega|fail))[k0]))
  refine F2 (Hc := C8 m) j9 (fun w' hw' hs => A92 w' m o.packet now c hpk hm hs) (by simp only [C8]; (repeat' constructor)) ?_
  rintro m' _ ⟨rfl, hb, hst⟩
  simp only [C8, Q1, N0, List.cons_append, List.nil_append]
  (have zz:=trivial;repeat((first|clear zz|with_reducible first|refine A3 ?_|refine A4 fun _=>?_|refine A5 fun _=>?_);try simp(disch:=first|omega|assumption|((repeat(first|exact A1|exact uH|apply A2|apply uT));first|done|fail)|(simp;first|done|omega|fail))[AnsV.val]))
  refine C0 m' ⟨by simp [AnsV.val], hb, hst⟩ ?_
  simp only [C8, Q1, N0]
  (repeat' constructor)
 by_cases k1 : o.kind = 1
 ·rw [B2e _ _ _ k1]
  (have zz:=trivial;repeat((first|clear zz|with_reducible first|refine A3 ?_|refine A4 fun _=>?_|refine A5 fun _=>?_);try simp(disch:=first|omega|assumption|((repeat(first|exact A1|exact uH|apply A2|apply uT));first|done|fail)|(simp;first|done|omega|fail))[k0, k1]))
  refine F2 (Hc := C8 m) n0 (fun w' hw' hs => B2x w' m o.pool v ⟨hv.at (by rw [hS]; exact hw'.ks), hv.off, hv.len, hv.form⟩ hs) (by simp only [C8]; (repeat' constructor)) ?_
  rintro m' _ ⟨rfl, hb, hst⟩
  simp only [C8, Q1, N0, List.cons_append, List.nil_append]
  (have zz:=trivial;repeat((first|clear zz|with_reducible first|refine A3 ?_|refine A4 fun _=>?_|refine A5 fun _=>?_);try simp(disch:=first|omega|assumption|((repeat(first|exact A1|exact uH|apply A2|apply uT));first|done|fail)|(simp;first|done|omega|fail))[AnsV.val]))
  refine C0 m' ⟨by simp [AnsV.val], hb, hst⟩ ?_
  simp only [C8, Q1, N0]
  (repeat' constructor)
 by_cases k2 : o.kind = 2
 ·rw [B21 _ _ _ k2]
  (have zz:=trivial;repeat((first|clear zz|with_reducible first|refine A3 ?_|refine A4 fun _=>?_|refine A5 fun _=>?_);try simp(disch:=first|omega|assumption|((repeat(first|exact A1|exact uH|apply A2|apply uT));first|done|fail)|(simp;first|done|omega|fail))[k0, k1, k2]))
  refine F2 (Hc := C8 m) n4 (fun w' hw' hs => B3c w' m o.shard now c hm hs) (by simp only [C8]; (repeat' constructor)) ?_
  rintro m' _ ⟨rfl, hb, hst⟩
  simp only [C8, Q1, N0, List.cons_append, List.nil_append]
  (have zz:=trivial;repeat((first|clear zz|with_reducible first|refine A3 ?_|refine A4 fun _=>?_|refine A5 fun _=>?_);try simp(disch:=first|omega|assumption|((repeat(first|exact A1|exact uH|apply A2|apply uT));first|done|fail)|(simp;first|done|omega|fail))[AnsV.val]))
  refine C0 m' ⟨by simp [AnsV.val], hb, hst⟩ ?_
  simp only [C8, Q1, N0]
  (repeat' constructor)
 by_cases k3 : o.kind = 3
 ·rw [B38 _ _ _ k3]
  (have zz:=trivial;repeat((first|clear zz|with_reducible first|refine A3 ?_|refine A4 fun _=>?_|refine A5 fun _=>?_);try simp(disch:=first|omega|assumption|((repeat(first|exact A1|exact uH|apply A2|apply uT));first|done|fail)|(simp;first|done|omega|fail))[k0, k1, k2, k3]))
  refine F2 (Hc := C8 m) q7 (fun w' hw' hs => B4e w' m c hm hs) (by simp only [C8]; (repeat' constructor)) ?_
  rintro m' _ ⟨rfl, hb, hst⟩
  simp only [C8, Q1, N0, List.cons_append, List.nil_append]
  (have zz:=trivial;repeat((first|clear zz|with_reducible first|refine A3 ?_|refine A4 fun _=>?_|refine A5 fun _=>?_);try simp(disch:=first|omega|assumption|((repeat(first|exact A1|exact uH|apply A2|apply uT));first|done|fail)|(simp;first|done|omega|fail))[AnsV.val]))
  refine C0 m' ⟨by simp [AnsV.val], hb, hst⟩ ?_
  simp only [C8, Q1, N0]
  (repeat' constructor)
 ·rw [B0v _ _ _ (by omega)]
  simp only [C8, Q1, N0]
  (have zz:=trivial;repeat((first|clear zz|with_reducible first|refine A3 ?_|refine A4 fun _=>?_|refine A5 fun _=>?_);try simp(disch:=first|omega|assumption|((repeat(first|exact A1|exact uH|apply A2|apply uT));first|done|fail)|(simp;first|done|omega|fail))[k0, k1, k2, k3]))
  refine C0 m ⟨by simp [AnsV.val], rfl, rfl⟩ ?_
  try simp only [C8, Q1, N0]
  (repeat' constructor)
end Go.Proofs.YtpbmephflllolaaGreat
namespace Go.Proofs.YtpbmephflllolaaGreat
open Go
section
variable {S : List Nat} {w0 w : World} {H Hk : List Res} {K : Value → WP}
theorem C0U {m : BaH} : PoolBt w m (.slice none 0 0) [] := ⟨Or.inl ⟨rfl, rfl, none, 0, rfl⟩, fun h => by simp at h, by simp, rfl, rfl⟩
theorem B9m {κ : Bool} {m : BaH} {v : Value} {p : List G0} {e : TypeId} (hw : LW κ S w0 (C8 m ++ Hk) w) (hm : Res.own e 2 v p.length (p.flatMap E7) ∈ Hk) (hl : p.length ≤ 1000) : PoolBt w m v p := by
 have h := hw.hold _ (List.mem_append_right _ hm)
 obtain ⟨a, c, e⟩ := P2.form h
 refine ⟨P2.rd h, fun _ g hg hf => ?_, hl, by rw [e]; rfl, by rw [e]; rfl⟩
 obtain ⟨s, hs, hbs⟩ := J0.1 hf
 exact (List.pairwise_append.1 hw.dis).2.2 s hs _ hm g hbs hg
theorem B3b {κ : Bool} {m : BaH} {v : Value} {p : List G0} (hw : LW κ [] w0 (C8 m ++ Hk) w) (h : E3 w0 v p.length (p.flatMap E7)) (hl : p.length ≤ 1000) : PoolBt w m v p := by
 refine ⟨h.ks hw.ks (by simp), fun h0 g hg hf => ?_, hl, by obtain ⟨a, c, e, _⟩ := h.form; rw [e]; exact ⟨rfl, rfl⟩⟩
 have h1 := C3Y h (by rw [U1 (k := 2) fun _ => rfl]; omega) h0 g hg
 obtain ⟨s, hs, hbs⟩ := J0.1 hf
 rcases (hw.own s (List.mem_append_left _ hs) g hbs).1 with h2 | h2
 ·cases h2
 ·omega
theorem C0f {m : BaH} {o : OpV} {v : Value} {now : Int} {c : CfgV} (r : MoS × AnsV) (hi : Inv c m.st) (hp : Part (C8 m) H Hk) (hpa : ∀ w, LW false S w0 (C8 m ++ Hk) w → PoolBt w m v o.pool) (hpk : o.packet.size < 2 ^ 40) (hr : j8 m.st o now = r)
  (hK : ∀ m' : BaH, m'.b = m.b → m'.st = r.1 → Inv c m'.st → TW false S w0 (C8 m' ++ Hk) (K r.2.val)) : TW false S w0 H (B1 PR B3 13 [.pointer (some ⟨m.b, 0, none⟩), o.val v, .int .i64 now] K) := by
 subst hr
 refine TW.perm ?_ hp.perm
 refine F2 (Hc := C8 m) A5E (fun w' hw hs => C7E w' m o v now c (hpa w' hw) hpk (BaOk.of hi) hs) Y7 ?_
 rintro m' _ ⟨rfl, hb, hst⟩
 exact hK m' hb hst (by rw [hst]; exact hi.do' o now)
theorem B85 {m : BaH} {pk : ByteArray} {now : Int} {c : CfgV} (r : MoS × AnsV) (hi : Inv c m.st) (hp : Part (C8 m) H Hk) (hpk : pk.size < 2 ^ 40) (hr : c8 m.st pk now = r)
  (hK : ∀ m' : BaH, m'.b = m.b → m'.st = r.1 → Inv c m'.st → TW false S w0 (C8 m' ++ Hk) (K r.2.val)) : TW false S w0 H (B1 PR B3 24 [.pointer (some ⟨m.b, 0, none⟩), .string pk, .int .i64 now] K) := by
 subst hr
 refine F2 (Hc := C8 m) j9 (fun w' hw hs => A92 w' m pk now c hpk (BaOk.of hi) hs) hp ?_
 rintro m' _ ⟨rfl, hb, hst⟩
 exact hK m' hb hst (by rw [hst, ← B0p m.st ⟨0, pk, [], 0⟩ now rfl]; exact hi.do' _ now)
theorem C7P {m : BaH} {p : List G0} {v : Value} {c : CfgV} (r : MoS × AnsV) (hi : Inv c m.st) (hp : Part (C8 m) H Hk) (hpa : ∀ w, LW false S w0 (C8 m ++ Hk) w → PoolBt w m v p) (hr : A4c m.st p = r)
  (hK : ∀ m' : BaH, m'.b = m.b → m'.st = r.1 → Inv c m'.st → TW false S w0 (C8 m' ++ Hk) (K r.2.val)) : TW false S w0 H (B1 PR B3 26 [.pointer (some ⟨m.b, 0, none⟩), v] K) := by
 subst hr
 refine TW.perm ?_ hp.perm
 refine F2 (Hc := C8 m) n0 (fun w' hw hs => B2x w' m p v (hpa w' hw) hs) Y7 ?_
 rintro m' _ ⟨rfl, hb, hst⟩
 exact hK m' hb hst (by rw [hst, ← B2e m.st ⟨1, Q8, p, 0⟩ 0 rfl]; exact hi.do' _ 0)
theorem C17 {m : BaH} {j now : Int} {c : CfgV} (r : MoS × AnsV) (hi : Inv c m.st) (hp : Part (C8 m) H Hk) (hr : A0B m.st j now = r)
  (hK : ∀ m' : BaH, m'.b = m.b → m'.st = r.1 → Inv c m'.st → TW false S w0 (C8 m' ++ Hk) (K r.2.val)) : TW false S w0 H (B1 PR B3 27 [.pointer (some ⟨m.b, 0, none⟩), .int .i64 j, .int .i64 now] K) := by
 subst hr
 refine F2 (Hc := C8 m) n4 (fun w' hw hs => B3c w' m j now c (BaOk.of hi) hs) hp ?_
 rintro m' _ ⟨rfl, hb, hst⟩
 exact hK m' hb hst (by rw [hst, ← B21 m.st ⟨2, Q8, [], j⟩ now rfl]; exact hi.do' _ now)
theorem C6n {m : BaH} {c : CfgV} (hi : Inv c m.st) (hp : Part (C8 m) H Hk)
  (hK : ∀ m' : BaH, m'.b = m.b → m'.st = m.st → TW false S w0 (C8 m' ++ Hk) (K (A8b m.st).2.val)) : TW false S w0 H (B1 PR B3 20 [.pointer (some ⟨m.b, 0, none⟩)] K) := by
 refine F2 (Hc := C8 m) q7 (fun w' hw hs => B4e w' m c (BaOk.of hi) hs) hp ?_
 rintro m' _ ⟨rfl, hb, hst⟩
 exact hK m' hb hst
theorem B9L {m : BaH} {c : CfgV} (hi : Inv c m.st) (hp : Part (C8 m) H Hk)
  (hK : ∀ a b, TW false S w0 (.own 9 1 (.slice a (M3 m.st.tabs).length b) (M3 m.st.tabs).length ((M3 m.st.tabs).map Value.string) :: (C8 m ++ Hk)) (K (.slice a (M3 m.st.tabs).length b))) : TW false S w0 H (B1 PR B3 16 [.pointer (some ⟨m.b, 0, none⟩)] K) := by
 refine F2 (Hc := C8 m) s8 (fun w' hw hs => B62 w' m c (BaOk.of hi) hs) hp ?_
 rintro _ r rfl
 refine S6 (e := 9) (k := 1) (v := r) (q := (M3 m.st.tabs).length) (xs := (M3 m.st.tabs).map Value.string) (by simp) ?_
 rintro a b rfl
 exact hK a b
theorem B84 {m : BaH} {c : CfgV} (hi : Inv c m.st) (hp : Part (C8 m) H Hk) (hK : ∀ a b, TW false S w0 (.own 75 2 (.slice a m.pool.length b) m.pool.length (m.pool.flatMap E7) :: (C8 m ++ Hk)) (K (.slice a m.pool.length b))) : TW false S w0 H (B1 PR B3 19 [.pointer (some ⟨m.b, 0, none⟩)] K) := by
 refine F2 (Hc := C8 m) A3e (fun w' hw hs => C4V w' m (BaOk.of hi).pool hs) hp ?_
 rintro _ r rfl
 refine S6 (e := 75) (k := 2) (v := r) (q := m.pool.length) (xs := m.pool.flatMap E7) (by simp) ?_
 rintro a b rfl
 exact hK a b
theorem B6Z {c : CfgV} (h0 : Y2 c = false → TW false S w0 H (K (.tuple #[.pointer none, .int .i64 1])))
  (h1 : ∀ m : BaH, Y2 c = true → m.st = ⟨c, [], A5z c⟩ → Inv c m.st → TW false S w0 (C8 m ++ H) (K (.tuple #[.pointer (some ⟨m.b, 0, none⟩), .int .i64 0]))) : TW false S w0 H (B1 PR B3 10 [c.val] K) := by
 refine G3 B15 (fun w' _ => C5s w' c) ?_
 rintro m u hm
 cases hc : Y2 c with
 | false =>
  simp only [hc, Bool.false_eq_true, if_false] at hm ⊢
  subst hm
  exact h0 hc
 | true =>
  simp only [hc, if_true] at hm ⊢
  obtain ⟨rfl, e⟩ := hm
  exact h1 m hc e (by rw [e]; exact Inv.new hc)
end
end Go.Proofs.YtpbmephflllolaaGreat
namespace Go.Proofs.YtpbmephflllolaaGreat
open Go
theorem C7w : A0B (wk2 0) 0 6 = (wk1, ⟨0, 0, false, 1⟩) := by kernel_rfl
theorem C79 : A0B wk1 1 6 = (wk1, ⟨1, 0, false, 0⟩) := by kernel_rfl
theorem C0V (w : World) : Fn PR B3 8 #[] w (fun v w' => v = .bool true ∧ C1 [] w w') := by
 refine Fn.pure (A5d (TW.go (κ := false) (S := []) ?_))
 unfold A0v
 (have zz:=trivial;repeat((first|clear zz|with_reducible first|refine A3 ?_|refine A4 fun _=>?_|refine A5 fun _=>?_);try simp(disch:=first|omega|assumption|((repeat(first|exact A1|exact uH|apply A2|apply uT));first|done|fail)|(simp;first|done|omega|fail))[]))
 refine B6Z (c := wkC) (fun h => by rw [C7p] at h; cases h) fun m _ hst hi => ?_
 (have zz:=trivial;repeat((first|clear zz|with_reducible first|refine A3 ?_|refine A4 fun _=>?_|refine A5 fun _=>?_);try simp(disch:=first|omega|assumption|((repeat(first|exact A1|exact uH|apply A2|apply uT));first|done|fail)|(simp;first|done|omega|fail))[]))
 refine B6Z (c := ⟨0, 0, 0, 0, 0⟩) (fun _ => ?_) (fun _ h => by rw [C6d] at h; cases h)
 (have zz:=trivial;repeat((first|clear zz|with_reducible first|refine A3 ?_|refine A4 fun _=>?_|refine A5 fun _=>?_);try simp(disch:=first|omega|assumption|((repeat(first|exact A1|exact uH|apply A2|apply uT));first|done|fail)|(simp;first|done|omega|fail))[]))
 refine B8 B3k (fun w' _ => B7e w' wkK 0) ?_
 rw [C7H]
 (have zz:=trivial;repeat((first|clear zz|with_reducible first|refine A3 ?_|refine A4 fun _=>?_|refine A5 fun _=>?_);try simp(disch:=first|omega|assumption|((repeat(first|exact A1|exact uH|apply A2|apply uT));first|done|fail)|(simp;first|done|omega|fail))[]))
 refine B85 (wk0, ⟨11, 0, false, 0⟩) hi (by ((repeat (first | exact Y7 | apply Part.skip)); first | done | fail)) B8s (by rw [hst]; exact D2q) fun m1 hb1 hst1 hi1 => ?_
 rw [← hb1]
 clear hst hi hb1
 (have zz:=trivial;repeat((first|clear zz|with_reducible first|refine A3 ?_|refine A4 fun _=>?_|refine A5 fun _=>?_|refine D1 fun _=>?_|refine D0 (hK:=fun _=>?_)|refine D3 (hK:=fun _=>?_)|refine D2 (hK:=fun _=>?_)|refine D4 (hK:=fun _=>?_)|refine C9 (hK:=fun _=>?_));try simp(disch:=first|omega|assumption|((repeat(first|exact A1|exact uH|apply A2|apply uT));first|done|fail)|(simp;first|done|omega|fail))[AnsV.val]))
 refine C7P (p := [(7, 1)]) (wk1, ⟨0, 0, false, 0⟩) hi1 (by ((repeat (first | exact Y7 | apply Part.skip)); first | done | fail)) (fun _ h => B9m (p := [(7, 1)]) h A1 (by decide)) (by rw [hst1]; exact D2T) fun m2 hb2 hst2 hi2 => ?_
 rw [← hb2]
 clear hst1 hi1 hb2
 (have zz:=trivial;repeat((first|clear zz|with_reducible first|refine A3 ?_|refine A4 fun _=>?_|refine A5 fun _=>?_);try simp(disch:=first|omega|assumption|((repeat(first|exact A1|exact uH|apply A2|apply uT));first|done|fail)|(simp;first|done|omega|fail))[AnsV.val]))
 refine B85 (wk2 0, ⟨0, 7, true, 0⟩) hi2 (by ((repeat (first | exact Y7 | apply Part.skip)); first | done | fail)) B8s (by rw [hst2]; exact D2M) fun m1 hb1 hst1 hi1 => ?_
 rw [← hb1]
 clear hst2 hi2 hb1
 (have zz:=trivial;repeat((first|clear zz|with_reducible first|refine A3 ?_|refine A4 fun _=>?_|refine A5 fun _=>?_);try simp(disch:=first|omega|assumption|((repeat(first|exact A1|exact uH|apply A2|apply uT));first|done|fail)|(simp;first|done|omega|fail))[AnsV.val]))
 refine C6n hi1 (by ((repeat (first | exact Y7 | apply Part.skip)); first | done | fail)) fun m2 hb2 hst2 => ?_
 have hi2 : Inv wkC m2.st := by rw [hst2]; exact hi1
 rw [hst1] at hst2
 rw [← hb2, hst1, show (A8b (wk2 0)).2 = ⟨0, 0, false, 1⟩ from rfl]
 clear hst1 hi1 hb2
 (have zz:=trivial;repeat((first|clear zz|with_reducible first|refine A3 ?_|refine A4 fun _=>?_|refine A5 fun _=>?_);try simp(disch:=first|omega|assumption|((repeat(first|exact A1|exact uH|apply A2|apply uT));first|done|fail)|(simp;first|done|omega|fail))[AnsV.val]))
 refine C17 (wk1, ⟨0, 0, false, 1⟩) hi2 (by ((repeat (first | exact Y7 | apply Part.skip)); first | done | fail)) (by rw [hst2]; exact C7w) fun m1 hb1 hst1 hi1 => ?_
 rw [← hb1]
 clear hst2 hi2 hb1
 (have zz:=trivial;repeat((first|clear zz|with_reducible first|refine A3 ?_|refine A4 fun _=>?_|refine A5 fun _=>?_);try simp(disch:=first|omega|assumption|((repeat(first|exact A1|exact uH|apply A2|apply uT));first|done|fail)|(simp;first|done|omega|fail))[AnsV.val]))
 refine C17 (wk1, ⟨1, 0, false, 0⟩) hi1 (by ((repeat (first | exact Y7 | apply Part.skip)); first | done | fail)) (by rw [hst1]; exact C79) fun m2 hb2 hst2 hi2 => ?_
 rw [← hb2]
 clear hst1 hi1 hb2
 simp only [C8, List.cons_append, List.nil_append]
 (have zz:=trivial;repeat((first|clear zz|with_reducible first|refine A3 ?_|refine A4 fun _=>?_|refine A5 fun _=>?_);try simp(disch:=first|omega|assumption|((repeat(first|exact A1|exact uH|apply A2|apply uT));first|done|fail)|(simp;first|done|omega|fail))[AnsV.val]))
 refine B9L hi2 (by simp only [C8]; (repeat' constructor)) fun a b => ?_
 have hlv : M3 m2.st.tabs = [] := by rw [hst2]; rfl
 simp only [hlv, C8, List.cons_append, List.nil_append]
 (have zz:=trivial;repeat((first|clear zz|with_reducible first|refine A3 ?_|refine A4 fun _=>?_|refine A5 fun _=>?_);try simp(disch:=first|omega|assumption|((repeat(first|exact A1|exact uH|apply A2|apply uT));first|done|fail)|(simp;first|done|omega|fail))[AnsV.val]))
 have hp2 : m2.pool = [(7, 1)] := congrArg MoS.pool hst2
 refine B84 hi2 (by simp only [C8]; (repeat' constructor)) fun a b => ?_
 rw [hp2]
 simp only [C8, List.cons_append, List.nil_append]
 (have zz:=trivial;repeat((first|clear zz|with_reducible first|refine A3 ?_|refine A4 fun _=>?_|refine A5 fun _=>?_);try simp(disch:=first|omega|assumption|((repeat(first|exact A1|exact uH|apply A2|apply uT));first|done|fail)|(simp;first|done|omega|fail))[AnsV.val]))
 refine C0f (o := ⟨9, Q8, [], 0⟩) (wk1, ⟨1, 0, false, 0⟩) hi2 (by simp only [C8, hp2]; (repeat' constructor)) (fun _ _ => C0U) (by simp) (by rw [hst2, B0v _ _ _ (Or.inr (by decide))]) fun m1 hb1 hst1 hi1 => ?_
 (have zz:=trivial;repeat((first|clear zz|with_reducible first|refine A3 ?_|refine A4 fun _=>?_|refine A5 fun _=>?_);try simp(disch:=first|omega|assumption|((repeat(first|exact A1|exact uH|apply A2|apply uT));first|done|fail)|(simp;first|done|omega|fail))[AnsV.val]))
 exact A9 rfl
end Go.Proofs.YtpbmephflllolaaGreat
namespace Go.Proofs.YtpbmephflllolaaGreat
open Go
theorem C37 (w : World) (c : CfgV) (v : Value) (l : List ((OpV × Value) × Int)) (hn : l.length ≤ 9223372036854775807) (hv : E3 w v l.length (l.flatMap A4e)) (hp : ∀ s ∈ l, B6y s.1) :
  Fn PR B3 9 #[c.val, v] w (fun r w' => r = .bool (A8Y c (l.map (·.1.1))) ∧ C1 [] w w') := by
 refine Fn.pure (A78 (TW.go (κ := false) (S := []) ?_))
 unfold A10
 obtain ⟨a, cc, rfl, hr⟩ := hv.form
 obtain ⟨n, hnn⟩ : ∃ n, n = min l.length 13 := ⟨_, rfl⟩
 simp only [CfgV.val]
 (have zz:=trivial;repeat((first|clear zz|with_reducible first|refine A3 ?_|refine A4 fun _=>?_|refine A5 fun _=>?_);try simp(disch:=first|omega|assumption|((repeat(first|exact A1|exact uH|apply A2|apply uT));first|done|fail)|(simp;first|done|omega|fail))[]))
 rename_i bc
 refine Z9 42 4 ?_
 refine K8 n (fun i (x : Option Addr × Nat) => .slice x.1 i x.2) (fun i x => [.own 42 4 (.slice x.1 i x.2) i (((l.map (·.1)).take i).flatMap y8), .pt bc (.cells #[.int .i64 c.wk, .int .i64 c.sh, .int .i64 c.cp, .int .i64 c.idle, .int .i64 c.sl] 23)]) (fun i x => True) (none, 0) trivial ?_ (by simp)
 rintro i ⟨xa, xc⟩ hi _ L hL
 by_cases hlt : i < n
 ·have hil : i < l.length := by omega
  have hx := List.getElem?_eq_getElem hil
  obtain ⟨b, o, rfl, hrow⟩ := hr (by omega)
  have h1 := hrow.partAt (f := A4e) (k := 5) (fun _ => rfl) hx 0 4 (by omega)
  rw [show ((A4e l[i]).drop 0).take 4 = y8 l[i].1 from rfl, Nat.add_zero] at h1
  have c1 : (i : Int) ≤ 12 := by omega
  have hst : ((l.map (·.1)).take (i + 1)).flatMap y8 = ((l.map (·.1)).take i).flatMap y8 ++ y8 l[i].1 := by
   rw [List.take_add_one, List.getElem?_map, hx]; simp [List.flatMap_append]
  (have zz:=trivial;repeat((first|clear zz|with_reducible first|refine A3 ?_|refine A4 fun _=>?_|refine A5 fun _=>?_|refine D1 fun _=>?_|refine D0 (hK:=fun _=>?_)|refine D3 (hK:=fun _=>?_)|refine D2 (hK:=fun _=>?_)|refine D4 (hK:=fun _=>?_)|refine C9 (hK:=fun _=>?_));try simp(disch:=first|omega|assumption|((repeat(first|exact A1|exact uH|apply A2|apply uT));first|done|fail)|(simp;first|done|omega|fail))[hil, h1, c1, y8]))
  obtain ⟨pa, pc, hpl⟩ := hp l[i] (List.getElem_mem hil)
  refine Y5 (e := 42) (k := 4) (q := i) (r := 1) (xs := ((l.map (·.1)).take i).flatMap y8) (news := y8 l[i].1) (by (repeat constructor)) (K3.own (by (repeat constructor))) (by decide) rfl (by simp [y8, hpl]) (by simp only [maxLen]; omega) (by omega) fun a' c' => ?_
  (have zz:=trivial;repeat((first|clear zz|with_reducible first|refine A3 ?_|refine A4 fun _=>?_|refine A5 fun _=>?_);try simp(disch:=first|omega|assumption|((repeat(first|exact A1|exact uH|apply A2|apply uT));first|done|fail)|(simp;first|done|omega|fail))[]))
  have h2 := hL hlt (a', c') trivial
  rw [hst] at h2
  exact Sels.tw (by (repeat' constructor)) h2
 ·have hin : i = n := by omega
  have hce : (c.val : Value) = .agg #[.int .i64 c.wk, .int .i64 c.sh, .int .i64 c.cp, .int .i64 c.idle, .int .i64 c.sl] := rfl
  have hlen : (((l.map (·.1)).take i)).length = i := by simp; omega
  have hm : ((l.map (·.1)).take i).map (·.1) = (l.map (·.1.1)).take 13 := by
   rw [List.map_take, List.map_map, hin, hnn]
   by_cases h : l.length ≤ 13
   ·rw [Nat.min_eq_left h, List.take_of_length_le (by simp), List.take_of_length_le (by simp; omega)]; rfl
   ·rw [Nat.min_eq_right (by omega)]; rfl
  have hfin : A0L c = true → ∀ K : Value → WP, (∀ H : List Res, TW false [] w H (K (.bool (A8Y c (l.map (·.1.1)))))) → TW false [] w [.own 42 4 (.slice xa i xc) i (((l.map (·.1)).take i).flatMap y8), .pt bc (.cells #[.int .i64 c.wk, .int .i64 c.sh, .int .i64 c.cp, .int .i64 c.idle, .int .i64 c.sl] 23)]
    (B1 PR B3 34 [.slice xa i xc, .int .i64 12] K) := fun hs K hK => by
   refine B8 A7C (fun w' hw' => by
    have := C4p w' (.slice xa i xc) ((l.map (·.1)).take i) 12 (by omega) (by rw [hlen]; exact K3.own (by (repeat constructor)) w' hw') fun o ho => by
     obtain ⟨s, hs, rfl⟩ := List.mem_map.1 (List.mem_of_mem_take ho)
     exact hp s hs
    exact this) ?_
   have e : A8Y c (l.map (·.1.1)) = A2W (((l.map (·.1)).take i).map (·.1)) 12 := by rw [hm, A8Y, hs]; simp
   rw [← e]; exact hK _
  by_cases hil : i < l.length
  ·have c1 : ¬ (i : Int) ≤ 12 := by omega
   (have zz:=trivial;repeat((first|clear zz|with_reducible first|refine A3 ?_|refine A4 fun _=>?_|refine A5 fun _=>?_);try simp(disch:=first|omega|assumption|((repeat(first|exact A1|exact uH|apply A2|apply uT));first|done|fail)|(simp;first|done|omega|fail))[hil, c1]))
   refine B8 A0A (fun w' _ => B6L w' c) ?_
   cases hs : A0L c with
   | true =>
    (have zz:=trivial;repeat((first|clear zz|with_reducible first|refine A3 ?_|refine A4 fun _=>?_|refine A5 fun _=>?_);try simp(disch:=first|omega|assumption|((repeat(first|exact A1|exact uH|apply A2|apply uT));first|done|fail)|(simp;first|done|omega|fail))[]))
    refine hfin hs _ fun H => ?_
    (have zz:=trivial;repeat((first|clear zz|with_reducible first|refine A3 ?_|refine A4 fun _=>?_|refine A5 fun _=>?_);try simp(disch:=first|omega|assumption|((repeat(first|exact A1|exact uH|apply A2|apply uT));first|done|fail)|(simp;first|done|omega|fail))[]))
    exact A9 rfl
   | false => (have zz:=trivial;repeat((first|clear zz|with_reducible first|refine A3 ?_|refine A4 fun _=>?_|refine A5 fun _=>?_);try simp(disch:=first|omega|assumption|((repeat(first|exact A1|exact uH|apply A2|apply uT));first|done|fail)|(simp;first|done|omega|fail))[])); exact A9 (by simp [A8Y, hs])
  ·(have zz:=trivial;repeat((first|clear zz|with_reducible first|refine A3 ?_|refine A4 fun _=>?_|refine A5 fun _=>?_);try simp(disch:=first|omega|assumption|((repeat(first|exact A1|exact uH|apply A2|apply uT));first|done|fail)|(simp;first|done|omega|fail))[hil]))
   refine B8 A0A (fun w' _ => B6L w' c) ?_
   cases hs : A0L c with
   | true =>
    (have zz:=trivial;repeat((first|clear zz|with_reducible first|refine A3 ?_|refine A4 fun _=>?_|refine A5 fun _=>?_);try simp(disch:=first|omega|assumption|((repeat(first|exact A1|exact uH|apply A2|apply uT));first|done|fail)|(simp;first|done|omega|fail))[]))
    refine hfin hs _ fun H => ?_
    (have zz:=trivial;repeat((first|clear zz|with_reducible first|refine A3 ?_|refine A4 fun _=>?_|refine A5 fun _=>?_);try simp(disch:=first|omega|assumption|((repeat(first|exact A1|exact uH|apply A2|apply uT));first|done|fail)|(simp;first|done|omega|fail))[]))
    exact A9 rfl
   | false => (have zz:=trivial;repeat((first|clear zz|with_reducible first|refine A3 ?_|refine A4 fun _=>?_|refine A5 fun _=>?_);try simp(disch:=first|omega|assumption|((repeat(first|exact A1|exact uH|apply A2|apply uT));first|done|fail)|(simp;first|done|omega|fail))[])); exact A9 (by simp [A8Y, hs])
end Go.Proofs.YtpbmephflllolaaGreat
namespace Go.Proofs.YtpbmephflllolaaGreat
open Go
def j7 (X : Nat → Prop) (t0 t1 : Value) (R : Value → WP) : WP :=
 B2 PR X (Instr.box 23 t0) fun t2 =>
 B1 PR X 8 [] fun t14 =>
 jn (n := 1) (fun t4 =>
 jn (n := 1) (fun t4_1 =>
 A6 PR (Instr.loadAt 23 t2) fun t23 =>
 B1 PR X 10 [t23] fun t24 =>
 A0 PR (Instr.extract t24 0) fun t25 =>
 A0 PR (Instr.extract t24 1) fun t26 =>
 jn (n := 1) (fun t4_2 =>
 jn (n := 1) (fun t4_3 =>
 A6 PR (Instr.loadAt 23 t2) fun t45 =>
 B1 PR X 12 [t45] fun t46 =>
 B2 PR X (Instr.alloc 36 true (.tuple #[])) fun t8 =>
 B6 PR X (Instr.storeAt 36 t8 t46) <|
 jn (n := 2) (fun t4_4 t9 =>
 R t14) fun J1 =>
 lp (n := 2) (fun L2 t4_5 t9_1 =>
 jn (n := 0) (
 jn (n := 1) (fun t4_6 =>
 A0 PR (binOp .add 3 t9_1 (.int .i64 1)) fun t52 =>
 L2 t4_6 t52) fun J3 =>
 drw <|
 kt (n := 1) (fun t10 =>
 drw <|
 kt (n := 2) (fun t11 t12 =>
 A6 PR (Instr.loadAt 36 t11) fun t80 =>
 B6 PR X (Instr.storeAt 36 t8 t80) <|
 drw <|
 A6 PR (Instr.loadAt 36 t8) fun t83 =>
 B1 PR X 16 [t25] fun t82 =>
 watch PR [(none, (Instr.loadAt 36 t8), t83)] <|
 B1 PR X 17 [t83] fun t84 =>
 B1 PR X 15 [t82, t84] fun t85 =>
 drw <|
 A6 PR (Instr.loadAt 39 t10) fun t86 =>
 A6 PR (Instr.loadAt 39 t12) fun t87 =>
 A6 PR (N1 .neq 39 (.tmp 86) (.tmp 87) t86 t87) fun t88 =>
 gj t88 false (fun J => J t85) fun t90 =>
 gj t88 false (fun J => A0 PR (Op.unary .not t90) J) fun t91 =>
 A0 PR (do pure (if ← asBool t88 then (.bool true) else t91)) fun t92 =>
 gj t92 false (fun J => J t25) fun t94 =>
 gj t92 false (fun J => A0 PR (Instr.fieldAt 36 t8 1) J) fun t96 =>
 gj t92 false (fun J => A6 PR (Instr.loadAt 32 t96) J) fun t97 =>
 gj t92 false (fun J => B1 PR X 19 [t94] J) fun t95 =>
 watch PR [((some (t92, false)), (Instr.loadAt 32 t96), t97)] <|
 gj t92 false (fun J => B1 PR X 18 [t95, t97] J) fun t98 =>
 gj t92 false (fun J => A0 PR (Op.unary .not t98) J) fun t99 =>
 A0 PR (do pure (if ← asBool t92 then (.bool true) else t99)) fun t100 =>
 B5 t100 (
 R (.bool false)) (
 J3 t4_5)) fun C4 =>
 A6 PR (Instr.loadAt 36 t8) fun t66_1 =>
 A0 PR (Instr.indexAt 24 t1 t9_1) fun t69_1 =>
 A0 PR (Instr.fieldAt 44 t69_1 0) fun t70_1 =>
 A6 PR (Instr.loadAt 42 t70_1) fun t71_1 =>
 A0 PR (Instr.indexAt 24 t1 t9_1) fun t74_1 =>
 A0 PR (Instr.fieldAt 44 t74_1 1) fun t75_1 =>
 A6 PR (Instr.loadAt 3 t75_1) fun t76_1 =>
 both (B1 PR X 14 [t66_1, t71_1, t76_1] fun t77_5 =>
 A0 PR (Instr.extract t77_5 0) fun t78_5 =>
 A0 PR (Instr.extract t77_5 1) fun t79_5 =>
 both (B2 PR X (Instr.alloc 36 true (.tuple #[])) fun t11_5 =>
 B2 PR X (Instr.alloc 39 true (.tuple #[])) fun t12_5 =>
 B6 PR X (Instr.storeAt 36 t11_5 t78_5) <|
 B6 PR X (Instr.storeAt 39 t12_5 t79_5) <|
 C4 t11_5 t12_5) (both (B2 PR X (Instr.alloc 39 true (.tuple #[])) fun t12_4 =>
 B2 PR X (Instr.alloc 36 true (.tuple #[])) fun t11_4 =>
 B6 PR X (Instr.storeAt 36 t11_4 t78_5) <|
 B6 PR X (Instr.storeAt 39 t12_4 t79_5) <|
 C4 t11_4 t12_4) ((fun _ => True)))) (both (B2 PR X (Instr.alloc 36 true (.tuple #[])) fun t11_3 =>
 watch PR [(none, (Instr.loadAt 3 t75_1), t76_1), (none, (Instr.loadAt 42 t70_1), t71_1), (none, (Instr.loadAt 36 t8), t66_1)] <|
 both (B1 PR X 14 [t66_1, t71_1, t76_1] fun t77_4 =>
 A0 PR (Instr.extract t77_4 0) fun t78_4 =>
 A0 PR (Instr.extract t77_4 1) fun t79_4 =>
 B2 PR X (Instr.alloc 39 true (.tuple #[])) fun t12_3 =>
 B6 PR X (Instr.storeAt 36 t11_3 t78_4) <|
 B6 PR X (Instr.storeAt 39 t12_3 t79_4) <|
 C4 t11_3 t12_3) (both (B2 PR X (Instr.alloc 39 true (.tuple #[])) fun t12_2 =>
 watch PR [(none, (Instr.loadAt 3 t75_1), t76_1), (none, (Instr.loadAt 42 t70_1), t71_1), (none, (Instr.loadAt 36 t8), t66_1)] <|
 B1 PR X 14 [t66_1, t71_1, t76_1] fun t77_3 =>
 A0 PR (Instr.extract t77_3 0) fun t78_3 =>
 A0 PR (Instr.extract t77_3 1) fun t79_3 =>
 B6 PR X (Instr.storeAt 36 t11_3 t78_3) <|
 B6 PR X (Instr.storeAt 39 t12_2 t79_3) <|
 C4 t11_3 t12_2) ((fun _ => True)))) (both (B2 PR X (Instr.alloc 39 true (.tuple #[])) fun t12_1 =>
 watch PR [(none, (Instr.loadAt 3 t75_1), t76_1), (none, (Instr.loadAt 42 t70_1), t71_1), (none, (Instr.loadAt 36 t8), t66_1)] <|
 both (B1 PR X 14 [t66_1, t71_1, t76_1] fun t77_2 =>
 A0 PR (Instr.extract t77_2 0) fun t78_2 =>
 A0 PR (Instr.extract t77_2 1) fun t79_2 =>
 B2 PR X (Instr.alloc 36 true (.tuple #[])) fun t11_2 =>
 B6 PR X (Instr.storeAt 36 t11_2 t78_2) <|
 B6 PR X (Instr.storeAt 39 t12_1 t79_2) <|
 C4 t11_2 t12_1) (both (B2 PR X (Instr.alloc 36 true (.tuple #[])) fun t11_1 =>
 watch PR [(none, (Instr.loadAt 3 t75_1), t76_1), (none, (Instr.loadAt 42 t70_1), t71_1), (none, (Instr.loadAt 36 t8), t66_1)] <|
 B1 PR X 14 [t66_1, t71_1, t76_1] fun t77_1 =>
 A0 PR (Instr.extract t77_1 0) fun t78_1 =>
 A0 PR (Instr.extract t77_1 1) fun t79_1 =>
 B6 PR X (Instr.storeAt 36 t11_1 t78_1) <|
 B6 PR X (Instr.storeAt 39 t12_1 t79_1) <|
 C4 t11_1 t12_1) ((fun _ => True)))) ((fun _ => True))))) fun C5 =>
 A0 PR (Instr.indexAt 24 t1 t9_1) fun t56_1 =>
 A0 PR (Instr.fieldAt 44 t56_1 0) fun t57_1 =>
 A6 PR (Instr.loadAt 42 t57_1) fun t58_1 =>
 A0 PR (Instr.indexAt 24 t1 t9_1) fun t61_1 =>
 A0 PR (Instr.fieldAt 44 t61_1 1) fun t62_1 =>
 A6 PR (Instr.loadAt 3 t62_1) fun t63_1 =>
 both (B1 PR X 13 [t25, t58_1, t63_1] fun t64_2 =>
 B2 PR X (Instr.alloc 39 true (.tuple #[])) fun t10_2 =>
 B6 PR X (Instr.storeAt 39 t10_2 t64_2) <|
 C5 t10_2) (both (B2 PR X (Instr.alloc 39 true (.tuple #[])) fun t10_1 =>
 watch PR [(none, (Instr.loadAt 3 t62_1), t63_1), (none, (Instr.loadAt 42 t57_1), t58_1)] <|
 B1 PR X 13 [t25, t58_1, t63_1] fun t64_1 =>
 B6 PR X (Instr.storeAt 39 t10_1 t64_1) <|
 C5 t10_1) ((fun _ => True)))) fun J6 =>
 A0 PR (A7 .len #[24] 0 [t1]) fun t49 =>
 A0 PR (binOp .lss 3 t9_1 t49) fun t50 =>
 B5 t50 (
 J6) (
 J1 t4_5 t9_1)) t4_3 (.int .i64 0)) fun J7 =>
 A0 PR (binOp .neq 28 t26 (.int .i64 0)) fun t39 =>
 gj t39 false (fun J => J t25) fun t41 =>
 gj t39 false (fun J => A6 PR (N1 .eql 27 (.tmp 41) (.const (.pointer none)) t41 (.pointer none)) J) fun t42 =>
 A0 PR (do pure (if ← asBool t39 then (.bool true) else t42)) fun t43 =>
 B5 t43 (
 R t14) (
 J7 t4_2)) fun J8 =>
 A6 PR (Instr.loadAt 23 t2) fun t28 =>
 B1 PR X 11 [t28] fun t29 =>
 A0 PR (binOp .neq 28 t26 t29) fun t30 =>
 gj t30 false (fun J => J t25) fun t32 =>
 gj t30 false (fun J => A6 PR (N1 .eql 27 (.tmp 32) (.const (.pointer none)) t32 (.pointer none)) J) fun t33 =>
 gj t30 false (fun J => J t26) fun t34 =>
 gj t30 false (fun J => A0 PR (binOp .neq 28 t34 (.int .i64 0)) J) fun t35 =>
 gj t30 false (fun J => A0 PR (binOp .neq 4 t33 t35) J) fun t36 =>
 A0 PR (do pure (if ← asBool t30 then (.bool true) else t36)) fun t37 =>
 B5 t37 (
 R (.bool false)) (
 J8 t4_1)) fun J9 =>
 A6 PR (Instr.loadAt 23 t2) fun t17 =>
 B1 PR X 9 [t17, t1] fun t19 =>
 A0 PR (Op.unary .not t19) fun t20 =>
 B5 t20 (
 R t14) (
 J9 t4)) fun J10 =>
 A0 PR (Op.unary .not t14) fun t16 =>
 B5 t16 (
 R (.bool false)) (
 J10 (.bool false))
theorem A2K {X : Nat → Prop} {t0 t1 : Value} {R : Value → WP} {w : World} (h : j7 X t0 t1 R w) : Fn PR X 3 #[t0, t1] w R := C6 (args := [t0, t1]) mixed Tryz.func3 (by kernel_rfl) h
end Go.Proofs.YtpbmephflllolaaGreat
namespace Go.Proofs.YtpbmephflllolaaGreat
open Go
theorem C1K {K : Value → WP} (a b : Bool) : A0 PR (binOp .neq 4 (.bool a) (.bool b)) K = K (.bool (!(a == b))) := F4 (fun w => by
 have h : (Op.equal 4 (.bool a) (.bool b)).run PR w = .ok (a == b) w := B2F (e := 9999) ty4 w
 simp [binOp, h]) K
theorem B2T (w : World) (c : CfgV) (lv : Value) (l : List StA) (hn : l.length ≤ 9223372036854775807) (hv : E3 w lv l.length (l.flatMap A4e)) (hs : ∀ x ∈ l, A7d w x) :
  Fn PR B3 3 #[c.val, lv] w (fun v w' => v = .bool true ∧ C1 [] w w') := by
 refine Fn.pure (A2K (TW.go (κ := false) (S := []) ?_))
 unfold j7
 obtain ⟨la, lc, rfl, hr⟩ := hv.form
 simp only [CfgV.val]
 (have zz:=trivial;repeat((first|clear zz|with_reducible first|refine A3 ?_|refine A4 fun _=>?_|refine A5 fun _=>?_);try simp(disch:=first|omega|assumption|((repeat(first|exact A1|exact uH|apply A2|apply uT));first|done|fail)|(simp;first|done|omega|fail))[]))
 rename_i bc
 refine B8 A4n (fun w' _ => C0V w') ?_
 (have zz:=trivial;repeat((first|clear zz|with_reducible first|refine A3 ?_|refine A4 fun _=>?_|refine A5 fun _=>?_);try simp(disch:=first|omega|assumption|((repeat(first|exact A1|exact uH|apply A2|apply uT));first|done|fail)|(simp;first|done|omega|fail))[]))
 refine B8 A69 (fun w' hw' => C37 w' c _ l hn (hv.ks hw'.ks (by simp)) fun x hx => (hs x hx).sl) ?_
 cases hf : A8Y c (l.map (·.1.1)) with
 | false => (have zz:=trivial;repeat((first|clear zz|with_reducible first|refine A3 ?_|refine A4 fun _=>?_|refine A5 fun _=>?_);try simp(disch:=first|omega|assumption|((repeat(first|exact A1|exact uH|apply A2|apply uT));first|done|fail)|(simp;first|done|omega|fail))[])); exact A9 rfl
 | true =>
 (have zz:=trivial;repeat((first|clear zz|with_reducible first|refine A3 ?_|refine A4 fun _=>?_|refine A5 fun _=>?_);try simp(disch:=first|omega|assumption|((repeat(first|exact A1|exact uH|apply A2|apply uT));first|done|fail)|(simp;first|done|omega|fail))[]))
 obtain ⟨hc6, hl12, hfo⟩ := C4A hf
 have hl : l.length ≤ 12 := by simpa using hl12
 refine B6Z (c := c) (fun h0 => ?_) fun m hok hst hi => ?_
 ·(have zz:=trivial;repeat((first|clear zz|with_reducible first|refine A3 ?_|refine A4 fun _=>?_|refine A5 fun _=>?_);try simp(disch:=first|omega|assumption|((repeat(first|exact A1|exact uH|apply A2|apply uT));first|done|fail)|(simp;first|done|omega|fail))[]))
  refine B8 A0C (fun w' _ => B3e w' c) ?_
  (have zz:=trivial;repeat((first|clear zz|with_reducible first|refine A3 ?_|refine A4 fun _=>?_|refine A5 fun _=>?_);try simp(disch:=first|omega|assumption|((repeat(first|exact A1|exact uH|apply A2|apply uT));first|done|fail)|(simp;first|done|omega|fail))[h0, C1K]))
  exact A9 rfl
 simp only [C8, List.cons_append, List.nil_append]
 (have zz:=trivial;repeat((first|clear zz|with_reducible first|refine A3 ?_|refine A4 fun _=>?_|refine A5 fun _=>?_);try simp(disch:=first|omega|assumption|((repeat(first|exact A1|exact uH|apply A2|apply uT));first|done|fail)|(simp;first|done|omega|fail))[]))
 refine B8 A0C (fun w' _ => B3e w' c) ?_
 (have zz:=trivial;repeat((first|clear zz|with_reducible first|refine A3 ?_|refine A4 fun _=>?_|refine A5 fun _=>?_);try simp(disch:=first|omega|assumption|((repeat(first|exact A1|exact uH|apply A2|apply uT));first|done|fail)|(simp;first|done|omega|fail))[hok, C1K]))
 refine G3 A6d (fun w' _ => C3N w' c hok) ?_
 rintro r u ⟨rfl, hrc, hrp, hrv, hrt, hrl⟩
 have hst0 : r.st = m.st := by
  rw [hst]
  unfold RmH.st A5z
  rw [hrc, hrp, hrt, hrl]
  congr 1
  generalize c.sh.toNat = q
  induction q with
  | zero => rfl
  | succ q ih => rw [List.replicate_succ, List.replicate_succ, List.replicate_succ, List.zip_cons_cons, ih]
 have hrpl : r.pl.length = r.ts.length := by
  have := congrArg List.length hrt
  simp only [List.length_map, List.length_replicate] at this
  rw [hrl, List.length_replicate, this]
 refine C5j hst0 hi hrpl (by rw [hrv, hrp]; exact Or.inl ⟨rfl, rfl, none, 0, rfl⟩) fun x hrx hx => ?_
 subst hrx
 rw [show (x.rm c).val = .agg (x.cs c) from rfl]
 (have zz:=trivial;repeat((first|clear zz|with_reducible first|refine A3 ?_|refine A4 fun _=>?_|refine A5 fun _=>?_);try simp(disch:=first|omega|assumption|((repeat(first|exact A1|exact uH|apply A2|apply uT));first|done|fail)|(simp;first|done|omega|fail))[RmS.cs]))
 rename_i b8
 refine Sels.tw (rs := C8 m ++ (T5 x ++ [.pt b8 (.cells (x.cs c) 36), .pt bc (.cells #[.int .i64 c.wk, .int .i64 c.sh, .int .i64 c.cp, .int .i64 c.idle, .int .i64 c.sl] 23)])) (by simp only [C8, T5, RmS.cs, List.cons_append, List.nil_append]; (repeat' constructor)) ?_
 refine K8 l.length (fun _ _ => .bool false) (fun i (y : BaH × RmS) => C8 y.1 ++ (T5 y.2 ++ [.pt b8 (.cells (y.2.cs c) 36), .pt bc (.cells #[.int .i64 c.wk, .int .i64 c.sh, .int .i64 c.cp, .int .i64 c.idle, .int .i64 c.sl] 23)])) (fun i y => y.1.b = m.b ∧ Inv c y.1.st ∧ RsOk w c y.2 y.1.st) (m, x) ⟨rfl, hi, hx⟩ ?_
 rintro i ⟨m1, x1⟩ hil ⟨hb1, hi1, hx1⟩ L hL
 simp only at hb1 hi1 hx1 ⊢
 rw [← hb1]
 by_cases hlt : i < l.length
 case neg =>
  obtain rfl : i = l.length := by omega
  (have zz:=trivial;repeat((first|clear zz|with_reducible first|refine A3 ?_|refine A4 fun _=>?_|refine A5 fun _=>?_);try simp(disch:=first|omega|assumption|((repeat(first|exact A1|exact uH|apply A2|apply uT));first|done|fail)|(simp;first|done|omega|fail))[]))
  exact A9 rfl
 have hy := List.getElem?_eq_getElem hlt
 obtain ⟨lb, lo, rfl, hrow⟩ := hr (by omega)
 obtain ⟨h1, h2⟩ := C6p hrow hy
 have hyp := hs l[i] (List.getElem_mem hlt)
 have hyo := hfo l[i].1.1 (List.mem_map_of_mem (List.getElem_mem hlt))
 generalize l[i] = y at *
 have hyp0 : E3 w y.1.2 y.1.1.pool.length (y.1.1.pool.flatMap E7) := hyp
 obtain ⟨ya, yc, hye⟩ := hyp.sl
 rw [y8] at h1
 rw [hye] at h1 hyp0
 generalize hdo : j8 m1.st y.1.1 y.2 = dv at *
 obtain ⟨s2, an⟩ := dv
 (have zz:=trivial;repeat((first|clear zz|with_reducible first|refine A3 ?_|refine A4 fun _=>?_|refine A5 fun _=>?_);try simp(disch:=first|omega|assumption|((repeat(first|exact A1|exact uH|apply A2|apply uT));first|done|fail)|(simp;first|done|omega|fail))[hlt]))
 refine C5f (α := Nat × BaH) (fun z => z.2.b = m1.b ∧ z.2.st = s2 ∧ Inv c z.2.st) (fun z => .pt z.1 (.cells #[.int .i64 an.err, .int .i64 an.bk, .bool an.made, .int .i64 an.count] 39) :: (C8 z.2 ++ (T5 x1 ++ [.pt b8 (.cells (x1.cs c) 36), .pt bc (.cells #[.int .i64 c.wk, .int .i64 c.sh, .int .i64 c.cp, .int .i64 c.idle, .int .i64 c.sl] 23)]))) (fun z => .pointer (some ⟨z.1, 0, none⟩)) ?_ ?_
 case refine_2 =>
  intro J hJ
  (have zz:=trivial;repeat((first|clear zz|with_reducible first|refine A3 ?_|refine A4 fun _=>?_|refine A5 fun _=>?_);try simp(disch:=first|omega|assumption|((repeat(first|exact A1|exact uH|apply A2|apply uT));first|done|fail)|(simp;first|done|omega|fail))[hlt, h1, h2]))
  refine ⟨?_, ?_, fun _ _ => trivial⟩
  ·refine C0f (o := y.1.1) (v := .slice ya y.1.1.pool.length yc) (now := y.2) _ hi1 Y7 (fun w' hw' => B3b hw' hyp0 (by omega)) (by omega) hdo fun m2 hb2 hst2 hi2 => ?_
   (have zz:=trivial;repeat((first|clear zz|with_reducible first|refine A3 ?_|refine A4 fun _=>?_|refine A5 fun _=>?_);try simp(disch:=first|omega|assumption|((repeat(first|exact A1|exact uH|apply A2|apply uT));first|done|fail)|(simp;first|done|omega|fail))[AnsV.val]))
   rename_i ba
   exact hJ (ba, m2) ⟨hb2, hst2, hi2⟩
  ·(have zz:=trivial;repeat((first|clear zz|with_reducible first|refine A3 ?_|refine A4 fun _=>?_|refine A5 fun _=>?_);try simp(disch:=first|omega|assumption|((repeat(first|exact A1|exact uH|apply A2|apply uT));first|done|fail)|(simp;first|done|omega|fail))[hlt, h1, h2]))
   rename_i ba
   refine C0f (o := y.1.1) (v := .slice ya y.1.1.pool.length yc) (now := y.2) _ hi1 (by ((repeat (first | exact Y7 | apply Part.skip)); first | done | fail)) (fun w' hw' => B3b hw' hyp0 (by omega)) (by omega) hdo fun m2 hb2 hst2 hi2 => ?_
   simp only [C8, List.cons_append, List.nil_append]
   (have zz:=trivial;repeat((first|clear zz|with_reducible first|refine A3 ?_|refine A4 fun _=>?_|refine A5 fun _=>?_);try simp(disch:=first|omega|assumption|((repeat(first|exact A1|exact uH|apply A2|apply uT));first|done|fail)|(simp;first|done|omega|fail))[AnsV.val]))
   refine Sels.tw ?_ (hJ (ba, m2) ⟨hb2, hst2, hi2⟩)
   simp only [C8, T5, List.cons_append, List.nil_append]
   (repeat' constructor)
 rintro ⟨ba, m2⟩ ⟨hb2, hst2, hi2⟩
 simp only at hb2 hst2 hi2 ⊢
 rw [← hb2]
 have hD17 : ∀ {H Hk : List Res} {K : Value → WP}, Part (T5 x1) H Hk → (∀ x2 : RmS, RsOk w c x2 m2.st → TW false [] w (T5 x2 ++ Hk) (K (.tuple #[.agg (x2.cs c), an.val]))) → TW false [] w H (B1 PR B3 14 [.agg (x1.cs c), y.1.1.val (.slice ya y.1.1.pool.length yc), .int .i64 y.2] K) := by
  intro H Hk K hp hK
  refine C6u hx1 hyp0 (by omega) (by omega) hp fun x2 hx2 => ?_
  rw [hdo] at hx2 ⊢
  exact hK x2 (by rw [hst2]; exact hx2)
 have hx1l := hx1.pl
 simp only [C8, T5, RmS.cs, List.cons_append, List.nil_append]
 (have zz:=trivial;repeat((first|clear zz|with_reducible first|refine A3 ?_|refine A4 fun _=>?_|refine A5 fun _=>?_);try simp(disch:=first|omega|assumption|((repeat(first|exact A1|exact uH|apply A2|apply uT));first|done|fail)|(simp;first|done|omega|fail))[]))
 refine C0b (α := Nat × Nat × RmS) (fun z => RsOk w c z.2.2 m2.st) (fun z => .pt z.1 (.cells (z.2.2.cs c) 36) :: .pt z.2.1 (.cells #[.int .i64 an.err, .int .i64 an.bk, .bool an.made, .int .i64 an.count] 39) :: (C8 m2 ++ (T5 z.2.2 ++ [.pt ba (.cells #[.int .i64 an.err, .int .i64 an.bk, .bool an.made, .int .i64 an.count] 39), .pt b8 (.cells (x1.cs c) 36), .pt bc (.cells #[.int .i64 c.wk, .int .i64 c.sh, .int .i64 c.cp, .int .i64 c.idle, .int .i64 c.sl] 23)]))) (fun z => .pointer (some ⟨z.1, 0, none⟩)) (fun z => .pointer (some ⟨z.2.1, 0, none⟩)) ?_ ?_
 case refine_2 =>
  intro J hJ
  (have zz:=trivial;repeat((first|clear zz|with_reducible first|refine A3 ?_|refine A4 fun _=>?_|refine A5 fun _=>?_);try simp(disch:=first|omega|assumption|((repeat(first|exact A1|exact uH|apply A2|apply uT));first|done|fail)|(simp;first|done|omega|fail))[hlt, h1, h2]))
  refine ⟨?_, ?_, ?_, fun _ _ => trivial⟩
  ·refine hD17 (by simp only [T5]; (repeat' constructor)) fun x2 hx2 => ?_
   simp only [C8, T5, RmS.cs, List.cons_append, List.nil_append]
   (have zz:=trivial;repeat((first|clear zz|with_reducible first|refine A3 ?_|refine A4 fun _=>?_|refine A5 fun _=>?_);try simp(disch:=first|omega|assumption|((repeat(first|exact A1|exact uH|apply A2|apply uT));first|done|fail)|(simp;first|done|omega|fail))[AnsV.val]))
   refine ⟨?_, ?_, fun _ _ => trivial⟩
   ·(have zz:=trivial;repeat((first|clear zz|with_reducible first|refine A3 ?_|refine A4 fun _=>?_|refine A5 fun _=>?_);try simp(disch:=first|omega|assumption|((repeat(first|exact A1|exact uH|apply A2|apply uT));first|done|fail)|(simp;first|done|omega|fail))[AnsV.val]))
    rename_i b11 b12
    refine Sels.tw ?_ (hJ (b11, b12, x2) hx2)
    simp only [C8, T5, RmS.cs, List.cons_append, List.nil_append]
    (repeat' constructor)
   ·(have zz:=trivial;repeat((first|clear zz|with_reducible first|refine A3 ?_|refine A4 fun _=>?_|refine A5 fun _=>?_);try simp(disch:=first|omega|assumption|((repeat(first|exact A1|exact uH|apply A2|apply uT));first|done|fail)|(simp;first|done|omega|fail))[AnsV.val]))
    rename_i b12 b11
    refine Sels.tw ?_ (hJ (b11, b12, x2) hx2)
    simp only [C8, T5, RmS.cs, List.cons_append, List.nil_append]
    (repeat' constructor)
  ·(have zz:=trivial;repeat((first|clear zz|with_reducible first|refine A3 ?_|refine A4 fun _=>?_|refine A5 fun _=>?_);try simp(disch:=first|omega|assumption|((repeat(first|exact A1|exact uH|apply A2|apply uT));first|done|fail)|(simp;first|done|omega|fail))[hlt, h1, h2]))
   rename_i b11
   rw [V4 (by (repeat constructor)) (by rfl)]
   (have zz:=trivial;repeat((first|clear zz|with_reducible first|refine A3 ?_|refine A4 fun _=>?_|refine A5 fun _=>?_);try simp(disch:=first|omega|assumption|((repeat(first|exact A1|exact uH|apply A2|apply uT));first|done|fail)|(simp;first|done|omega|fail))[hlt, h1, h2]))
   refine ⟨?_, ?_, fun _ _ => trivial⟩
   ·refine hD17 (by simp only [T5]; (repeat' constructor)) fun x2 hx2 => ?_
    simp only [C8, T5, RmS.cs, List.cons_append, List.nil_append]
    (have zz:=trivial;repeat((first|clear zz|with_reducible first|refine A3 ?_|refine A4 fun _=>?_|refine A5 fun _=>?_);try simp(disch:=first|omega|assumption|((repeat(first|exact A1|exact uH|apply A2|apply uT));first|done|fail)|(simp;first|done|omega|fail))[AnsV.val]))
    rename_i b12
    refine Sels.tw ?_ (hJ (b11, b12, x2) hx2)
    simp only [C8, T5, RmS.cs, List.cons_append, List.nil_append]
    (repeat' constructor)
   ·(have zz:=trivial;repeat((first|clear zz|with_reducible first|refine A3 ?_|refine A4 fun _=>?_|refine A5 fun _=>?_);try simp(disch:=first|omega|assumption|((repeat(first|exact A1|exact uH|apply A2|apply uT));first|done|fail)|(simp;first|done|omega|fail))[hlt, h1, h2]))
    rename_i b12
    rw [V4 (by (repeat constructor)) (by rfl)]
    (have zz:=trivial;repeat((first|clear zz|with_reducible first|refine A3 ?_|refine A4 fun _=>?_|refine A5 fun _=>?_);try simp(disch:=first|omega|assumption|((repeat(first|exact A1|exact uH|apply A2|apply uT));first|done|fail)|(simp;first|done|omega|fail))[hlt, h1, h2]))
    refine hD17 (by simp only [T5]; (repeat' constructor)) fun x2 hx2 => ?_
    simp only [C8, T5, RmS.cs, List.cons_append, List.nil_append]
    (have zz:=trivial;repeat((first|clear zz|with_reducible first|refine A3 ?_|refine A4 fun _=>?_|refine A5 fun _=>?_);try simp(disch:=first|omega|assumption|((repeat(first|exact A1|exact uH|apply A2|apply uT));first|done|fail)|(simp;first|done|omega|fail))[AnsV.val]))
    refine Sels.tw ?_ (hJ (b11, b12, x2) hx2)
    simp only [C8, T5, RmS.cs, List.cons_append, List.nil_append]
    (repeat' constructor)
  ·(have zz:=trivial;repeat((first|clear zz|with_reducible first|refine A3 ?_|refine A4 fun _=>?_|refine A5 fun _=>?_);try simp(disch:=first|omega|assumption|((repeat(first|exact A1|exact uH|apply A2|apply uT));first|done|fail)|(simp;first|done|omega|fail))[hlt, h1, h2]))
   rename_i b12
   rw [V4 (by (repeat constructor)) (by rfl)]
   (have zz:=trivial;repeat((first|clear zz|with_reducible first|refine A3 ?_|refine A4 fun _=>?_|refine A5 fun _=>?_);try simp(disch:=first|omega|assumption|((repeat(first|exact A1|exact uH|apply A2|apply uT));first|done|fail)|(simp;first|done|omega|fail))[hlt, h1, h2]))
   refine ⟨?_, ?_, fun _ _ => trivial⟩
   ·refine hD17 (by simp only [T5]; (repeat' constructor)) fun x2 hx2 => ?_
    simp only [C8, T5, RmS.cs, List.cons_append, List.nil_append]
    (have zz:=trivial;repeat((first|clear zz|with_reducible first|refine A3 ?_|refine A4 fun _=>?_|refine A5 fun _=>?_);try simp(disch:=first|omega|assumption|((repeat(first|exact A1|exact uH|apply A2|apply uT));first|done|fail)|(simp;first|done|omega|fail))[AnsV.val]))
    rename_i b11
    refine Sels.tw ?_ (hJ (b11, b12, x2) hx2)
    simp only [C8, T5, RmS.cs, List.cons_append, List.nil_append]
    (repeat' constructor)
   ·(have zz:=trivial;repeat((first|clear zz|with_reducible first|refine A3 ?_|refine A4 fun _=>?_|refine A5 fun _=>?_);try simp(disch:=first|omega|assumption|((repeat(first|exact A1|exact uH|apply A2|apply uT));first|done|fail)|(simp;first|done|omega|fail))[hlt, h1, h2]))
    rename_i b11
    rw [V4 (by (repeat constructor)) (by rfl)]
    (have zz:=trivial;repeat((first|clear zz|with_reducible first|refine A3 ?_|refine A4 fun _=>?_|refine A5 fun _=>?_);try simp(disch:=first|omega|assumption|((repeat(first|exact A1|exact uH|apply A2|apply uT));first|done|fail)|(simp;first|done|omega|fail))[hlt, h1, h2]))
    refine hD17 (by simp only [T5]; (repeat' constructor)) fun x2 hx2 => ?_
    simp only [C8, T5, RmS.cs, List.cons_append, List.nil_append]
    (have zz:=trivial;repeat((first|clear zz|with_reducible first|refine A3 ?_|refine A4 fun _=>?_|refine A5 fun _=>?_);try simp(disch:=first|omega|assumption|((repeat(first|exact A1|exact uH|apply A2|apply uT));first|done|fail)|(simp;first|done|omega|fail))[AnsV.val]))
    refine Sels.tw ?_ (hJ (b11, b12, x2) hx2)
    simp only [C8, T5, RmS.cs, List.cons_append, List.nil_append]
    (repeat' constructor)
 rintro ⟨b11, b12, x2⟩ hx2
 simp only at hx2 ⊢
 clear hD17 hx1l hx1 hx
 obtain ⟨pa, pc, ta, tc, ra, rc, pool, ts, pl⟩ := x2
 have hx2' := hx2
 obtain ⟨e2, _, e3, e4⟩ := hx2'
 have hpe : pool = m2.pool := congrArg MoS.pool e2
 have hte : (ts.map (·.2)).zip pl = m2.st.tabs := congrArg MoS.tabs e2
 simp only at e3 e4
 have hsh := hi2.sh
 have hcb := l0 hok
 have htl : m2.st.tabs.length = ts.length := by rw [← hte]; simp [e3]
 have hpl := (BaOk.of hi2).pool
 simp only [C8, T5, RmS.cs, List.cons_append, List.nil_append]
 have htl64 : ∀ t ∈ ts, t.2.length ≤ 64 := fun t ht => by
  obtain ⟨q, hq⟩ := B6P (r := ⟨.nilIface, .nilIface, .nilIface, c, pool, ts, pl⟩) e3 ht
  have := hi2.tab (t.2, q) (by rw [← hte]; exact hq)
  have h1 := this.len
  have h2 := this.few
  simp only at h1; omega
 have hlv : V6 ts = M3 m2.st.tabs := by
  rw [← hte]
  have : ∀ (a : List (Value × List EnV)) (p : List Nat), p.length = a.length → V6 a = M3 ((a.map (·.2)).zip p) := by
   intro a
   induction a with
   | nil => intro p _; simp [V6, M3]
   | cons x a ih =>
    intro p hp
    cases p with
    | nil => simp at hp
    | cons y p =>
     have h := ih p (by simpa using hp)
     simp only [V6, M3] at h ⊢
     rw [List.flatMap_cons, h]; simp
  exact this ts pl e3
 have hkle : (M3 m2.st.tabs).length ≤ 1000000 := by
  have := B6K (tabs := m2.st.tabs) fun t ht => by have h := hi2.tab t ht; have h1 := h.len; have h2 := h.few; omega
  omega
 (have zz:=trivial;repeat((first|clear zz|with_reducible first|refine A3 ?_|refine A4 fun _=>?_|refine A5 fun _=>?_);try simp(disch:=first|omega|assumption|((repeat(first|exact A1|exact uH|apply A2|apply uT));first|done|fail)|(simp;first|done|omega|fail))[AnsV.val]))
 refine B9L hi2 (by simp only [C8]; (repeat' constructor)) fun a b => ?_
 simp only [C8, List.cons_append, List.nil_append]
 (have zz:=trivial;repeat((first|clear zz|with_reducible first|refine A3 ?_|refine A4 fun _=>?_|refine A5 fun _=>?_);try simp(disch:=first|omega|assumption|((repeat(first|exact A1|exact uH|apply A2|apply uT));first|done|fail)|(simp;first|done|omega|fail))[]))
 rw [V4 (by (repeat constructor)) (by rfl)]
 (have zz:=trivial;repeat((first|clear zz|with_reducible first|refine A3 ?_|refine A4 fun _=>?_|refine A5 fun _=>?_);try simp(disch:=first|omega|assumption|((repeat(first|exact A1|exact uH|apply A2|apply uT));first|done|fail)|(simp;first|done|omega|fail))[]))
 refine G3 A5T (fun w' hw' => C1p w' c (.slice pa pool.length pc) (.slice ta ts.length tc) (.slice ra pl.length rc) ts (by have := l0 hok; omega) htl64 (K3.own (e := 94) (k := 1) (by (repeat constructor)) w' hw') (fun t ht => C2w hw' (ts := ts) (by (repeat constructor)) ht) ⟨rfl, rfl⟩) ?_
 rintro _ r rfl
 rw [hlv]
 simp only [List.cons_append, List.nil_append]
 refine B8 A4p (fun w' hw' => C4a w' _ r (M3 m2.st.tabs) hkle (K3.own (e := 9) (k := 1) (by (repeat constructor)) w' hw') (K3.own (e := 9) (k := 1) (by (repeat constructor)) w' hw')) ?_
 (have zz:=trivial;repeat((first|clear zz|with_reducible first|refine A3 ?_|refine A4 fun _=>?_|refine A5 fun _=>?_);try simp(disch:=first|omega|assumption|((repeat(first|exact A1|exact uH|apply A2|apply uT));first|done|fail)|(simp;first|done|omega|fail))[AnsV.val]))
 refine B84 hi2 (by simp only [C8]; (repeat' constructor)) fun a1 c1 => ?_
 simp only [C8, List.cons_append, List.nil_append]
 (have zz:=trivial;repeat((first|clear zz|with_reducible first|refine A3 ?_|refine A4 fun _=>?_|refine A5 fun _=>?_);try simp(disch:=first|omega|assumption|((repeat(first|exact A1|exact uH|apply A2|apply uT));first|done|fail)|(simp;first|done|omega|fail))[AnsV.val]))
 refine B8 A5e (fun w' hw' => C3x w' (.slice a1 m2.pool.length c1) (.slice pa pool.length pc) m2.pool pool (by omega) (by rw [hpe]; omega) (K3.own A1 w' hw') (e4.ks hw'.ks (by simp))) ?_
 rw [show decide (m2.pool = pool) = true from decide_eq_true hpe.symm]
 (have zz:=trivial;repeat((first|clear zz|with_reducible first|refine A3 ?_|refine A4 fun _=>?_|refine A5 fun _=>?_);try simp(disch:=first|omega|assumption|((repeat(first|exact A1|exact uH|apply A2|apply uT));first|done|fail)|(simp;first|done|omega|fail))[AnsV.val]))
 refine Sels.tw ?_ (hL hlt (m2, ⟨pa, pc, ta, tc, ra, rc, pool, ts, pl⟩) ⟨by rw [hb2, hb1], hi2, hx2⟩)
 simp only [C8, T5, RmS.cs, List.cons_append, List.nil_append]
 (repeat' constructor)
end Go.Proofs.YtpbmephflllolaaGreat
