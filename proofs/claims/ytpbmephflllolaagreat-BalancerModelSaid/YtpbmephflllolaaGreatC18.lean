/- The proof of a given statement, a part of it (Def ShBalancer Bal Bal2 Bal3 Bal4 Bal5 ShR08 ShR11 Rf11 ShR02 Rf02 Rf11b Rf12 ShR09 ShR10 ShR01 Rf01 Without Rf09 Makes Rf17a ShR07 ShR05 ShR06 ShR03 ShR04 Rf03 Rf04 Rf07 Rf08 ShR13 Rf13 Rf17b Rf17c Rf17d Rf17e Rf24 Bal6 BalT Works24 Few24 ShL24BalancerModel BModelW). No condition but what each lemma says. -/
import Derived.Defers
import Derived.Test.YtpbmephflllolaaGreatC17
set_option linter.unusedVariables false
set_option linter.unusedSimpArgs false
namespace Go.Proofs.YtpbmephflllolaaGreat
open Go
def FnD (P : Program) (X : Nat → Prop) (f : FuncId) (args : Array Value) (w : World) (R : Value → WP) : Prop :=
 CallsD P f args .returning w fun e u' w' => ∃ v, e = .returned v ∧ u' = .returning ∧ R v w' ∧ Sk X w w'
def dfr (P : Program) (X : Nat → Prop) (g : Value) (A : WP) : WP :=
 match g with
 | .func (.func f) first cap => fun w => A9 P f ∧ FnD P X f (first.toList ++ cap.toList).toArray w fun _ => A
 | _ => E6
def isf (g : Value) (A : WP) : WP := fun w => (∃ f first cap, g = .func (.func f) first cap) ∧ A w
def A4C (o : Oper) : Option Operand :=
 match o.guard, o.dst with
 | none, none => match o.op with
  | .defer c => match c.callee, c.args.toList with
   | .value g, [] => some g
   | _, _ => none
  | _ => none
 | _, _ => none
def A2m : List Oper → Option (List Oper × Operand)
 | [] => none
 | o :: r => match r with
  | [] => match A4C o with | some g => some ([], g) | none => none
  | _ :: _ => match A2m r with | some (l, g) => some (o :: l, g) | none => none
def B32 : Code → Option (Array Oper × List Oper × Operand)
 | .region _ ops false => match A2m ops.toList with | some (l, g) => some (ops, l, g) | none => none
 | _ => none
def vcD (P : Program) (X : Nat → Prop) (n : Nat) (fn : D7 → WP) : Code → D7 → WP
 | .seq a b, e =>
  match B32 a with
  | some (ops, l, g) => A84 P X n ops l e fun e' => w1 (ev n e' g) fun gv => isf gv (vc P X n false b e' (fun e => dfr P X gv (fn e)) { exit := fun _ _ => E6, ret := fun e => dfr P X gv (fn e) })
  | none => vc P X n false a e (fun e' => vcD P X n fn b e') { exit := fun _ _ => E6, ret := fn }
 | _, _ => E6
def A67 (P : Program) (X : Nat → Prop) (fn : Func) (args : List Value) (R : Value → WP) : WP :=
 match fn.body with
 | none => E6
 | some c => match Nat.ble args.length fn.ntmps with
  | false => E6
  | true => match K3 c with
   | true => E6
   | false => vcD P X fn.ntmps (Z1 P fn.ntmps fn.results.toList R) c (z8 0 args)
theorem C1n {P : Program} {X : Nat → Prop} {n : Nat} {ro : Option Nat} {ops : Array Oper} {K : D7 → WP} : ∀ (l : List Oper) (i : Nat), (∀ j o, l[j]? = some o → ops[i + j]? = some o) → ∀ (e : D7) (a : Act) (w : World),
  e.Ok n a → A84 P X n ops l e K w → Q7 P X ro ops (fun a w => ∃ e', D7.Ok n e' a ∧ K e' w) (List.range' i l.length) a w := by
 intro l
 induction l with
 | nil => intro i _ e a w hok h; exact ⟨e, hok, h⟩
 | cons o l ih =>
  intro i hi e a w hok h
  have ho : ops[i]? = some o := hi 0 o rfl
  have h2 : ∀ j o', l[j]? = some o' → ops[i + 1 + j]? = some o' := fun j o' hj => by
   have := hi (j + 1) o' (by simpa using hj)
   rw [show i + 1 + j = i + (j + 1) from by omega]; exact this
  simp only [List.length_cons, List.range'_succ, Q7]
  unfold W7
  rw [ho]; simp only []
  rcases u6 hok h with ⟨hw, hy⟩ | ⟨hw, hn, _⟩
  ·rw [if_pos hw]
   exact (C0s hok hy).mono fun v w' hv => ih (i + 1) h2 _ _ _ (hok.put _ _) hv
  ·rw [if_neg (by simp [hw])]
   exact ih (i + 1) h2 _ _ _ (hok.put _ _) hn
theorem B6L {P : Program} {X : Nat → Prop} {b : Frame} {ops : Array Oper} {Q : Act → World → Prop} (rest : List Nat) (l : List Nat) : ∀ (a : Act) (w : World), Q7 P X b.roundOf ops Q l a w → ∀ (k : List Item) (cs : List Frame),
  ∃ a' w', Q a' w' ∧ Sk X w w' ∧ a'.defers = a.defers ∧ Steps P (lone (b.atR a (.inRegion ops (l ++ rest) :: k)) cs w) (lone (b.atR a' (.inRegion ops rest :: k)) cs w') := by
 induction l with
 | nil => exact fun a w h k cs => ⟨a, w, h, Sk.refl _ _, rfl, Steps.refl _ _⟩
 | cons i l ih =>
  intro a w h k cs
  obtain ⟨a₁, w₁, hK, hs, hd, st⟩ := B20 (rest := l ++ rest) h k cs
  obtain ⟨a₂, w₂, hQ, hs₂, hd₂, st₂⟩ := ih a₁ w₁ hK k cs
  exact ⟨a₂, w₂, hQ, hs.trans hs₂, hd₂.trans hd, st.trans st₂⟩
theorem B4A : ∀ {L l : List Oper} {g : Operand}, A2m L = some (l, g) → ∃ o, L = l ++ [o] ∧ A4C o = some g := by
 intro L
 induction L with
 | nil => intro l g h; cases h
 | cons o r ih =>
  intro l g h
  cases r with
  | nil =>
   simp only [A2m] at h
   cases hd : A4C o with
   | none => rw [hd] at h; cases h
   | some g' => rw [hd] at h; cases h; exact ⟨o, rfl, hd⟩
  | cons o' r =>
   rw [A2m] at h
   cases hs : A2m (o' :: r) with
   | none => rw [hs] at h; cases h
   | some p =>
    obtain ⟨l', g'⟩ := p
    rw [hs] at h; cases h
    obtain ⟨o2, h1, h2⟩ := ih hs
    exact ⟨o2, by rw [h1]; rfl, h2⟩
theorem B6S {P : Program} {n : Nat} {b : Frame} {ops : Array Oper} {i : Nat} {o : Oper} {g : Operand} {f : FuncId} {first cap : Array Value} {e : D7} {a : Act} {w : World} (hb : b.roundOf = none)
  (ho : ops[i]? = some o) (hd : A4C o = some g) (hok : e.Ok n a) (hg : ev n e g = some (.func (.func f) first cap)) (k : List Item) (cs : List Frame) :
  Steps P (lone (b.atR a (.inRegion ops [i] :: k)) cs w) (lone (b.atR { a with defers := { target := .fn (.func f) cap, args := first ++ #[] } :: a.defers } k) cs w) := by
 obtain ⟨dst, op, type, pos, after, guard⟩ := o
 unfold A4C at hd
 cases guard <;> cases dst <;> simp only [reduceCtorEq] at hd
 cases op <;> simp only [reduceCtorEq] at hd
 rename_i c
 obtain ⟨callee, cargs, ctypes⟩ := c
 cases callee <;> simp only [reduceCtorEq] at hd
 rename_i f'
 have ha : cargs = #[] := by
  cases hc : cargs.toList with
  | nil => exact Array.toList_inj.1 (by simpa using hc)
  | cons x xs => rw [hc] at hd; cases hd
 subst ha
 simp only [Option.some.injEq] at hd
 subst hd
 have hgv := E4 hok hg
 have hgo := stepGR_op (P := P) (b := b) (a := a) (k := k) (cs := cs) (w := w) (rest := []) ho rfl
 have hr : (Oper.semAt b.roundOf a.eval ⟨none, .defer ⟨.value f', #[], ctypes⟩, type, pos, after, none⟩).run P w = .ok (.defer { target := .fn (.func f) cap, args := first ++ #[] }) w := by
  rw [hb, Oper.semAt_none]
  simp only [execOp, resolve, Array.map_empty, hgv, Deferred.ofValue]
  rfl
 refine .head (step_lone_go ?_) (.one (stepR_region_end (ops := ops)))
 rw [hgo]
 simp only [stepG.apply, Sem.runT_eq, hr]
 have hf := Frame.finish_atR b { a with defers := { target := .fn (.func f) cap, args := first ++ #[] } :: a.defers } ops i [] k undef
 rw [ho] at hf
 simp only [Option.bind_some, Act.put] at hf
 rw [← hf]
 rfl
def C7E (P : Program) (X : Nat → Prop) (n : Nat) (fn : D7 → WP) (a : Act) (w : World) : Prop :=
 ∃ e, D7.Ok n e a ∧ ((a.defers = [] ∧ fn e w) ∨ ∃ f first cap, a.defers = [{ target := .fn (.func f) cap, args := first ++ #[] }] ∧ dfr P X (.func (.func f) first cap) (fn e) w)
theorem C2E {P : Program} {X : Nat → Prop} {n : Nat} {b : Frame} {fn : D7 → WP} (hm : P.follows .mixedOrders = true) (hb : b.roundOf = none) (cs : List Frame) : ∀ (c : Code) (e : D7) (a : Act) (w : World),
  K3 c = false → e.Ok n a → a.defers = [] → vcD P X n fn c e w →
  ∃ a' w' k0, Steps P (lone (b.atR a [.code c]) cs w) (lone { b.atR a' k0 with mode := .returning } cs w') ∧ Sk X w w' ∧ C7E P X n fn a' w' := by
 intro c
 induction c with
 | seq x y _ ih =>
  intro e a w hr hok hd h
  simp only [K3, Bool.or_eq_false_iff] at hr
  simp only [vcD] at h
  cases hs : B32 x with
  | none =>
   rw [hs] at h; simp only [] at h
   obtain ⟨ex, a1, w1, ms, hq, hsk, hda, hmk, harr⟩ := B2J hm x X b false _ _ _ _ w trivial (fun _ => hb) hok h [.code y] cs
   cases ex with
   | nrm =>
    obtain ⟨⟨e1, hok1, hv⟩, hkp⟩ := hq
    have hd1 : a1.defers = [] := by rw [hkp.2 hr.1, hd]
    obtain ⟨a', w', k0, hst, hsk2, hend⟩ := ih e1 a1 w1 hr.2 hok1 hd1 hv
    exact ⟨a', w', k0, .head stepR_seq (Steps.trans harr hst), hsk.trans hsk2, hend⟩
   | ret =>
    obtain ⟨⟨e1, hok1, hv⟩, hkp⟩ := hq
    have hd1 : a1.defers = [] := by rw [hkp.2 hr.1, hd]
    obtain ⟨k0, hs0⟩ := harr
    exact ⟨a1, w1, _, .head stepR_seq (Steps.trans hs0 (.one (stepR_ret hb))), hsk, e1, hok1, .inl ⟨hd1, hv⟩⟩
   | exit i => obtain ⟨⟨_, _, hv⟩, _⟩ := hq; exact hv.elim
   | goto l => exact hq.1.elim
  | some t =>
   obtain ⟨ops, l, g⟩ := t
   rw [hs] at h; simp only [] at h
   cases x with
   | region id ops' draw =>
    cases draw with
    | true => cases hs
    | false =>
     simp only [B32] at hs
     cases hsp : A2m ops'.toList with
     | none => rw [hsp] at hs; cases hs
     | some q =>
      obtain ⟨l', g'⟩ := q
      rw [hsp] at hs; cases hs
      obtain ⟨o, hL, hdc⟩ := B4A hsp
      have hsz : ops.size = l.length + 1 := by rw [← Array.length_toList, hL]; simp
      have hg0 : ∀ j : Nat, ops[j]? = (l ++ [o])[j]? := fun j => by rw [← hL]; simp
      have hreg := C1n (P := P) (X := X) (ro := b.roundOf) (ops := ops) l 0 (fun j o' hj => by
       rw [Nat.zero_add, hg0, List.getElem?_append_left (List.getElem?_eq_some_iff.1 hj).1]; exact hj) e a w hok h
      have hrange : List.range ops.size = List.range' 0 l.length ++ [l.length] := by
       rw [hsz, List.range_succ, List.range_eq_range']
      obtain ⟨a1, w1, ⟨e1, hok1, hv⟩, hsk, hda, hst⟩ := B6L (b := b) [l.length] (List.range' 0 l.length) a w hreg [.code y] cs
      obtain ⟨gv, hgv, hv⟩ := H7 hv
      rw [← hrange] at hst
      have hst0 : Steps P (lone (b.atR a [.code (.seq (.region id ops false) y)]) cs w) (lone (b.atR a1 [.inRegion ops [l.length], .code y]) cs w1) := .head stepR_seq (.head stepR_region hst)
      -- the value is a function's
      have hlast : ops[l.length]? = some o := by rw [hg0]; simp
      have hd1 : a1.defers = [] := by rw [hda, hd]
      -- on
      obtain ⟨⟨f, first, cap, rfl⟩, hv⟩ := hv
      have hds := B6S (P := P) (b := b) (w := w1) hb hlast hdc hok1 hgv [.code y] cs
      have hok2 : D7.Ok n e1 { a1 with defers := { target := .fn (.func f) cap, args := first ++ #[] } :: a1.defers } := hok1
      obtain ⟨ex, a2, w2, ms, hq, hsk2, hda2, hmk, harr⟩ := B2J hm y X b false _ _ _ _ w1 trivial (fun _ => hb) hok2 hv [] cs
      have fd : Q0 y { a1 with defers := { target := .fn (.func f) cap, args := first ++ #[] } :: a1.defers } a2 → a2.defers = [{ target := .fn (.func f) cap, args := first ++ #[] }] := fun hkp => (hkp.2 hr.2).trans (congrArg (List.cons _) hd1)
      cases ex with
      | nrm =>
       obtain ⟨⟨e2, hok2, hv2⟩, hkp⟩ := hq
       exact ⟨a2, w2, [], (hst0.trans hds).trans (Steps.trans harr (.one (stepR_end hb))), hsk.trans hsk2, e2, hok2, .inr ⟨f, first, cap, fd hkp, hv2⟩⟩
      | ret =>
       obtain ⟨⟨e2, hok2, hv2⟩, hkp⟩ := hq
       obtain ⟨k0, hs0⟩ := harr
       exact ⟨a2, w2, _, (hst0.trans hds).trans (Steps.trans hs0 (.one (stepR_ret hb))), hsk.trans hsk2, e2, hok2, .inr ⟨f, first, cap, fd hkp, hv2⟩⟩
      | exit i => obtain ⟨⟨_, _, hv⟩, _⟩ := hq; exact hv.elim
      | goto l => exact hq.1.elim
   | _ => cases hs
 | _ => intro e a w _ _ _ h; exact h.elim
theorem A68 {P : Program} {X : Nat → Prop} {f : FuncId} {fn : Func} {args : List Value} {R : Value → WP} {w : World} (hm : P.follows .mixedOrders = true) (hf : P.funcs[f]? = some fn)
  (h : A67 P X fn args R w) : Fn P X f args.toArray w R := by
 unfold A67 at h
 cases hbody : fn.body with
 | none => rw [hbody] at h; exact h.elim
 | some c =>
  rw [hbody] at h; simp only [] at h
  cases hle : Nat.ble args.length fn.ntmps with
  | false => rw [hle] at h; exact h.elim
  | true =>
   rw [hle] at h; simp only [] at h
   have hle' : args.length ≤ fn.ntmps := by simpa using hle
   cases hr : K3 c with
   | true => rw [hr] at h; exact h.elim
   | false =>
    rw [hr] at h; simp only [] at h
    intro cs
    let b : Frame := { (default : Frame) with fn := f, kind := .normal }
    have henter : Frame.enter P f args.toArray .normal = b.atR { tmps := args.toArray ++ Array.replicate (fn.ntmps - args.toArray.size) undef, defers := [] } [.code c] := by
     simp [Frame.enter, Frame.atR, hf, hbody, b]
     rfl
    have hok : D7.Ok fn.ntmps (z8 0 args) { tmps := args.toArray ++ Array.replicate (fn.ntmps - args.toArray.size) undef, defers := [] } := by
     refine ⟨by simp; omega, fun t v ht hg => ?_⟩
     obtain ⟨_, h2⟩ := A8L args 0 t v hg
     simp only [Nat.sub_zero] at h2
     have hlt : t < args.length := (List.getElem?_eq_some_iff.1 h2).1
     simp only []
     rw [Array.getElem?_append_left (by simpa using hlt)]
     simpa using h2
    obtain ⟨a', w', k0, hst, hsk, e', hok', hend⟩ := C2E (b := b) hm rfl cs c _ _ w hr hok rfl h
    rw [← henter] at hst
    rcases hend with ⟨hd, hfin⟩ | ⟨g, first, cap, hd, hdf⟩
    ·obtain ⟨v, hv, hR⟩ := A4q hok' hfin
     exact ⟨.returned v, w', { b.atR a' k0 with mode := .returning }, ⟨v, rfl, hR, hsk⟩, hst, rfl, rfl, hd, rfl, fn, hf, hv⟩
    ·obtain ⟨hent, hcd⟩ := hdf
     have hl : Leaves P fn a'.tmps (fun e w'' => ∃ v, e = .returned v ∧ R v w'' ∧ Sk X w w'') a'.defers .returning w' := by
      rw [hd]
      refine leaves_cons (by simp) (hent _ w') ?_
      have hcd' := hcd
      rw [show (first.toList ++ cap.toList).toArray = (first ++ #[]) ++ cap from by simp] at hcd'
      refine CallsD.mono hcd' ?_
      rintro e u' w'' ⟨v, rfl, rfl, hf2, hsk2⟩
      obtain ⟨v', hv', hR'⟩ := A4q hok' hf2
      exact ⟨v', hv', v', rfl, hR', hsk.trans hsk2⟩
     obtain ⟨e2, w2, fr, hR, hs2, hfn2, hl2⟩ := leaves_steps a'.defers .returning w' { b.atR a' k0 with mode := .returning } cs rfl rfl rfl hf rfl hl
     exact ⟨e2, w2, fr, hR, Comes.of_steps hst hs2, hfn2, hl2⟩
theorem B7J {P : Program} {X : Nat → Prop} {f : FuncId} {fn : Func} {args : List Value} {R : Value → WP} {w : World} (hm : P.follows .mixedOrders = true) (hf : P.funcs[f]? = some fn)
  (h : A7U P X fn args R w) : FnD P X f args.toArray w R := by
 unfold A7U at h
 cases hbody : fn.body with
 | none => rw [hbody] at h; exact h.elim
 | some c =>
  rw [hbody] at h; simp only [] at h
  cases hle : Nat.ble args.length fn.ntmps with
  | false => rw [hle] at h; exact h.elim
  | true =>
   rw [hle] at h; simp only [] at h
   have hle' : args.length ≤ fn.ntmps := by simpa using hle
   intro c0 cs0 hc0
   have hc : ({ c0 with mode := .returning } : Frame) = c0 := by rw [← hc0]
   let cs := c0 :: cs0
   let b : Frame := { (default : Frame) with fn := f, kind := .deferred }
   have henter : Frame.enter P f args.toArray .deferred = b.atR { tmps := args.toArray ++ Array.replicate (fn.ntmps - args.toArray.size) undef, defers := [] } [.code c] := by
    simp [Frame.enter, Frame.atR, hf, hbody, b]
    rfl
   have hok : D7.Ok fn.ntmps (z8 0 args) { tmps := args.toArray ++ Array.replicate (fn.ntmps - args.toArray.size) undef, defers := [] } := by
    refine ⟨by simp; omega, fun t v ht hg => ?_⟩
    obtain ⟨_, h2⟩ := A8L args 0 t v hg
    simp only [Nat.sub_zero] at h2
    have hlt : t < args.length := (List.getElem?_eq_some_iff.1 h2).1
    simp only []
    rw [Array.getElem?_append_left (by simpa using hlt)]
    simpa using h2
   have ending : ∀ (a' : Act) (w' : World) (ms : List Deferred) (k0 : List Item), a'.defers = ms ++ [] → Q1 w.heap.size w' ms → Sk X w w' →
     (∃ e', D7.Ok fn.ntmps e' a' ∧ ((ms = [] ∧ Z1 P fn.ntmps fn.results.toList R e' w') ∨ ∀ w'', U5 w' w'' → Z1 P fn.ntmps fn.results.toList R e' w'')) →
     ∀ (m : Machine), Steps P m (lone { b.atR a' k0 with mode := .returning } cs w') →
     ∃ e w'' fr, (∃ v, e = .returned v ∧ R v w'' ∧ Sk X w w'') ∧ Comes P m (lone fr cs w'') e ∧ fr.kind = .deferred ∧ fr.going P w'' e := by
    intro a' w' ms k0 hd hmk hsk ⟨e', hok', hfin⟩ m hs
    rcases hfin with ⟨hms, hfin⟩ | hfin
    ·subst hms
     obtain ⟨v, hv, hR⟩ := A4q hok' hfin
     exact ⟨.returned v, w', { b.atR a' k0 with mode := .returning }, ⟨v, rfl, hR, hsk⟩, hs, rfl, rfl, hd, fn, hf, hv⟩
    obtain ⟨w'', hdq, hst, hlow, hcalm⟩ := A6l (P := P) ms { b.atR a' k0 with mode := .returning } cs w' rfl (by simpa [Frame.atR] using hd) hmk
    obtain ⟨v, hv, hR⟩ := A4q hok' (hfin w'' hdq)
    refine ⟨.returned v, w'', { { b.atR a' k0 with mode := .returning } with defers := [] }, ⟨v, rfl, hR, ?_⟩, hs.trans hst, rfl, rfl, rfl, fn, hf, hv⟩
    refine ⟨by rw [hdq.1]; exact hsk.1, fun r d hr => ?_, fun r lo hx hr => ?_, hsk.2.2.2.trans hcalm⟩
    ·rw [hlow r (Array.getElem?_eq_some_iff.1 hr).1]; exact hsk.2.1 r d hr
    ·rw [hlow r (Array.getElem?_eq_some_iff.1 hr).1]; exact hsk.2.2.1 r lo hx hr
   have go : ∀ (k : D7 → WP) (ex : Nat → D7 → WP), (∀ i e, ex i e = E6) → vc P X fn.ntmps false c (z8 0 args) k { exit := ex, ret := k } w →
     (∀ e a' w' ms, Q0 c { tmps := args.toArray ++ Array.replicate (fn.ntmps - args.toArray.size) undef, defers := [] } a' → a'.defers = ms ++ [] → D7.Ok fn.ntmps e a' → k e w' →
      (ms = [] ∧ Z1 P fn.ntmps fn.results.toList R e w') ∨ ∀ w'', U5 w' w'' → Z1 P fn.ntmps fn.results.toList R e w'') →
     ∃ e w'' fr, (∃ v, e = .returned v ∧ R v w'' ∧ Sk X w w'') ∧ Comes P (lone (Frame.enter P f args.toArray .deferred) cs w) (lone fr cs w'') e ∧ fr.kind = .deferred ∧ fr.going P w'' e := by
    intro k ex hex hvc hk
    obtain ⟨e, a', w', ms, hq, hsk, hd, hmk, harr⟩ := B2J hm c X b false _ _ _ _ w trivial (fun _ => rfl) hok hvc [] cs
    rw [← henter] at harr
    cases e with
    | nrm =>
     obtain ⟨⟨e', hok', hke⟩, hkp⟩ := hq
     exact ending a' w' ms [] hd hmk hsk ⟨e', hok', hk e' a' w' ms hkp hd hok' hke⟩ _ (Steps.trans harr (.one (stepR_end rfl)))
    | ret =>
     obtain ⟨⟨e', hok', hke⟩, hkp⟩ := hq
     obtain ⟨k0, hs0⟩ := harr
     exact ending a' w' ms _ hd hmk hsk ⟨e', hok', hk e' a' w' ms hkp hd hok' hke⟩ _ (Steps.trans hs0 (.one (stepR_ret rfl)))
    | exit i => obtain ⟨⟨e', _, hke⟩, _⟩ := hq; simp only [hex] at hke; exact hke.elim
    | goto l => exact hq.1.elim
   have done : (∃ e w'' fr, (∃ v, e = .returned v ∧ R v w'' ∧ Sk X w w'') ∧ Comes P (lone (Frame.enter P f args.toArray .deferred) cs w) (lone fr cs w'') e ∧ fr.kind = .deferred ∧ fr.going P w'' e) →
     ∃ e u' w' fr, (∃ v, e = .returned v ∧ u' = FrameMode.returning ∧ R v w' ∧ Sk X w w') ∧
      Comes P (lone (Frame.enter P f args.toArray .deferred) (c0 :: cs0) w) (lone fr ({ c0 with mode := u' } :: cs0) w') e ∧ fr.kind = .deferred ∧ fr.going P w' e := by
    rintro ⟨e, w'', fr, ⟨v, rfl, hR, hsk⟩, hcm, hk, hg⟩
    exact ⟨.returned v, .returning, w'', fr, ⟨v, rfl, rfl, hR, hsk⟩, (by rw [hc]; exact hcm), hk, hg⟩
   cases hr : K3 c with
   | true =>
    rw [hr] at h
    exact done (go _ _ (fun _ _ => rfl) h fun e a' w' ms _ _ _ hke => .inr hke)
   | false =>
    rw [hr] at h
    refine done (go _ _ (fun _ _ => rfl) h fun e a' w' ms hkp hd _ hke => .inl ⟨?_, hke⟩)
    have := hkp.2 hr
    rw [hd] at this
    simpa using this
end Go.Proofs.YtpbmephflllolaaGreat
namespace Go.Proofs.YtpbmephflllolaaGreat
open Go
def A3G (X : Nat → Prop) (t0 : Value) (R : Value → WP) : WP :=
 B2 PR X (Instr.box 23 t0) fun t1 =>
 jn (n := 2) (fun t2 t3 =>
 A6 PR (Instr.loadAt 23 t1) fun t11 =>
 A0 PR (Instr.build 88 #[(0, t11)]) fun t12 =>
 B2 PR X (Instr.box 88 t12) fun t13 =>
 A0 PR (E2 t13) fun t15 =>
 A0 PR (Instr.fieldAt 88 t15 1) fun t16 =>
 A0 PR (Instr.build 92 #[]) fun t17 =>
 B2 PR X (Instr.box 92 t17) fun t18 =>
 B1 PR X 36 [t16, t18] fun t19 =>
 jn (n := 1) (fun t22 =>
 R (.tuple #[t13, (.int .i64 0)])) fun J1 =>
 A0 PR (Instr.fieldAt 23 t1 1) fun t20 =>
 A6 PR (Instr.loadAt 3 t20) fun t21 =>
 lp (n := 1) (fun L2 t22_1 =>
 A0 PR (binOp .lss 3 t22_1 t21) fun t23 =>
 jn (n := 0) (
 jn (n := 0) (
 A0 PR (binOp .add 3 t22_1 (.int .i64 1)) fun t38 =>
 L2 t38) fun J3 =>
 drw <|
 A0 PR (E2 t13) fun t26 =>
 A0 PR (Instr.fieldAt 88 t26 2) fun t27 =>
 A6 PR (Instr.loadAt 86 t27) fun t28 =>
 A0 PR (Instr.fieldAt 23 t1 2) fun t29 =>
 A6 PR (Instr.loadAt 3 t29) fun t30 =>
 B1 PR X 37 [t30] fun t31 =>
 watch PR [(none, (Instr.loadAt 86 t27), t28)] <|
 A0 PR (Instr.build 103 #[(1, t31)]) fun t32 =>
 B2 PR X (Instr.box 103 t32) fun t33 =>
 watch PR [(none, (Instr.loadAt 86 t27), t28)] <|
 B2 PR X (Instr.buildSlice 86 1 #[(0, t33)]) fun t34 =>
 watch PR [(none, (Instr.loadAt 86 t27), t28)] <|
 B2 PR X (A8 .append #[86, 86] 86 [t28, t34]) fun t35 =>
 A0 PR (E2 t13) fun t36 =>
 A0 PR (Instr.fieldAt 88 t36 2) fun t37 =>
 B9 PR X (Instr.storeAt 86 t37 t35) <|
 J3) fun J4 =>
 C3 t23 (
 J4) (
 J1 t22_1)) (.int .i64 0)) fun J5 =>
 A6 PR (Instr.loadAt 23 t1) fun t6 =>
 B1 PR X 35 [t6] fun t7 =>
 A0 PR (binOp .neq 28 t7 (.int .i64 0)) fun t9 =>
 C3 t9 (
 R (.tuple #[(.pointer none), t7])) (
 J5 (.pointer none) (.int .i64 0))
theorem A8U : A9 PR 10 := A7 Tryz.func10 (by kernel_rfl) rfl
theorem A9r {X : Nat → Prop} {t0 : Value} {R : Value → WP} {w : World} (h : A3G X t0 R w) : Fn PR X 10 #[t0] w R := C9 (args := [t0]) mixed Tryz.func10 (by kernel_rfl) h
def q6 (X : Nat → Prop) (t0 t1 t2 : Value) (R : Value → WP) : WP :=
 B2 PR X (Instr.box 42 t1) fun t4 =>
 B2 PR X (Instr.alloc 39 true (.tuple #[])) fun t6 =>
 jn (n := 0) (
 A0 PR (Instr.build 39 #[(0, (.int .i64 1))]) fun t33 =>
 B9 PR X (Instr.storeAt 39 t6 t33) <|
 A6 PR (D9 [.c 39 t6]) R) fun J1 =>
 A0 PR (Instr.fieldAt 42 t4 0) fun t7 =>
 A6 PR (Instr.loadAt 3 t7) fun t8 =>
 A0 PR (binOp .eql 3 t8 (.int .i64 0)) fun t10 =>
 C3 t10 (
 A0 PR (Instr.fieldAt 42 t4 1) fun t12 =>
 A6 PR (Instr.loadAt 9 t12) fun t13 =>
 B1 PR X 24 [t0, t13, t2] fun t15 =>
 B9 PR X (Instr.storeAt 39 t6 t15) <|
 A6 PR (D9 [.c 39 t6]) R) (
 A0 PR (binOp .eql 3 t8 (.int .i64 1)) fun t17 =>
 C3 t17 (
 A0 PR (Instr.fieldAt 42 t4 2) fun t19 =>
 A6 PR (Instr.loadAt 32 t19) fun t20 =>
 B1 PR X 26 [t0, t20] fun t21 =>
 B9 PR X (Instr.storeAt 39 t6 t21) <|
 A6 PR (D9 [.c 39 t6]) R) (
 A0 PR (binOp .eql 3 t8 (.int .i64 2)) fun t23 =>
 C3 t23 (
 A0 PR (Instr.fieldAt 42 t4 3) fun t25 =>
 A6 PR (Instr.loadAt 3 t25) fun t26 =>
 B1 PR X 27 [t0, t26, t2] fun t28 =>
 B9 PR X (Instr.storeAt 39 t6 t28) <|
 A6 PR (D9 [.c 39 t6]) R) (
 A0 PR (binOp .eql 3 t8 (.int .i64 3)) fun t30 =>
 C3 t30 (
 B1 PR X 20 [t0] fun t32 =>
 B9 PR X (Instr.storeAt 39 t6 t32) <|
 A6 PR (D9 [.c 39 t6]) R) (
 J1))))
theorem A2v : A9 PR 13 := A7 Tryz.func13 (by kernel_rfl) rfl
theorem A25 {X : Nat → Prop} {t0 t1 t2 : Value} {R : Value → WP} {w : World} (h : q6 X t0 t1 t2 R w) : Fn PR X 13 #[t0, t1, t2] w R := C9 (args := [t0, t1, t2]) mixed Tryz.func13 (by kernel_rfl) h
def T9 (X : Nat → Prop) (t0 : Value) (R : Value → WP) : WP :=
 A0 PR (E2 t0) fun t7 =>
 A0 PR (Instr.fieldAt 88 t7 2) fun t8 =>
 A6 PR (Instr.loadAt 86 t8) fun t9 =>
 B1 PR X 46 [t9] fun t10 =>
 isf t10 (
 jn (n := 2) (fun t3 t16 =>
 dfr PR X t10 (R t3)) fun J1 =>
 A0 PR (E2 t0) fun t12 =>
 A0 PR (Instr.fieldAt 88 t12 2) fun t13 =>
 A6 PR (Instr.loadAt 86 t13) fun t14 =>
 A0 PR (A8 .len #[86] 0 [t14]) fun t15 =>
 lp (n := 2) (fun L2 t3_1 t16_1 =>
 A0 PR (binOp .lss 3 t16_1 t15) fun t17 =>
 jn (n := 0) (
 jn (n := 1) (fun t3_2 =>
 A0 PR (binOp .add 3 t16_1 (.int .i64 1)) fun t27 =>
 L2 t3_2 t27) fun J3 =>
 A0 PR (Instr.indexAt 86 t14 t16_1) fun t18 =>
 A6 PR (Instr.loadAt 93 t18) fun t19 =>
 A0 PR (E2 t19) fun t22 =>
 A0 PR (Instr.fieldAt 103 t22 1) fun t23 =>
 A6 PR (Instr.loadAt 94 t23) fun t24 =>
 B1 PR X 47 [t24] fun t25 =>
 B2 PR X (A8 .append #[48, 48] 48 [t3_1, t25]) fun t26 =>
 J3 t26) fun J4 =>
 C3 t17 (
 J4) (
 J1 t3_1 t16_1)) (.slice none 0 0) (.int .i64 0))
theorem A0m (X : Nat → Prop) (t0 : Value) (R : Value → WP) : A67 PR X Tryz.f16 [t0] R = T9 X t0 R := by kernel_rfl
theorem j3 : A9 PR 16 := A7 Tryz.func16 (by kernel_rfl) rfl
theorem A19 {X : Nat → Prop} {t0 : Value} {R : Value → WP} {w : World} (h : T9 X t0 R w) : Fn PR X 16 #[t0] w R := A68 (args := [t0]) mixed Tryz.func16 (by rw [A0m]; exact h)
def k8 (X : Nat → Prop) (t0 : Value) (R : Value → WP) : WP :=
 A0 PR (E2 t0) fun t4 =>
 A0 PR (Instr.fieldAt 88 t4 1) fun t5 =>
 B1 PR X 50 [t5] fun t6 =>
 A0 PR (E2 t6) fun t7 =>
 A0 PR (Instr.fieldAt 92 t7 0) fun t8 =>
 A6 PR (Instr.loadAt 32 t8) fun t9 =>
 B1 PR X 49 [t9] fun t10 =>
 R t10
theorem A1Z : A9 PR 19 := A7 Tryz.func19 (by kernel_rfl) rfl
theorem A2A {X : Nat → Prop} {t0 : Value} {R : Value → WP} {w : World} (h : k8 X t0 R w) : Fn PR X 19 #[t0] w R := C9 (args := [t0]) mixed Tryz.func19 (by kernel_rfl) h
def j0 (X : Nat → Prop) (t0 : Value) (R : Value → WP) : WP :=
 B2 PR X (Instr.alloc 39 true (.tuple #[])) fun t2 =>
 B1 PR X 16 [t0] fun t4 =>
 A0 PR (A8 .len #[48] 0 [t4]) fun t5 =>
 A0 PR (Instr.build 39 #[(3, t5)]) fun t6 =>
 B9 PR X (Instr.storeAt 39 t2 t6) <|
 A6 PR (D9 [.c 39 t2]) R
theorem f7 : A9 PR 20 := A7 Tryz.func20 (by kernel_rfl) rfl
theorem A1d {X : Nat → Prop} {t0 : Value} {R : Value → WP} {w : World} (h : j0 X t0 R w) : Fn PR X 20 #[t0] w R := C9 (args := [t0]) mixed Tryz.func20 (by kernel_rfl) h
def P8 (X : Nat → Prop) (t0 t1 t2 : Value) (R : Value → WP) : WP :=
 B2 PR X (Instr.alloc 39 true (.tuple #[])) fun t6 =>
 B1 PR X 56 [t1] fun t14 =>
 A0 PR (Instr.extract t14 0) fun t15 =>
 A0 PR (Instr.extract t14 1) fun t16 =>
 B2 PR X (Instr.alloc 58 true (.tuple #[])) fun t7 =>
 B9 PR X (Instr.storeAt 58 t7 t15) <|
 A0 PR (binOp .neq 28 t16 (.int .i64 0)) fun t18 =>
 C3 t18 (
 A0 PR (Instr.build 39 #[(0, (.int .i64 9))]) fun t19 =>
 B9 PR X (Instr.storeAt 39 t6 t19) <|
 A6 PR (D9 [.c 39 t6]) R) (
 A0 PR (Instr.fieldAt 58 t7 0) fun t21 =>
 A6 PR (Instr.loadAt 56 t21) fun t22 =>
 B1 PR X 23 [t22] fun t23 =>
 A0 PR (Instr.extract t23 0) fun t24 =>
 A0 PR (Instr.extract t23 1) fun t25 =>
 drw <|
 A0 PR (E2 t0) fun t27 =>
 A0 PR (Instr.fieldAt 88 t27 2) fun t28 =>
 A6 PR (Instr.loadAt 86 t28) fun t29 =>
 A0 PR (E2 t0) fun t32 =>
 A0 PR (Instr.fieldAt 88 t32 2) fun t33 =>
 A6 PR (Instr.loadAt 86 t33) fun t34 =>
 A0 PR (A8 .len #[86] 0 [t34]) fun t35 =>
 B1 PR X 57 [t24, t35] fun t36 =>
 watch PR [(none, (Instr.loadAt 86 t28), t29)] <|
 A0 PR (Instr.indexAt 86 t29 t36) fun t37 =>
 A6 PR (Instr.loadAt 93 t37) fun t38 =>
 B2 PR X (Instr.buildSlice 86 1 #[(0, t38)]) fun t40 =>
 B1 PR X 46 [t40] fun t41 =>
 isf t41 (
 drw <|
 A0 PR (E2 t0) fun t44 =>
 A0 PR (Instr.fieldAt 88 t44 1) fun t45 =>
 A6 PR (Instr.loadAt 58 t7) fun t48 =>
 A0 PR (E2 t0) fun t52 =>
 A0 PR (Instr.fieldAt 88 t52 0) fun t53 =>
 A0 PR (Instr.fieldAt 23 t53 3) fun t54 =>
 A6 PR (Instr.loadAt 3 t54) fun t55 =>
 B1 PR X 50 [t45] fun t46 =>
 watch PR [(none, (Instr.loadAt 3 t54), t55), (none, (Instr.loadAt 58 t7), t48)] <|
 B1 PR X 22 [t48] fun t49 =>
 watch PR [(none, (Instr.loadAt 3 t54), t55)] <|
 B1 PR X 58 [t38, t46, t24, t49, t2, t55] fun t56 =>
 B9 PR X (Instr.storeAt 39 t6 t56) <|
 dfr PR X t41 (A6 PR (D9 [.c 39 t6]) R)))
theorem v6 (X : Nat → Prop) (t0 t1 t2 : Value) (R : Value → WP) : A67 PR X Tryz.f24 [t0, t1, t2] R = P8 X t0 t1 t2 R := by kernel_rfl
theorem Y0 : A9 PR 24 := A7 Tryz.func24 (by kernel_rfl) rfl
theorem A0S {X : Nat → Prop} {t0 t1 t2 : Value} {R : Value → WP} {w : World} (h : P8 X t0 t1 t2 R w) : Fn PR X 24 #[t0, t1, t2] w R := A68 (args := [t0, t1, t2]) mixed Tryz.func24 (by rw [v6]; exact h)
def e9 (X : Nat → Prop) (t0 t1 : Value) (R : Value → WP) : WP :=
 B2 PR X (Instr.alloc 39 true (.tuple #[])) fun t4 =>
 jn (n := 0) (
 drw <|
 A0 PR (E2 t0) fun t13 =>
 A0 PR (Instr.fieldAt 88 t13 1) fun t14 =>
 B1 PR X 49 [t1] fun t16 =>
 B1 PR X 59 [t1] fun t18 =>
 A0 PR (Instr.build 92 #[(0, t16), (1, t18)]) fun t19 =>
 B2 PR X (Instr.box 92 t19) fun t20 =>
 B1 PR X 36 [t14, t20] fun t21 =>
 A0 PR (Instr.build 39 #[]) fun t22 =>
 B9 PR X (Instr.storeAt 39 t4 t22) <|
 A6 PR (D9 [.c 39 t4]) R) fun J1 =>
 B1 PR X 32 [t1] fun t7 =>
 A0 PR (binOp .neq 28 t7 (.int .i64 0)) fun t9 =>
 C3 t9 (
 A0 PR (Instr.build 39 #[(0, t7)]) fun t11 =>
 B9 PR X (Instr.storeAt 39 t4 t11) <|
 A6 PR (D9 [.c 39 t4]) R) (
 J1)
theorem d7 : A9 PR 26 := A7 Tryz.func26 (by kernel_rfl) rfl
theorem A1D {X : Nat → Prop} {t0 t1 : Value} {R : Value → WP} {w : World} (h : e9 X t0 t1 R w) : Fn PR X 26 #[t0, t1] w R := C9 (args := [t0, t1]) mixed Tryz.func26 (by kernel_rfl) h
def Q9 (X : Nat → Prop) (t0 t1 t2 : Value) (R : Value → WP) : WP :=
 B2 PR X (Instr.alloc 39 true (.tuple #[])) fun t6 =>
 A0 PR (binOp .lss 3 t1 (.int .i64 0)) fun t10 =>
 gj t10 false (fun J => J t1) fun t12 =>
 gj t10 false (fun J => J t0) fun t13 =>
 gj t10 false (fun J => A0 PR (E2 t13) J) fun t14 =>
 gj t10 false (fun J => A0 PR (Instr.fieldAt 88 t14 2) J) fun t15 =>
 gj t10 false (fun J => A6 PR (Instr.loadAt 86 t15) J) fun t16 =>
 gj t10 false (fun J => A0 PR (A8 .len #[86] 0 [t16]) J) fun t17 =>
 gj t10 false (fun J => A0 PR (binOp .geq 3 t12 t17) J) fun t18 =>
 A0 PR (do pure (if ← asBool t10 then (.bool true) else t18)) fun t19 =>
 C3 t19 (
 A0 PR (Instr.build 39 #[(0, (.int .i64 1))]) fun t20 =>
 B9 PR X (Instr.storeAt 39 t6 t20) <|
 A6 PR (D9 [.c 39 t6]) R) (
 A0 PR (E2 t0) fun t22 =>
 A0 PR (Instr.fieldAt 88 t22 2) fun t23 =>
 A6 PR (Instr.loadAt 86 t23) fun t24 =>
 A0 PR (Instr.indexAt 86 t24 t1) fun t26 =>
 A6 PR (Instr.loadAt 93 t26) fun t27 =>
 B2 PR X (Instr.buildSlice 86 1 #[(0, t27)]) fun t29 =>
 B1 PR X 46 [t29] fun t30 =>
 isf t30 (
 B2 PR X (Instr.alloc 39 true (.tuple #[])) fun t8 =>
 drw <|
 A0 PR (E2 t27) fun t35 =>
 A0 PR (Instr.fieldAt 103 t35 1) fun t36 =>
 A6 PR (Instr.loadAt 94 t36) fun t37 =>
 A0 PR (E2 t27) fun t39 =>
 A0 PR (Instr.fieldAt 103 t39 2) fun t40 =>
 A6 PR (Instr.loadAt 3 t40) fun t41 =>
 B1 PR X 60 [t37, t41, (.int .i64 4), t2] fun t43 =>
 A0 PR (Instr.extract t43 0) fun t44 =>
 A0 PR (Instr.extract t43 1) fun t45 =>
 A0 PR (Instr.extract t43 2) fun t46 =>
 A0 PR (E2 t27) fun t47 =>
 A0 PR (Instr.fieldAt 103 t47 1) fun t48 =>
 B9 PR X (Instr.storeAt 94 t48 t44) <|
 A0 PR (E2 t27) fun t49 =>
 A0 PR (Instr.fieldAt 103 t49 2) fun t50 =>
 B9 PR X (Instr.storeAt 3 t50 t45) <|
 A0 PR (Instr.fieldAt 39 t8 3) fun t51 =>
 B9 PR X (Instr.storeAt 3 t51 t46) <|
 A6 PR (Instr.loadAt 39 t8) fun t52 =>
 B9 PR X (Instr.storeAt 39 t6 t52) <|
 dfr PR X t30 (A6 PR (D9 [.c 39 t6]) R)))
theorem A0E (X : Nat → Prop) (t0 t1 t2 : Value) (R : Value → WP) : A67 PR X Tryz.f27 [t0, t1, t2] R = Q9 X t0 t1 t2 R := by kernel_rfl
theorem d8 : A9 PR 27 := A7 Tryz.func27 (by kernel_rfl) rfl
theorem A1M {X : Nat → Prop} {t0 t1 t2 : Value} {R : Value → WP} {w : World} (h : Q9 X t0 t1 t2 R w) : Fn PR X 27 #[t0, t1, t2] w R := A68 (args := [t0, t1, t2]) mixed Tryz.func27 (by rw [A0E]; exact h)
def A08 (X : Nat → Prop) (t0 : Value) (R : Value → WP) : WP :=
 B2 PR X (Instr.box 86 t0) fun t1 =>
 jn (n := 1) (fun t7 =>
 A0 PR (Instr.makeFunc (.func 87) #[] #[t1]) fun t16 =>
 R t16) fun J1 =>
 A6 PR (Instr.loadAt 86 t1) fun t5 =>
 A0 PR (A8 .len #[86] 0 [t5]) fun t6 =>
 lp (n := 1) (fun L2 t7_1 =>
 A0 PR (binOp .lss 3 t7_1 t6) fun t8 =>
 jn (n := 0) (
 jn (n := 0) (
 A0 PR (binOp .add 3 t7_1 (.int .i64 1)) fun t15 =>
 L2 t15) fun J3 =>
 A0 PR (Instr.indexAt 86 t5 t7_1) fun t9 =>
 A6 PR (Instr.loadAt 93 t9) fun t10 =>
 A0 PR (E2 t10) fun t12 =>
 A0 PR (Instr.fieldAt 103 t12 0) fun t13 =>
 B1 PR X 86 [t13] fun t14 =>
 J3) fun J4 =>
 C3 t8 (
 J4) (
 J1 t7_1)) (.int .i64 0)
theorem j9 : A9 PR 46 := A7 Tryz.func46 (by kernel_rfl) rfl
theorem A6M {X : Nat → Prop} {t0 : Value} {R : Value → WP} {w : World} (h : A08 X t0 R w) : Fn PR X 46 #[t0] w R := C9 (args := [t0]) mixed Tryz.func46 (by kernel_rfl) h
def l5 (X : Nat → Prop) (t0 t1 t2 t3 t4 t5 : Value) (R : Value → WP) : WP :=
 B2 PR X (Instr.alloc 39 true (.tuple #[])) fun t12 =>
 B1 PR X 103 [t0, t1, t2, t4] fun t24 =>
 A0 PR (Instr.extract t24 0) fun t25 =>
 A0 PR (Instr.extract t24 1) fun t26 =>
 jn (n := 1) (fun t13 =>
 jn (n := 0) (
 A0 PR (E2 t0) fun t56 =>
 A0 PR (Instr.fieldAt 103 t56 1) fun t57 =>
 A6 PR (Instr.loadAt 94 t57) fun t58 =>
 A0 PR (binOp .add 3 t4 t5) fun t63 =>
 B1 PR X 106 [t58, t2, t13, t63] fun t64 =>
 A0 PR (Instr.extract t64 0) fun t65 =>
 A0 PR (Instr.extract t64 1) fun t66 =>
 A0 PR (E2 t0) fun t69 =>
 A0 PR (Instr.fieldAt 103 t69 1) fun t70 =>
 B9 PR X (Instr.storeAt 94 t70 t65) <|
 jn (n := 0) (
 A0 PR (Op.unary .not t26) fun t77 =>
 A0 PR (Instr.build 39 #[(1, t13), (2, t77)]) fun t78 =>
 B9 PR X (Instr.storeAt 39 t12 t78) <|
 A6 PR (D9 [.c 39 t12]) R) fun J1 =>
 A0 PR (binOp .neq 28 t66 (.int .i64 0)) fun t72 =>
 C3 t72 (
 A0 PR (Instr.build 39 #[(0, t66)]) fun t74 =>
 B9 PR X (Instr.storeAt 39 t12 t74) <|
 A6 PR (D9 [.c 39 t12]) R) (
 J1)) fun J2 =>
 C3 t3 (
 A0 PR (E2 t0) fun t43 =>
 A0 PR (Instr.fieldAt 103 t43 1) fun t44 =>
 A6 PR (Instr.loadAt 94 t44) fun t45 =>
 B1 PR X 105 [t45, t2] fun t47 =>
 A0 PR (Instr.extract t47 0) fun t48 =>
 A0 PR (Instr.extract t47 1) fun t49 =>
 A0 PR (E2 t0) fun t50 =>
 A0 PR (Instr.fieldAt 103 t50 1) fun t51 =>
 B9 PR X (Instr.storeAt 94 t51 t48) <|
 A0 PR (Instr.build 39 #[(1, t13)]) fun t53 =>
 B9 PR X (Instr.storeAt 39 t12 t53) <|
 A6 PR (D9 [.c 39 t12]) R) (
 J2)) fun J3 =>
 A0 PR (Op.unary .not t26) fun t28 =>
 C3 t28 (
 B1 PR X 104 [t1, t2] fun t32 =>
 A0 PR (Instr.extract t32 0) fun t33 =>
 A0 PR (Instr.extract t32 1) fun t34 =>
 jn (n := 0) (
 J3 t33) fun J4 =>
 A0 PR (Op.unary .not t34) fun t36 =>
 C3 t36 (
 A0 PR (Instr.build 39 #[(0, (.int .i64 11))]) fun t37 =>
 B9 PR X (Instr.storeAt 39 t12 t37) <|
 A6 PR (D9 [.c 39 t12]) R) (
 J4)) (
 J3 t25)
theorem A1z : A9 PR 58 := A7 Tryz.func58 (by kernel_rfl) rfl
theorem A2e {X : Nat → Prop} {t0 t1 t2 t3 t4 t5 : Value} {R : Value → WP} {w : World} (h : l5 X t0 t1 t2 t3 t4 t5 R w) : Fn PR X 58 #[t0, t1, t2, t3, t4, t5] w R := C9 (args := [t0, t1, t2, t3, t4, t5]) mixed Tryz.func58 (by kernel_rfl) h
def x5 (X : Nat → Prop) (t0 : Value) (R : Value → WP) : WP :=
 A6 PR (Instr.loadAt 86 t0) fun t3 =>
 B1 PR X 88 [t3] fun t4 =>
 rng (N := 2) PR X (fun t5 t6 K1 =>
 bgn <|
 A0 PR (E2 t6) fun t8 =>
 A0 PR (Instr.fieldAt 103 t8 0) fun t9 =>
 B1 PR (fun _ => False) 89 [t9] fun t10 =>
 K1 none) t4 (fun j => match j with | none => (V8 (R (.tuple #[]))) | some (.exit i) => (match Nat.beq i 0 with | true => (V8 (R (.tuple #[]))) | false => (E6)) | some .ret => (V8 (R (.tuple #[]))) | some _ => E6)
theorem A2Y (X : Nat → Prop) (t0 : Value) (R : Value → WP) : A7U PR X Tryz.f87 [t0] R = x5 X t0 R := by kernel_rfl
theorem a6 : A9 PR 87 := A7 Tryz.func87 (by kernel_rfl) rfl
def q5 (X : Nat → Prop) (t0 t1 t2 t3 : Value) (R : Value → WP) : WP :=
 A0 PR (E2 t0) fun t12 =>
 A0 PR (Instr.fieldAt 103 t12 1) fun t13 =>
 A6 PR (Instr.loadAt 94 t13) fun t14 =>
 B1 PR X 150 [t14, t2] fun t16 =>
 jn (n := 2) (fun t8 t9 =>
 A0 PR (E2 t0) fun t45 =>
 A0 PR (Instr.fieldAt 103 t45 1) fun t46 =>
 A6 PR (Instr.loadAt 94 t46) fun t47 =>
 A0 PR (Instr.indexAt 94 t47 t16) fun t49 =>
 A0 PR (Instr.fieldAt 160 t49 2) fun t50 =>
 A6 PR (Instr.loadAt 3 t50) fun t51 =>
 R (.tuple #[t51, (.bool true)])) fun J1 =>
 A0 PR (binOp .lss 3 t16 (.int .i64 0)) fun t18 =>
 gj t18 false (fun J => J t0) fun t20 =>
 gj t18 false (fun J => A0 PR (E2 t20) J) fun t21 =>
 gj t18 false (fun J => A0 PR (Instr.fieldAt 103 t21 1) J) fun t22 =>
 gj t18 false (fun J => A6 PR (Instr.loadAt 94 t22) J) fun t23 =>
 gj t18 false (fun J => J t16) fun t24 =>
 gj t18 false (fun J => A0 PR (Instr.indexAt 94 t23 t24) J) fun t25 =>
 gj t18 false (fun J => A0 PR (Instr.fieldAt 160 t25 3) J) fun t26 =>
 gj t18 false (fun J => A6 PR (Instr.loadAt 3 t26) J) fun t27 =>
 gj t18 false (fun J => J t3) fun t28 =>
 gj t18 false (fun J => A0 PR (binOp .lss 3 t27 t28) J) fun t29 =>
 A0 PR (do pure (if ← asBool t18 then (.bool true) else t29)) fun t30 =>
 gj t30 false (fun J => J t1) fun t32 =>
 gj t30 false (fun J => J t0) fun t33 =>
 gj t30 false (fun J => A0 PR (E2 t33) J) fun t34 =>
 gj t30 false (fun J => A0 PR (Instr.fieldAt 103 t34 1) J) fun t35 =>
 gj t30 false (fun J => A6 PR (Instr.loadAt 94 t35) J) fun t36 =>
 gj t30 false (fun J => J t16) fun t37 =>
 gj t30 false (fun J => A0 PR (Instr.indexAt 94 t36 t37) J) fun t38 =>
 gj t30 false (fun J => A0 PR (Instr.fieldAt 160 t38 2) J) fun t39 =>
 gj t30 false (fun J => A6 PR (Instr.loadAt 3 t39) J) fun t40 =>
 gj t30 false (fun J => B1 PR X 151 [t32, t40] J) fun t41 =>
 gj t30 false (fun J => A0 PR (Op.unary .not t41) J) fun t42 =>
 A0 PR (do pure (if ← asBool t30 then (.bool true) else t42)) fun t43 =>
 C3 t43 (
 R (.tuple #[(.int .i64 0), (.bool false)])) (
 J1 (.int .i64 0) (.bool false))
theorem A2G : A9 PR 103 := A7 Tryz.func103 (by kernel_rfl) rfl
theorem A2x {X : Nat → Prop} {t0 t1 t2 t3 : Value} {R : Value → WP} {w : World} (h : q5 X t0 t1 t2 t3 R w) : Fn PR X 103 #[t0, t1, t2, t3] w R := C9 (args := [t0, t1, t2, t3]) mixed Tryz.func103 (by kernel_rfl) h
def k5 (X : Nat → Prop) (t0 t1 : Value) (R : Value → WP) : WP :=
 drw <|
 A0 PR (E2 t0) fun t7 =>
 A0 PR (Instr.fieldAt 92 t7 1) fun t8 =>
 A6 PR (Instr.loadAt 90 t8) fun t9 =>
 A0 PR (E2 t0) fun t14 =>
 A0 PR (Instr.fieldAt 92 t14 0) fun t15 =>
 A6 PR (Instr.loadAt 32 t15) fun t16 =>
 A0 PR (A8 .len #[32] 0 [t16]) fun t17 =>
 A0 PR (binOp .gtr 3 t17 (.int .i64 0)) fun t18 =>
 B1 PR X 102 [t1] fun t11 =>
 watch PR [(none, (Instr.loadAt 32 t15), t16), (none, (Instr.loadAt 90 t8), t9)] <|
 B1 PR X 152 [t9, t11] fun t12 =>
 watch PR [(none, (Instr.loadAt 32 t15), t16)] <|
 R (.tuple #[t12, t18])
theorem j6 : A9 PR 104 := A7 Tryz.func104 (by kernel_rfl) rfl
theorem A14 {X : Nat → Prop} {t0 t1 : Value} {R : Value → WP} {w : World} (h : k5 X t0 t1 R w) : Fn PR X 104 #[t0, t1] w R := C9 (args := [t0, t1]) mixed Tryz.func104 (by kernel_rfl) h
def m7 (X : Nat → Prop) (t0 t1 : Value) (R : Value → WP) : WP :=
 A0 PR (E2 t0) fun t6 =>
 A0 PR (Instr.fieldAt 92 t6 0) fun t7 =>
 A6 PR (Instr.loadAt 32 t7) fun t8 =>
 B1 PR X 199 [t8, t1] fun t10 =>
 A0 PR (binOp .geq 3 t10 (.int .i64 0)) fun t11 =>
 R t11
theorem A15 : A9 PR 151 := A7 Tryz.func151 (by kernel_rfl) rfl
theorem A2w {X : Nat → Prop} {t0 t1 : Value} {R : Value → WP} {w : World} (h : m7 X t0 t1 R w) : Fn PR X 151 #[t0, t1] w R := C9 (args := [t0, t1]) mixed Tryz.func151 (by kernel_rfl) h
end Go.Proofs.YtpbmephflllolaaGreat
namespace Go.Proofs.YtpbmephflllolaaGreat
open Go
structure BakAt (w : World) (k : Nat) (pv rv : Value) (p : List F9) : Prop where
 bl : bl w k = some (.cells #[pv, rv] 92 (0, 0))
 rp : F5 w pv p.length (p.flatMap E1)
 rr : F5 w rv (G5 (F2 p)).length ((G5 (F2 p)).flatMap F8)
 len : p.length ≤ 1000
theorem BakAt.ks {κ : Bool} {S : List Nat} {w w' : World} {k : Nat} {pv rv : Value} {p : List F9} (h : BakAt w k pv rv p) (hk : KS κ S w w') (hS : ∀ g ∈ k :: (H0 pv ++ H0 rv), g ∉ S) : BakAt w' k pv rv p :=
 ⟨hk.2.1 _ _ (hS k (by simp)) rfl h.bl, h.rp.ks hk fun g hg => hS g (by simp [hg]), h.rr.ks hk fun g hg => hS g (by simp [hg]), h.len⟩
theorem BakAt.ks0 {κ : Bool} {w w' : World} {k : Nat} {pv rv : Value} {p : List F9} (h : BakAt w k pv rv p) (hk : KS κ [] w w') : BakAt w' k pv rv p := h.ks hk (by simp)
theorem BakAt.c0 {w : World} {k : Nat} {pv rv : Value} {p : List F9} (h : BakAt w k pv rv p) : w.cell? ⟨k, 0, none⟩ = some pv := by rw [H6 h.bl]; rfl
theorem BakAt.c1 {w : World} {k : Nat} {pv rv : Value} {p : List F9} (h : BakAt w k pv rv p) : w.cell? ⟨k, 1, none⟩ = some rv := by rw [H6 h.bl]; rfl
theorem C2Y (w : World) (k : Nat) (pv rv : Value) (p : List F9) (id : Int) (h : BakAt w k pv rv p) :
  Fn PR B4 151 #[.pointer (some ⟨k, 0, none⟩), .int .i64 id] w (fun r w' => r = .bool (decide (0 ≤ A18 p id)) ∧ C5 [] w w') := by
 refine Fn.pure (A2w (TW.go (κ := false) (S := []) ?_))
 unfold m7
 have h0 := h.c0
 have hl := h.len
 (have zz:=trivial;repeat((first|clear zz|with_reducible first|refine A3 ?_|refine A5 fun _=>?_|refine A4 fun _=>?_);try simp(disch:=first|omega|assumption|((repeat(first|exact A1|exact uH|apply A2|apply uT));first|done|fail)|(simp;first|done|omega|fail))[h0]))
 refine C4 A5k (fun w' hw' => A73 w' pv p id (by omega) ((h.ks0 hw'.ks).rp)) ?_
 (have zz:=trivial;repeat((first|clear zz|with_reducible first|refine A3 ?_|refine A5 fun _=>?_|refine A4 fun _=>?_);try simp(disch:=first|omega|assumption|((repeat(first|exact A1|exact uH|apply A2|apply uT));first|done|fail)|(simp;first|done|omega|fail))[]))
 exact B0 rfl
theorem B5T (w : World) (k : Nat) (pv rv : Value) (p : List F9) (key : ByteArray) (hk : key.size < 2 ^ 60) (h : BakAt w k pv rv p) :
  Fn PR B4 104 #[.pointer (some ⟨k, 0, none⟩), .string key] w (fun r w' => r = .tuple #[.int .i64 (A27 p (a7 key)), .bool (decide (0 < p.length))] ∧ C5 [] w w') := by
 refine Fn.pure (A14 (TW.go (κ := false) (S := []) ?_))
 unfold k5
 have h0 := h.c0
 have h1 := h.c1
 have hl := h.len
 obtain ⟨a, c, hpv, _⟩ := h.rp.form
 obtain ⟨a2, c2, hrv, _⟩ := h.rr.form
 subst hpv hrv
 (have zz:=trivial;repeat((first|clear zz|with_reducible first|refine A3 ?_|refine A5 fun _=>?_|refine A4 fun _=>?_);try simp(disch:=first|omega|assumption|((repeat(first|exact A1|exact uH|apply A2|apply uT));first|done|fail)|(simp;first|done|omega|fail))[h0, h1]))
 refine C4 r7 (fun w' _ => A07 w' key hk) ?_
 (have zz:=trivial;repeat((first|clear zz|with_reducible first|refine A3 ?_|refine A5 fun _=>?_|refine A4 fun _=>?_);try simp(disch:=first|omega|assumption|((repeat(first|exact A1|exact uH|apply A2|apply uT));first|done|fail)|(simp;first|done|omega|fail))[h0, h1]))
 refine C4 A5c (fun w' hw' => B5H w' _ (G5 (F2 p)) (a7 key) (by rw [Y3]; have := A4V p; omega) ((h.ks0 hw'.ks).rr)) ?_
 (have zz:=trivial;repeat((first|clear zz|with_reducible first|refine A3 ?_|refine A5 fun _=>?_|refine A4 fun _=>?_);try simp(disch:=first|omega|assumption|((repeat(first|exact A1|exact uH|apply A2|apply uT));first|done|fail)|(simp;first|done|omega|fail))[h0, h1]))
 refine B0 ?_
 simp [A27]
theorem B74 (w : World) (b k : Nat) (tv pv rv : Value) (l : List EnV) (p : List F9) (key : ByteArray) (now : Int) (hk : key.size < 2 ^ 60) (hn : l.length ≤ 1000000) (hc : w.cell? ⟨b, 2, none⟩ = some tv) (hv : F5 w tv l.length (l.flatMap E5)) (hb : BakAt w k pv rv p) :
  Fn PR B4 103 #[.pointer (some ⟨b, 0, none⟩), .pointer (some ⟨k, 0, none⟩), .string key, .int .i64 now] w (fun r w' => r = .tuple #[.int .i64 (J0 l p key now).1, .bool (J0 l p key now).2] ∧ C5 [] w w') := by
 refine Fn.pure (A2x (TW.go (κ := false) (S := []) ?_))
 unfold q5
 obtain ⟨a, c, rfl, hr⟩ := hv.form
 (have zz:=trivial;repeat((first|clear zz|with_reducible first|refine A3 ?_|refine A5 fun _=>?_|refine A4 fun _=>?_);try simp(disch:=first|omega|assumption|((repeat(first|exact A1|exact uH|apply A2|apply uT));first|done|fail)|(simp;first|done|omega|fail))[hc]))
 refine C4 d6 (fun w' hw' => l4 w' _ l key hk hn (hv.ks hw'.ks (by simp))) ?_
 by_cases c1 : E0 l key < 0
 ·(have zz:=trivial;repeat((first|clear zz|with_reducible first|refine A3 ?_|refine A5 fun _=>?_|refine A4 fun _=>?_);try simp(disch:=first|omega|assumption|((repeat(first|exact A1|exact uH|apply A2|apply uT));first|done|fail)|(simp;first|done|omega|fail))[c1]))
  exact B0 (by simp [J0, c1])
 obtain ⟨i, hi, hlt⟩ := B1G (l := l) (key := key) (by omega)
 have hx : l[i]? = some (l9 l key) := by rw [l9, hi, Int.toNat_natCast]; exact getD_some c9 hlt
 obtain ⟨g, o, rfl, hrow⟩ := hr (by omega)
 have h2 := hrow.cellAt (f := E5) (k := 4) (j := 2) (fun _ => rfl) hx rfl
 have h3 := hrow.cellAt (f := E5) (k := 4) (j := 3) (fun _ => rfl) hx rfl
 have hk1 : J0 l p key now = if (l9 l key).dl < now ∨ A18 p (l9 l key).bk < 0 then (0, false) else ((l9 l key).bk, true) := by simp [J0, c1]
 rw [hk1]
 generalize l9 l key = x at *
 rw [hi]
 have hi0 : ¬ ((i : Nat) : Int) < 0 := by omega
 by_cases c2 : x.dl < now
 ·(have zz:=trivial;repeat((first|clear zz|with_reducible first|refine A3 ?_|refine A5 fun _=>?_|refine A4 fun _=>?_);try simp(disch:=first|omega|assumption|((repeat(first|exact A1|exact uH|apply A2|apply uT));first|done|fail)|(simp;first|done|omega|fail))[hi0, hlt, h3, c2, hc]))
  exact B0 (by simp [c2])
 (have zz:=trivial;repeat((first|clear zz|with_reducible first|refine A3 ?_|refine A5 fun _=>?_|refine A4 fun _=>?_);try simp(disch:=first|omega|assumption|((repeat(first|exact A1|exact uH|apply A2|apply uT));first|done|fail)|(simp;first|done|omega|fail))[hi0, hlt, h3, c2, h2, hc]))
 refine C4 A15 (fun w' hw' => C2Y w' k pv rv p x.bk (hb.ks0 hw'.ks)) ?_
 by_cases c3 : A18 p x.bk < 0
 ·have c3' : ¬ 0 ≤ A18 p x.bk := by omega
  (have zz:=trivial;repeat((first|clear zz|with_reducible first|refine A3 ?_|refine A5 fun _=>?_|refine A4 fun _=>?_);try simp(disch:=first|omega|assumption|((repeat(first|exact A1|exact uH|apply A2|apply uT));first|done|fail)|(simp;first|done|omega|fail))[c3, c3', hc]))
  exact B0 (by simp [c3])
 ·have c3' : 0 ≤ A18 p x.bk := by omega
  (have zz:=trivial;repeat((first|clear zz|with_reducible first|refine A3 ?_|refine A5 fun _=>?_|refine A4 fun _=>?_);try simp(disch:=first|omega|assumption|((repeat(first|exact A1|exact uH|apply A2|apply uT));first|done|fail)|(simp;first|done|omega|fail))[c3, c3', hlt, h2, hc]))
  exact B0 (by simp [c2, c3])
theorem C2v {κ : Bool} {S : List Nat} {w0 : World} {H Hj : List Res} {F : Value → WP} {A : (Value → WP) → WP} (v1 : Value) (hF : TW κ S w0 Hj (F v1)) (hA : ∀ J : Value → WP, TW κ S w0 Hj (J v1) → TW κ S w0 H (A J)) : TW κ S w0 H (jn (n := 1) F A) := hA F hF
def Y9 (b : Nat) (lk : Int) (tv : Value) (nx : Int) : Res := .pt b (.cells #[.int .i32 lk, .int .u32 0, tv, .int .i64 nx] 103 (0, 0))
theorem B6m (w : World) (b k : Nat) (lk nx : Int) (tv pv rv : Value) (l : List EnV) (p : List F9) (key : ByteArray) (closing : Bool) (now idle : Int) (hk : key.size < 2 ^ 60) (hks : L6 l) (hn : l.length ≤ 1000000)
  (hb : ∀ w', KS false (B3 [Y9 b lk tv nx, E3 tv l]) w w' → BakAt w' k pv rv p) (hw : LW false (B3 [Y9 b lk tv nx, E3 tv l]) w [Y9 b lk tv nx, E3 tv l] w) :
  Fn PR B4 58 #[.pointer (some ⟨b, 0, none⟩), .pointer (some ⟨k, 0, none⟩), .string key, .bool closing, .int .i64 now, .int .i64 idle] w
   (Rn (B3 [Y9 b lk tv nx, E3 tv l]) w (fun (_ : Value) u => u = (D6 l p key closing now idle).2.1.val) fun r => [Y9 b lk r nx, E3 r (D6 l p key closing now idle).1]) := by
 refine A2e (TW.goH (κ := false) ?_ hw)
 unfold l5
 have hpl : p.length ≤ 1000 := (hb w (KS.refl _ _)).len
 generalize hS : B3 [Y9 b lk tv nx, E3 tv l] = S at *
 simp only [Y9]
 refine Y2 (e := 160) (k := 4) (v := tv) (q := l.length) (xs := l.flatMap E5) (by (repeat constructor)) fun ht1 ht2 ht3 => ?_
 (have zz:=trivial;repeat((first|clear zz|with_reducible first|refine A3 ?_|refine A5 fun _=>?_|refine A4 fun _=>?_);try simp(disch:=first|omega|assumption|((repeat(first|exact A1|exact uH|apply A2|apply uT));first|done|fail)|(simp;first|done|omega|fail))[]))
 refine C4 A2G (fun w' hw' => B74 w' b k tv pv rv l p key now hk hn (k9 (o := 2) (hw'.pt (by (repeat constructor))) rfl) (L5.own (e := 160) (k := 4) (by (repeat constructor)) w' hw') (hb w' hw'.ks)) ?_
 rename_i ba
 by_cases hne : (J0 l p key now).2 = false ∧ p = []
 ·have hd : D6 l p key closing now idle = (l, ⟨11, 0, false, 0⟩, false) := if_pos hne
  obtain ⟨h1, hp⟩ := hne
  have hp0 : ¬ 0 < p.length := by rw [hp]; simp
  rw [hd]
  (have zz:=trivial;repeat((first|clear zz|with_reducible first|refine A3 ?_|refine A5 fun _=>?_|refine A4 fun _=>?_);try simp(disch:=first|omega|assumption|((repeat(first|exact A1|exact uH|apply A2|apply uT));first|done|fail)|(simp;first|done|omega|fail))[h1]))
  refine C4 j6 (fun w' hw' => B5T w' k pv rv p key hk (hb w' hw'.ks)) ?_
  (have zz:=trivial;repeat((first|clear zz|with_reducible first|refine A3 ?_|refine A5 fun _=>?_|refine A4 fun _=>?_);try simp(disch:=first|omega|assumption|((repeat(first|exact A1|exact uH|apply A2|apply uT));first|done|fail)|(simp;first|done|omega|fail))[hp0]))
  refine B8 tv (by simp [AnsV.val]) ?_
  try simp only [Y9]
  (repeat' constructor)
 have hd : D6 l p key closing now idle = if closing then (r4 l key, ⟨0, N5 l p key now, false, 0⟩, (W3 l key).isSome)
  else match G7 l (A40 l p key now idle) with
   | none => (l, ⟨12, 0, false, 0⟩, false)
   | some u => (u, ⟨0, N5 l p key now, !(J0 l p key now).2, 0⟩, true) := if_neg hne
 rw [A6m, A6p]
 refine C2v (Hj := [.pt ba (.cells #[.int .i64 0, .int .i64 0, .bool false, .int .i64 0] 39), Y9 b lk tv nx, E3 tv l]) (.int .i64 (N5 l p key now)) ?_ ?_
 case refine_2 =>
  intro J hJ
  simp only [Y9] at hJ
  cases h1 : (J0 l p key now).2 with
  | true =>
   have e : N5 l p key now = (J0 l p key now).1 := by simp [N5, h1]
   rw [e] at hJ
   (have zz:=trivial;repeat((first|clear zz|with_reducible first|refine A3 ?_|refine A5 fun _=>?_|refine A4 fun _=>?_);try simp(disch:=first|omega|assumption|((repeat(first|exact A1|exact uH|apply A2|apply uT));first|done|fail)|(simp;first|done|omega|fail))[]))
   exact hJ
  | false =>
   have hp0 : ¬ p = [] := fun h => hne ⟨h1, h⟩
   have hp1 : 0 < p.length := List.length_pos_iff.2 hp0
   have e : N5 l p key now = A27 p (a7 key) := by simp [N5, h1]
   rw [e] at hJ
   (have zz:=trivial;repeat((first|clear zz|with_reducible first|refine A3 ?_|refine A5 fun _=>?_|refine A4 fun _=>?_);try simp(disch:=first|omega|assumption|((repeat(first|exact A1|exact uH|apply A2|apply uT));first|done|fail)|(simp;first|done|omega|fail))[]))
   refine C4 j6 (fun w' hw' => B5T w' k pv rv p key hk (hb w' hw'.ks)) ?_
   (have zz:=trivial;repeat((first|clear zz|with_reducible first|refine A3 ?_|refine A5 fun _=>?_|refine A4 fun _=>?_);try simp(disch:=first|omega|assumption|((repeat(first|exact A1|exact uH|apply A2|apply uT));first|done|fail)|(simp;first|done|omega|fail))[hp1]))
   exact hJ
 ·rw [hd]
  simp only [Y9]
  cases closing with
  | true =>
   (have zz:=trivial;repeat((first|clear zz|with_reducible first|refine A3 ?_|refine A5 fun _=>?_|refine A4 fun _=>?_);try simp(disch:=first|omega|assumption|((repeat(first|exact A1|exact uH|apply A2|apply uT));first|done|fail)|(simp;first|done|omega|fail))[]))
   refine H2 A2K (fun w' hw' => A4U w' tv l key hk hks hn (L5.own (e := 160) (k := 4) (by (repeat constructor)) w' hw')) ?_
   rintro r _ rfl
   cases h2 : (W3 l key).isSome with
   | true =>
    refine Y2 (e := 160) (k := 4) (v := r) (q := (r4 l key).length) (xs := (r4 l key).flatMap E5) (by (repeat constructor)) fun hr1 hr2 hr3 => ?_
    (have zz:=trivial;repeat((first|clear zz|with_reducible first|refine A3 ?_|refine A5 fun _=>?_|refine A4 fun _=>?_);try simp(disch:=first|omega|assumption|((repeat(first|exact A1|exact uH|apply A2|apply uT));first|done|fail)|(simp;first|done|omega|fail))[hr1]))
    refine B8 r (by simp [AnsV.val]) ?_
    try simp only [Y9]
    (repeat' constructor)
   | false =>
    have hdl : r4 l key = l := by
     cases h3 : W3 l key with
     | none => simp [r4, h3]
     | some u => rw [h3] at h2; cases h2
    (have zz:=trivial;repeat((first|clear zz|with_reducible first|refine A3 ?_|refine A5 fun _=>?_|refine A4 fun _=>?_);try simp(disch:=first|omega|assumption|((repeat(first|exact A1|exact uH|apply A2|apply uT));first|done|fail)|(simp;first|done|omega|fail))[ht1]))
    refine B8 tv (by simp [AnsV.val]) ?_
    simp only [hdl]
    (repeat' constructor)
  | false =>
   (have zz:=trivial;repeat((first|clear zz|with_reducible first|refine A3 ?_|refine A5 fun _=>?_|refine A4 fun _=>?_);try simp(disch:=first|omega|assumption|((repeat(first|exact A1|exact uH|apply A2|apply uT));first|done|fail)|(simp;first|done|omega|fail))[]))
   refine H2 A5d (fun w' hw' => A7v w' tv l key (N5 l p key now) (IntKind.i64.wrap (now + idle)) hk hn (L5.own (e := 160) (k := 4) (by (repeat constructor)) w' hw')) ?_
   rintro r _ rfl
   cases h2 : G7 l (A40 l p key now idle) with
   | none =>
    have h2' : G7 l ⟨1, key, N5 l p key now, IntKind.i64.wrap (now + idle)⟩ = none := h2
    simp only [h2']
    (have zz:=trivial;repeat((first|clear zz|with_reducible first|refine A3 ?_|refine A5 fun _=>?_|refine A4 fun _=>?_);try simp(disch:=first|omega|assumption|((repeat(first|exact A1|exact uH|apply A2|apply uT));first|done|fail)|(simp;first|done|omega|fail))[ht1]))
    refine B8 tv (by simp [AnsV.val]) ?_
    try simp only [Y9]
    (repeat' constructor)
   | some u =>
    have h2' : G7 l ⟨1, key, N5 l p key now, IntKind.i64.wrap (now + idle)⟩ = some u := h2
    simp only [h2']
    simp only [Option.getD_some]
    refine Y2 (e := 160) (k := 4) (v := r) (q := u.length) (xs := u.flatMap E5) (by (repeat constructor)) fun hr1 hr2 hr3 => ?_
    (have zz:=trivial;repeat((first|clear zz|with_reducible first|refine A3 ?_|refine A5 fun _=>?_|refine A4 fun _=>?_);try simp(disch:=first|omega|assumption|((repeat(first|exact A1|exact uH|apply A2|apply uT));first|done|fail)|(simp;first|done|omega|fail))[hr1]))
    refine B8 r (by simp [AnsV.val]) ?_
    try simp only [Y9]
    (repeat' constructor)
end Go.Proofs.YtpbmephflllolaaGreat
namespace Go.Proofs.YtpbmephflllolaaGreat
open Go
structure ShB where
 b : Nat
 lk : Int
 tv : Value
 l : List EnV
 nx : Nat
def G8 (t : ShB) : List Res := [Y9 t.b t.lk t.tv (t.nx : Nat), E3 t.tv t.l]
def F3 (z : Int) (t : ShB) : ShB := { t with lk := z }
def B85 (b : Nat) : Value := .pointer (some ⟨b, 0, none⟩)
def U4 (ts : List ShB) : List Value := ts.map fun t => B85 t.b
theorem B83 (ts : List ShB) : (U4 ts).length = ts.length := by simp [U4]
theorem A33 {ts : List ShB} {i : Nat} {t : ShB} (h : ts[i]? = some t) : (U4 ts)[i]? = some (.pointer (some ⟨t.b, 0, none⟩)) := by simp [U4, h, B85]
def K7 (sv : Value) (ts : List ShB) : Res := .own 93 1 sv ts.length (U4 ts)
abbrev C7P (b : Nat) : Value := .func (.func 87) #[] #[.pointer (some ⟨b, 0, none⟩)]
theorem A6Y (w : World) (sv : Value) (ts : List ShB) (hn : ts.length ≤ 1000) (hw : LW false (B3 [K7 sv ts, G1 G8 (ts.map (F3 0))]) w [K7 sv ts, G1 G8 (ts.map (F3 0))] w) :
  Fn PR B4 46 #[sv] w (Rn (B3 [K7 sv ts, G1 G8 (ts.map (F3 0))]) w (fun (bx : Nat) u => u = C7P bx) fun bx => [.pt bx (.cells #[sv] 86), K7 sv ts, G1 G8 (ts.map (F3 1))]) := by
 refine A6M (TW.goH (κ := false) ?_ hw)
 unfold A08
 generalize B3 [K7 sv ts, G1 G8 (ts.map (F3 0))] = S at *
 simp only [K7]
 refine Y6 (e := 93) (k := 1) (v := sv) (q := ts.length) (xs := U4 ts) (by (repeat constructor)) ?_
 rintro sa sc rfl
 (have zz:=trivial;repeat((first|clear zz|with_reducible first|refine A3 ?_|refine A5 fun _=>?_|refine A4 fun _=>?_);try simp(disch:=first|omega|assumption|((repeat(first|exact A1|exact uH|apply A2|apply uT));first|done|fail)|(simp;first|done|omega|fail))[]))
 rename_i bx
 rw [← C0P (F3 1) (F3 0) ts]
 refine B7g ts.length (fun i => [.pt bx (.cells #[.slice sa ts.length sc] 86), K7 (.slice sa ts.length sc) ts, G1 G8 (r8 (F3 1) (F3 0) i ts)]) ?_
 intro i hi L hL
 simp only [K7]
 by_cases hlt : i < ts.length
 ·have hx := List.getElem?_eq_getElem hlt
  have hp := A33 hx
  have hm := B5E (f := F3 1) (g := F3 0) hx
  have hms := B5B (f := F3 1) (g := F3 0) hx
  have hml := B0c (F3 1) (F3 0) i ts
  generalize ts[i] = t at *
  refine p4 (e := 93) (k := 1) (v := .slice sa ts.length sc) (q := ts.length) (xs := U4 ts) (by (repeat constructor)) (by omega) ?_
  rintro g gc hg
  cases hg
  (have zz:=trivial;repeat((first|clear zz|with_reducible first|refine A3 ?_|refine A5 fun _=>?_|refine A4 fun _=>?_);try simp(disch:=first|omega|assumption|((repeat(first|exact A1|exact uH|apply A2|apply uT));first|done|fail)|(simp;first|done|omega|fail))[hlt, hp]))
  refine A4u (f := G8) (i := i) (by (repeat' constructor)) hm ?_
  simp only [G8, F3, Y9, List.cons_append, List.nil_append]
  refine D8 (Hc := [.pt t.b (.cells #[.int .i32 0, .int .u32 0, t.tv, .int .i64 (t.nx : Nat)] 103 (0, 0))]) A50 (fun w' _ hs => C1v w' t.b _ _ _ _ hs) (by (repeat' constructor)) ?_
  rintro _ _ rfl
  refine A7K (f := G8) (y := F3 1 t) (ls := r8 (F3 1) (F3 0) i ts) (i := i) (by simp only [G8, F3, Y9, List.cons_append, List.nil_append]; (repeat' constructor)) (by omega) ?_
  rw [hms]
  (have zz:=trivial;repeat((first|clear zz|with_reducible first|refine A3 ?_|refine A5 fun _=>?_|refine A4 fun _=>?_);try simp(disch:=first|omega|assumption|((repeat(first|exact A1|exact uH|apply A2|apply uT));first|done|fail)|(simp;first|done|omega|fail))[]))
  refine Sels.tw ?_ (hL hlt)
  try simp only [K7]
  (repeat' constructor)
 ·obtain rfl : i = ts.length := by omega
  rw [C0W]
  (have zz:=trivial;repeat((first|clear zz|with_reducible first|refine A3 ?_|refine A5 fun _=>?_|refine A4 fun _=>?_);try simp(disch:=first|omega|assumption|((repeat(first|exact A1|exact uH|apply A2|apply uT));first|done|fail)|(simp;first|done|omega|fail))[]))
  refine B8 bx rfl ?_
  try simp only [K7]
  (repeat' constructor)
abbrev C0j (b : Nat) : Value := .func (.func 136) #[] #[.pointer (some ⟨b, 0, none⟩)]
def A5E (bs : List Value) : List (List Value) := (List.range bs.length).map fun j => [.int .i64 ((bs.length - 1 - j : Nat) : Int), bs.getD (bs.length - 1 - j) (.tuple #[])]
theorem A04 (bs : List Value) : (A5E bs).length = bs.length := by simp [A5E]
theorem B3V {bs : List Value} {m : Nat} {v : Value} (h : bs[m]? = some v) (hi : bs.length - (m + 1) < (A5E bs).length) : (A5E bs)[bs.length - (m + 1)] = [.int .i64 (m : Int), v] := by
 obtain ⟨hm, rfl⟩ := List.getElem?_eq_some_iff.1 h
 simp only [A5E, List.getElem_map, List.getElem_range]
 rw [show bs.length - 1 - (bs.length - (m + 1)) = m by omega]
 simp [List.getD_eq_getElem?_getD, List.getElem?_eq_getElem hm]
theorem B4G (w : World) (v : Value) (hv : ∃ a n c, v = .slice a n c) : Fn PR B4 88 #[v] w (Rn [] w (fun b u => u = C0j b) fun b => [.pt b (.cells #[v] 86)]) := by
 obtain ⟨a, n, c, rfl⟩ := hv
 refine V1 (TW.go (κ := false) (S := []) ?_)
 unfold M1
 (have zz:=trivial;repeat((first|clear zz|with_reducible first|refine A3 ?_|refine A5 fun _=>?_|refine A4 fun _=>?_);try simp(disch:=first|omega|assumption|((repeat(first|exact A1|exact uH|apply A2|apply uT));first|done|fail)|(simp;first|done|omega|fail))[]))
 rename_i b
 exact Z6 b rfl (by simp)
theorem C00 (b : Nat) (v : Value) (bs : List Value) (hn : bs.length ≤ 1000) : A1x (C0j b) [.pt b (.cells #[v] 86)] (RqS v bs.length bs) (A5E bs) := by
 refine ⟨_, _, _, rfl, fun y J E hJ hE stJ stE hy w0 h0 => ?_⟩
 obtain ⟨a, c, hv, hr⟩ := (hJ _ _ _ h0).2
 subst hv
 refine T8 (T5 (TW.at (κ := true) ?_ (hJ _ _ _ h0).1))
 unfold L0
 (have zz:=trivial;repeat((first|clear zz|with_reducible first|refine A3 ?_|refine A5 fun _=>?_|refine A4 fun _=>?_);try simp(disch:=first|omega|assumption|((repeat(first|exact A1|exact uH|apply A2|apply uT));first|done|fail)|(simp;first|done|omega|fail))[]))
 refine B6K (α := Nat) (fun m => bs.length - m) (fun _ => _) (· ≤ bs.length) (fun m => m) (fun m => .int .i64 ((m : Int) - 1)) bs.length hJ stJ (by simpa using h0) (Nat.le_refl _) fun m a' hm hJm hRm L hL => ?_
 cases m with
 | zero =>
  (have zz:=trivial;repeat((first|clear zz|with_reducible first|refine A3 ?_|refine A5 fun _=>?_|refine A4 fun _=>?_);try simp(disch:=first|omega|assumption|((repeat(first|exact A1|exact uH|apply A2|apply uT));first|done|fail)|(simp;first|done|omega|fail))[]))
  exact A09 stJ (by rw [A04]; simpa using hJm)
 | succ m =>
  obtain ⟨_, _, hv, hr⟩ := hRm
  obtain ⟨b', o, hb, hrow, hnb⟩ := hr (by omega)
  cases hv
  subst hb
  have hlt : m < bs.length := by omega
  have hx := List.getElem?_eq_getElem hlt
  have h1 := hrow.get hx
  have hat := fun hi => B3V hx hi
  generalize bs[m] = x at *
  have e : (((m + 1 : Nat) : Int) - 1) = (m : Int) := by omega
  rw [e]
  have hlen : bs.length - m = bs.length - (m + 1) + 1 := by omega
  have hL' := hL m
  simp only [hlen] at hL'
  (have zz:=trivial;repeat((first|clear zz|with_reducible first|refine A3 ?_|refine A5 fun _=>?_|refine A4 fun _=>?_);try simp(disch:=first|omega|assumption|((repeat(first|exact A1|exact uH|apply A2|apply uT));first|done|fail)|(simp;first|done|omega|fail))[hlt, h1]))
  refine A3M hJ hE stJ hy hJm (by rw [A04]; omega) (hat _) (fun w3 h => ?_) (fun w3 h => ?_)
  ·(have zz:=trivial;repeat((first|clear zz|with_reducible first|refine A3 ?_|refine A5 fun _=>?_|refine A4 fun _=>?_);try simp(disch:=first|omega|assumption|((repeat(first|exact A1|exact uH|apply A2|apply uT));first|done|fail)|(simp;first|done|omega|fail))[]))
   exact fun w' hw' => hL' w' (by omega) (by omega) (stJ _ _ _ _ _ h (hw'.sub (by simp)))
  ·(have zz:=trivial;repeat((first|clear zz|with_reducible first|refine A3 ?_|refine A5 fun _=>?_|refine A4 fun _=>?_);try simp(disch:=first|omega|assumption|((repeat(first|exact A1|exact uH|apply A2|apply uT));first|done|fail)|(simp;first|done|omega|fail))[]))
   exact A1C stE h
theorem RqS.own {e : TypeId} {v : Value} {n : Nat} {xs : List Value} {S : List Nat} {w0 w : World} {A F : List Res} (hm : Res.own e 1 v n xs ∈ A) (hw : LW false S w0 (A ++ F) w) : RqS v n xs F w := by
 have ho : M0 w e 1 v n xs := hw.hold _ (List.mem_append_left _ hm)
 obtain ⟨a, c, rfl, hr⟩ := (M0.rd ho).form
 refine ⟨a, c, rfl, fun hn => ?_⟩
 obtain ⟨b, o, rfl, hrow⟩ := hr hn
 exact ⟨b, o, rfl, hrow, hw.notin hm (by simp [Res.foot, H0])⟩
theorem A7B (w : World) (bx : Nat) (sv : Value) (ts : List ShB) (hn : ts.length ≤ 1000) (hw : LW false (B3 [.pt bx (.cells #[sv] 86), K7 sv ts, G1 G8 (ts.map (F3 1))]) w [.pt bx (.cells #[sv] 86), K7 sv ts, G1 G8 (ts.map (F3 1))] w) :
  FnD PR B4 87 #[.pointer (some ⟨bx, 0, none⟩)] w (Rn (B3 [.pt bx (.cells #[sv] 86), K7 sv ts, G1 G8 (ts.map (F3 1))]) w (fun (_ : Unit) u => u = .tuple #[]) fun _ => [.pt bx (.cells #[sv] 86), K7 sv ts, G1 G8 (ts.map (F3 0))]) := by
 refine B7J (args := [.pointer (some ⟨bx, 0, none⟩)]) mixed Tryz.func87 ?_
 rw [A2Y]
 refine TW.goH (κ := false) ?_ hw
 unfold x5
 generalize B3 [.pt bx (.cells #[sv] 86), K7 sv ts, G1 G8 (ts.map (F3 1))] = S at *
 simp only [K7]
 refine Y6 (e := 93) (k := 1) (v := sv) (q := ts.length) (xs := U4 ts) (by (repeat constructor)) ?_
 rintro sa sc rfl
 (have zz:=trivial;repeat((first|clear zz|with_reducible first|refine A3 ?_|refine A5 fun _=>?_|refine A4 fun _=>?_);try simp(disch:=first|omega|assumption|((repeat(first|exact A1|exact uH|apply A2|apply uT));first|done|fail)|(simp;first|done|omega|fail))[]))
 refine H2 U9 (fun w' _ => B4G w' (.slice sa ts.length sc) ⟨_, _, _, rfl⟩) ?_
 rintro b _ rfl
 rw [← C0W (F3 1) (F3 0) ts]
 have hpl := B83 ts
 refine TW.eqH (H' := [.pt b (.cells #[.slice sa ts.length sc] 86)] ++ [.pt bx (.cells #[.slice sa ts.length sc] 86), K7 (.slice sa ts.length sc) ts, G1 G8 (r8 (F3 1) (F3 0) (ts.length - 0) ts)]) (by simp [K7]) ?_
 have hit := C00 b (.slice sa ts.length sc) (U4 ts) (by omega)
 rw [hpl] at hit
 refine A0B hit (by simp [A5E]) (fun i (_ : Unit) => i ≤ ts.length) (fun i _ => [.pt bx (.cells #[.slice sa ts.length sc] 86), K7 (.slice sa ts.length sc) ts, G1 G8 (r8 (F3 1) (F3 0) (ts.length - i) ts)])
  (fun c (y : Unit) => False) (fun y => []) () (Nat.zero_le _) ?_ ?_ ?_ ?_ (by rfl)
 ·intro i _ F w1 _ hw1
  exact RqS.own (e := 93) (by simp only [K7]; (repeat constructor)) hw1
 ·rintro i hi _ F _ K' hK _
  have hi' : i < ts.length := by rw [A04, hpl] at hi; exact hi
  obtain ⟨m, hm⟩ : ∃ m, ts.length - i = m + 1 := ⟨ts.length - i - 1, by omega⟩
  have hmlt : m < ts.length := by omega
  have hx := List.getElem?_eq_getElem hmlt
  have hp := A33 hx
  have hg := B2v (f := F3 1) (g := F3 0) hx
  have hms := B99 (f := F3 1) (g := F3 0) hx
  have hml := B0c (F3 1) (F3 0) (m + 1) ts
  have hat := B3V hp (by rw [A04, hpl]; omega)
  have hidx : (U4 ts).length - (m + 1) = i := by omega
  simp only [hidx] at hat
  rw [hat]
  have hK' := hK () (by omega)
  rw [show ts.length - (i + 1) = m by omega] at hK'
  rw [hm]
  generalize ts[m] = t at *
  simp only [VF.app, List.cons_append, List.nil_append]
  (have zz:=trivial;repeat((first|clear zz|with_reducible first|refine A3 ?_|refine A5 fun _=>?_|refine A4 fun _=>?_);try simp(disch:=first|omega|assumption|((repeat(first|exact A1|exact uH|apply A2|apply uT));first|done|fail)|(simp;first|done|omega|fail))[]))
  refine A4u (f := G8) (i := m) (ls := r8 (F3 1) (F3 0) (m + 1) ts) (by (repeat' constructor)) hg ?_
  simp only [G8, F3, Y9, List.cons_append, List.nil_append]
  refine D8 (Hc := [.pt t.b (.cells #[.int .i32 1, .int .u32 0, t.tv, .int .i64 (t.nx : Nat)] 103 (0, 0))]) A4D (fun w' _ hs => B8E w' t.b _ _ _ _ hs) (by (repeat' constructor)) ?_
  rintro _ _ rfl
  refine A7K (f := G8) (y := F3 0 t) (ls := r8 (F3 1) (F3 0) (m + 1) ts) (i := m) (by simp only [G8, F3, Y9, List.cons_append, List.nil_append]; (repeat' constructor)) (by omega) ?_
  rw [hms]
  exact TW.perm hK' ((List.Perm.swap ..).trans (List.Perm.cons _ (List.Perm.swap ..)))
 ·rintro _ _
  rw [A04, hpl, Nat.sub_self, C0P]
  (have zz:=trivial;repeat((first|clear zz|with_reducible first|refine A3 ?_|refine A5 fun _=>?_|refine A4 fun _=>?_);try simp(disch:=first|omega|assumption|((repeat(first|exact A1|exact uH|apply A2|apply uT));first|done|fail)|(simp;first|done|omega|fail))[]))
  refine B8 () rfl ?_
  try simp only [K7]
  (repeat' constructor)
 ·rintro _ _ h; exact h.elim
theorem FnD.use {P : Program} {X : Nat → Prop} {f : FuncId} {args : Array Value} {w : World} {R K : Value → WP} (h : FnD P B4 f args w R) (hk : ∀ v w', R v w' → Sk B4 w w' → K v w') : FnD P X f args w K :=
 CallsD.mono h fun _ _ w' ⟨v, he, hu, hr, hs⟩ => ⟨v, he, hu, hk v w' hr hs, hs.mono fun _ h => h.elim⟩
theorem B5v {κ : Bool} {X : Nat → Prop} {S : List Nat} {w0 : World} {H Hk Hc : List Res} {A : WP} {f : FuncId} {first cap : Array Value} {α : Type} {φ : α → Value → Prop} {Hn : α → List Res} (he : A9 PR f)
  (hf : ∀ w, LW κ S w0 H w → LW false (B3 Hc) w Hc w → FnD PR B4 f (first.toList ++ cap.toList).toArray w (Rn (B3 Hc) w φ Hn)) (hp : Part Hc H Hk) (hK : ∀ a v, φ a v → TW κ S w0 (Hn a ++ Hk) A) : TW κ S w0 H (dfr PR X (.func (.func f) first cap) A) := fun w hw =>
 ⟨he, (hf w hw ((hw.perm hp.perm).sub (List.sublist_append_left _ _)).self).use fun v w' ⟨a, h1, h2⟩ hsk => hK a v h1 w' ((hw.perm hp.perm).part (h2.high fun _ => hsk))⟩
theorem B6n {κ : Bool} {S : List Nat} {w0 : World} {H : List Res} {A : WP} {f : FuncId} {first cap : Array Value} (h : TW κ S w0 H A) : TW κ S w0 H (isf (.func (.func f) first cap) A) := fun w hw => ⟨⟨_, _, _, rfl⟩, h w hw⟩
end Go.Proofs.YtpbmephflllolaaGreat
namespace Go.Proofs.YtpbmephflllolaaGreat
open Go
structure BaH where
 b : Nat
 k : Nat
 pv : Value
 rv : Value
 sv : Value
 c : CfgV
 pool : List F9
 ts : List ShB
def BaH.st (m : BaH) : MoS := ⟨m.c, m.pool, m.ts.map fun t => (t.l, t.nx)⟩
def M4 (b k : Nat) (c : CfgV) (sv : Value) : Res := .pt b (.cells #[.int .i64 c.wk, .int .i64 c.sh, .int .i64 c.cp, .int .i64 c.idle, .int .i64 c.sl, .pointer (some ⟨k, 0, none⟩), sv] 88 (0, 0))
def A42 (k : Nat) (pv rv : Value) (p : List F9) : List Res := [.pt k (.cells #[pv, rv] 92 (0, 0)), .own 75 2 pv p.length (p.flatMap E1), .own 217 2 rv (G5 (F2 p)).length ((G5 (F2 p)).flatMap F8)]
def B6 (m : BaH) : List Res := [M4 m.b m.k m.c m.sv, .pt m.k (.cells #[m.pv, m.rv] 92 (0, 0)), .own 75 2 m.pv m.pool.length (m.pool.flatMap E1), .own 217 2 m.rv (G5 (F2 m.pool)).length ((G5 (F2 m.pool)).flatMap F8), K7 m.sv m.ts, G1 G8 (m.ts.map (F3 0))]
abbrev BDo (w : World) (m : BaH) (r : MoS × AnsV) : Value → WP := Rn (B3 (B6 m)) w (fun (m' : BaH) u => u = r.2.val ∧ m'.b = m.b ∧ m'.st = r.1) B6
section
variable {κ : Bool} {S : List Nat} {w0 w : World} {H Hk Hc : List Res} {K : Value → WP}
theorem C0C {k : Nat} {pv rv : Value} {p : List F9} (hw : LW κ S w0 H w) (hp : Part (Hc ++ A42 k pv rv p) H Hk) (hl : p.length ≤ 1000) : ∀ w', KS false (B3 Hc) w w' → BakAt w' k pv rv p := fun w' hk => by
 have h1 := hw.perm hp.perm
 rw [List.append_assoc] at h1
 have hd := (List.pairwise_append.1 h1.dis).2.2
 have st : ∀ r ∈ A42 k pv rv p, r.holds w' := fun r hr =>
  Res.stable (fun b hb o ho e => hk.2.1 b o (fun hf => by
   obtain ⟨s, hs, hbs⟩ := G6.1 hf
   exact hd s hs r (List.mem_append_left _ hr) b hbs hb) ho e) (h1.hold r (List.mem_append_right _ (List.mem_append_left _ hr)))
 exact ⟨(st _ (List.mem_cons_self ..)).1, M0.rd (st (.own 75 2 pv p.length (p.flatMap E1)) (by simp [A42])), M0.rd (st (.own 217 2 rv (G5 (F2 p)).length ((G5 (F2 p)).flatMap F8)) (by simp [A42])), hl⟩
end
theorem C0u {X : Nat → Prop} {κ : Bool} {S : List Nat} {w0 : World} {H Hk : List Res} {K : Value → WP} {b k k' : Nat} {c : CfgV} {sv : Value} {d : Array Value} {T2 : TypeId} (hp : Part [M4 b k c sv, .pt k' (.cells d T2 (0, 0))] H Hk) (hd : 0 < d.size)
  (hK : TW κ S w0 (M4 b k' c sv :: .pt k' (.cells d T2 (0, 0)) :: Hk) (K (.tuple #[]))) : TW κ S w0 H (B1 PR X 36 [.pointer (some ⟨b, 5, none⟩), .pointer (some ⟨k', 0, none⟩)] K) := by
 refine TW.perm ?_ hp.perm
 refine D8 (Hc := [M4 b k c sv]) (Hk := .pt k' (.cells d T2 (0, 0)) :: Hk) M2 (fun w' hw' hs => B1A w' b k' _ _ _ _ _ _ _ _ d T2 hd hs (hw'.hold (.pt k' (.cells d T2 (0, 0))) (by simp)).1 (fun e => ?_)) (Part.cons Sel.here Part.nil) ?_
 ·have := (List.pairwise_cons.1 hw'.dis).1 (.pt k' (.cells d T2 (0, 0))) (by simp) b (by simp [M4, Res.foot])
  exact this (by simp [Res.foot, e])
 ·rintro _ _ rfl
  exact hK
theorem B9w (w : World) (m : BaH) (hl : m.pool.length ≤ 1000) (hw : LW false (B3 (B6 m)) w (B6 m) w) :
  Fn PR B4 19 #[.pointer (some ⟨m.b, 0, none⟩)] w (Rn (B3 (B6 m)) w (fun r u => u = r) fun r => .own 75 2 r m.pool.length (m.pool.flatMap E1) :: B6 m) := by
 refine A2A (TW.goH (κ := false) ?_ hw)
 unfold k8
 generalize B3 (B6 m) = S at *
 simp only [B6, M4]
 (have zz:=trivial;repeat((first|clear zz|with_reducible first|refine A3 ?_|refine A5 fun _=>?_|refine A4 fun _=>?_);try simp(disch:=first|omega|assumption|((repeat(first|exact A1|exact uH|apply A2|apply uT));first|done|fail)|(simp;first|done|omega|fail))[]))
 refine C4 M6 (fun w' hw' => B2Y w' m.b m.k _ _ _ (hw'.pt (by (repeat constructor))) rfl (hw'.pt (o := .cells #[m.pv, m.rv] 92 (0, 0)) (by (repeat constructor))) rfl) ?_
 refine Y6 (e := 75) (k := 2) (v := m.pv) (q := m.pool.length) (xs := m.pool.flatMap E1) (by (repeat constructor)) ?_
 intro pa pc hpv
 rw [hpv]
 (have zz:=trivial;repeat((first|clear zz|with_reducible first|refine A3 ?_|refine A5 fun _=>?_|refine A4 fun _=>?_);try simp(disch:=first|omega|assumption|((repeat(first|exact A1|exact uH|apply A2|apply uT));first|done|fail)|(simp;first|done|omega|fail))[]))
 refine H2 G4 (fun w' hw' => A3d w' (.slice pa m.pool.length pc) m.pool.length (m.pool.flatMap E1) (by omega) (H4 (k := 2) (fun _ => rfl) _) (A16 _) (L5.own (e := 75) (k := 2) (by (repeat constructor)) w' hw')) ?_
 rintro _ r rfl
 refine B8 r rfl ?_
 try simp only [B6, M4, hpv]
 (repeat' constructor)
structure PoolBt (w : World) (m : BaH) (v : Value) (p : List F9) : Prop where
 rd : F5 w v p.length (p.flatMap E1)
 off : 0 < p.length → ∀ g ∈ H0 v, g ∉ B3 (B6 m)
 len : p.length ≤ 1000
 form : v.cells = #[v] ∧ plain v = true
theorem PoolBt.at {w w' : World} {m : BaH} {v : Value} {p : List F9} {κ : Bool} (h : PoolBt w m v p) (hk : KS κ (B3 (B6 m)) w w') : F5 w' v p.length (p.flatMap E1) :=
 h.rd.ks0 (fun e => by rw [List.length_eq_zero_iff.1 e]; rfl) hk h.off
theorem A9p (w : World) (m : BaH) (p : List F9) (v : Value) (hv : PoolBt w m v p) (hw : LW false (B3 (B6 m)) w (B6 m) w) :
  Fn PR B4 26 #[.pointer (some ⟨m.b, 0, none⟩), v] w (BDo w m (A1b m.st p)) := by
 refine A1D (TW.goH (κ := false) ?_ hw)
 unfold e9
 obtain ⟨a, c, hvf, _⟩ := hv.rd.form
 have hv2 := hv
 subst hvf
 have hlen := hv.len
 unfold BDo
 generalize hS : B3 (B6 m) = S at *
 simp only [B6, M4]
 (have zz:=trivial;repeat((first|clear zz|with_reducible first|refine A3 ?_|refine A5 fun _=>?_|refine A4 fun _=>?_);try simp(disch:=first|omega|assumption|((repeat(first|exact A1|exact uH|apply A2|apply uT));first|done|fail)|(simp;first|done|omega|fail))[]))
 refine C4 A4c (fun w' hw' => A6g w' (.slice a p.length c) p (by omega) (hv.at (by rw [hS]; exact hw'.ks))) ?_
 by_cases c1 : V2 p = 0
 ·have e : A1b m.st p = ({ m.st with pool := p }, ⟨0, 0, false, 0⟩) := if_pos c1
  rw [e]
  (have zz:=trivial;repeat((first|clear zz|with_reducible first|refine A3 ?_|refine A5 fun _=>?_|refine A4 fun _=>?_);try simp(disch:=first|omega|assumption|((repeat(first|exact A1|exact uH|apply A2|apply uT));first|done|fail)|(simp;first|done|omega|fail))[c1]))
  refine H2 G4 (fun w' hw' => A3d w' (.slice a p.length c) p.length (p.flatMap E1) (by omega) (H4 (k := 2) (fun _ => rfl) _) (A16 _) (hv.at (by rw [hS]; exact hw'.ks))) ?_
  rintro _ r rfl
  refine Y6 (e := 75) (k := 2) (v := r) (q := p.length) (xs := p.flatMap E1) (by (repeat constructor)) ?_
  rintro ra rc rfl
  (have zz:=trivial;repeat((first|clear zz|with_reducible first|refine A3 ?_|refine A5 fun _=>?_|refine A4 fun _=>?_);try simp(disch:=first|omega|assumption|((repeat(first|exact A1|exact uH|apply A2|apply uT));first|done|fail)|(simp;first|done|omega|fail))[]))
  refine H2 A5r (fun w' hw' => C0Q w' (.slice a p.length c) p hlen (hv.at (by rw [hS]; exact hw'.ks))) ?_
  rintro _ r rfl
  refine Y6 (e := 217) (k := 2) (v := r) (q := (G5 (F2 p)).length) (xs := (G5 (F2 p)).flatMap F8) (by (repeat constructor)) ?_
  rintro qa qc rfl
  (have zz:=trivial;repeat((first|clear zz|with_reducible first|refine A3 ?_|refine A5 fun _=>?_|refine A4 fun _=>?_);try simp(disch:=first|omega|assumption|((repeat(first|exact A1|exact uH|apply A2|apply uT));first|done|fail)|(simp;first|done|omega|fail))[]))
  rename_i bk
  refine C0u (b := m.b) (k := m.k) (c := m.c) (sv := m.sv) (d := #[.slice ra p.length rc, .slice qa (G5 (F2 p)).length qc]) (T2 := 92) (by simp only [M4]; (repeat' constructor)) (by simp) ?_
  simp only [M4]
  (have zz:=trivial;repeat((first|clear zz|with_reducible first|refine A3 ?_|refine A5 fun _=>?_|refine A4 fun _=>?_);try simp(disch:=first|omega|assumption|((repeat(first|exact A1|exact uH|apply A2|apply uT));first|done|fail)|(simp;first|done|omega|fail))[]))
  refine B8 { m with k := bk, pv := .slice ra p.length rc, rv := .slice qa (G5 (F2 p)).length qc, pool := p } ⟨by simp [AnsV.val], rfl, rfl⟩ ?_
  try simp only [B6, M4]
  (repeat' constructor)
 ·have e : A1b m.st p = (m.st, ⟨V2 p, 0, false, 0⟩) := if_neg c1
  rw [e]
  (have zz:=trivial;repeat((first|clear zz|with_reducible first|refine A3 ?_|refine A5 fun _=>?_|refine A4 fun _=>?_);try simp(disch:=first|omega|assumption|((repeat(first|exact A1|exact uH|apply A2|apply uT));first|done|fail)|(simp;first|done|omega|fail))[c1]))
  refine B8 m ⟨by simp [AnsV.val], rfl, rfl⟩ ?_
  try simp only [B6, M4]
  (repeat' constructor)
end Go.Proofs.YtpbmephflllolaaGreat
namespace Go.Proofs.YtpbmephflllolaaGreat
open Go
theorem B22 {ts : List ShB} {i : Nat} {t u : ShB} (h : ts[i]? = some t) (hb : u.b = t.b) : U4 (ts.set i u) = U4 ts := by
 obtain ⟨hi, rfl⟩ := List.getElem?_eq_some_iff.1 h
 simp only [U4, List.map_set, hb]
 apply List.ext_getElem?
 intro j
 by_cases hj : i = j
 ·subst hj; simp [hi]
 ·rw [List.getElem?_set_ne hj]
theorem C0l {ts : List ShB} {i : Nat} {t : ShB} (h : ts[i]? = some t) : (ts.map (F3 0))[i]? = some (F3 0 t) := by simp [h]
theorem A7a (v : Value) (t : ShB) : K7 v [t] = .own 93 1 v 1 [.pointer (some ⟨t.b, 0, none⟩)] := rfl
structure BaOk (c : CfgV) (m : BaH) : Prop where
 few : m.ts.length ≤ 16
 pos : 0 < m.ts.length
 sh : m.c.sh = m.ts.length
 cfg : m.c = c
 len : ∀ t ∈ m.ts, t.l.length ≤ 64
 keys : ∀ t ∈ m.ts, L6 t.l
 pool : m.pool.length ≤ 1000
theorem BaOk.of {c : CfgV} {m : BaH} (h : Inv c m.st) : BaOk c m := by
 have hb := A10 h.ok
 have hl : m.st.tabs.length = m.ts.length := by simp [BaH.st]
 have hsh := h.sh
 have hc : m.c = c := h.cfg
 have e : (MoH.mk 0 .nilIface .nilIface m.c m.pool (m.ts.map fun t : ShB => ((.nilIface, t.l), t.nx))).st = m.st := by simp [MoH.st, BaH.st]
 have h2 : Inv c (MoH.mk 0 .nilIface .nilIface m.c m.pool (m.ts.map fun t : ShB => ((.nilIface, t.l), t.nx))).st := by rw [e]; exact h
 have hp : m.pool.length ≤ 1000 := h2.ok2.pool
 refine ⟨by omega, by omega, by rw [hc]; omega, hc, fun t ht => ?_, fun t ht => ?_, hp⟩
 ·have := h.tab (t.l, t.nx) (List.mem_map.2 ⟨t, ht, rfl⟩); have h1 := this.len; have h2 := this.few; simp only at h1; omega
 ·exact (h.tab (t.l, t.nx) (List.mem_map.2 ⟨t, ht, rfl⟩)).keys
theorem B9V {X : Nat → Prop} {S : List Nat} {w0 : World} {H Hk : List Res} {K : Value → WP} {b k : Nat} {lk nx : Int} {tv pv rv : Value} {l : List EnV} {p : List F9} {key : ByteArray} {cl : Bool} {now idle : Int} (hk : key.size < 2 ^ 60) (hks : L6 l) (hn : l.length ≤ 1000000) (hl : p.length ≤ 1000)
  (hp : Part ([Y9 b lk tv nx, E3 tv l] ++ A42 k pv rv p) H Hk) (hK : ∀ r, TW false S w0 ([Y9 b lk r nx, E3 r (D6 l p key cl now idle).1] ++ (A42 k pv rv p ++ Hk)) (K (D6 l p key cl now idle).2.1.val)) :
  TW false S w0 H (B1 PR X 58 [.pointer (some ⟨b, 0, none⟩), .pointer (some ⟨k, 0, none⟩), .string key, .bool cl, .int .i64 now, .int .i64 idle] K) := by
 refine TW.perm (H' := [Y9 b lk tv nx, E3 tv l] ++ (A42 k pv rv p ++ Hk)) ?_ (by rw [← List.append_assoc]; exact hp.perm)
 refine D8 (Hc := [Y9 b lk tv nx, E3 tv l]) A1z (fun w' hw' hs => B6m w' b k lk nx tv pv rv l p key cl now idle hk hks hn
  (C0C (Hc := [Y9 b lk tv nx, E3 tv l]) (Hk := Hk) hw' (by rw [← List.append_assoc]; exact b8) hl) hs) b8 ?_
 rintro r _ rfl
 exact hK r
set_option maxHeartbeats 1000000 in
theorem A6W (w : World) (m : BaH) (pk : ByteArray) (now : Int) (c : CfgV) (hpk : pk.size < 2 ^ 40) (hm : BaOk c m) (hw : LW false (B3 (B6 m)) w (B6 m) w) :
  Fn PR B4 24 #[.pointer (some ⟨m.b, 0, none⟩), .string pk, .int .i64 now] w (BDo w m (U0 m.st pk now)) := by
 refine A0S (TW.goH (κ := false) ?_ hw)
 unfold P8
 unfold BDo
 have hlen := hm.few
 generalize hS : B3 (B6 m) = S at *
 simp only [B6, M4, K7]
 refine Y6 (e := 93) (k := 1) (v := m.sv) (q := m.ts.length) (xs := U4 m.ts) (by (repeat constructor)) ?_
 intro sa sc hsv
 rw [hsv]
 (have zz:=trivial;repeat((first|clear zz|with_reducible first|refine A3 ?_|refine A5 fun _=>?_|refine A4 fun _=>?_);try simp(disch:=first|omega|assumption|((repeat(first|exact A1|exact uH|apply A2|apply uT));first|done|fail)|(simp;first|done|omega|fail))[]))
 refine C4 A2a (fun w' hw' => A4S w' pk hpk) ?_
 by_cases c1 : (C8 pk).2.2 = 0
 case neg =>
  have e : U0 m.st pk now = (m.st, ⟨9, 0, false, 0⟩) := by unfold U0; simp only; rw [if_pos c1]
  rw [e]
  (have zz:=trivial;repeat((first|clear zz|with_reducible first|refine A3 ?_|refine A5 fun _=>?_|refine A4 fun _=>?_);try simp(disch:=first|omega|assumption|((repeat(first|exact A1|exact uH|apply A2|apply uT));first|done|fail)|(simp;first|done|omega|fail))[packet.val, N7, c1]))
  refine B8 m ⟨by simp [AnsV.val], rfl, rfl⟩ ?_
  try simp only [B6, M4, K7, hsv]
  (repeat' constructor)
 have hk := A6V (C8 pk).1
 (have zz:=trivial;repeat((first|clear zz|with_reducible first|refine A3 ?_|refine A5 fun _=>?_|refine A4 fun _=>?_);try simp(disch:=first|omega|assumption|((repeat(first|exact A1|exact uH|apply A2|apply uT));first|done|fail)|(simp;first|done|omega|fail))[packet.val, N7, c1]))
 refine C4 (u := A1U (C8 pk).1) A2l (fun w' hw' => B38 w' (C8 pk).1) ?_
 (have zz:=trivial;repeat((first|clear zz|with_reducible first|refine A3 ?_|refine A5 fun _=>?_|refine A4 fun _=>?_);try simp(disch:=first|omega|assumption|((repeat(first|exact A1|exact uH|apply A2|apply uT));first|done|fail)|(simp;first|done|omega|fail))[A1U]))
 rename_i b4 b6
 have hsh := hm.sh
 have hpos := hm.pos
 rw [show (if U8 (C8 pk).1 = true then A02 (C8 pk).1 else P2) = m0 (C8 pk).1 from rfl]
 generalize hkey : m0 (C8 pk).1 = key at *
 have e : U0 m.st pk now = ({ m.st with tabs := m.st.tabs.set (K6 key m.c.sh) ((D6 (m.st.tabs.getD (K6 key m.c.sh) ([], 0)).1 m.pool key (T1 (C8 pk).1 (C8 pk).2.1) now m.c.idle).1, (m.st.tabs.getD (K6 key m.c.sh) ([], 0)).2) },
   (D6 (m.st.tabs.getD (K6 key m.c.sh) ([], 0)).1 m.pool key (T1 (C8 pk).1 (C8 pk).2.1) now m.c.idle).2.1) := by
  unfold U0; simp only; rw [if_neg (by rw [c1]; simp), hkey]; rfl
 rw [e]
 refine C4 A3c (fun w' hw' => B3x w' key (m.ts.length : Nat) hk (by omega)) ?_
 rw [← hsh]
 have hlt : K6 key m.c.sh < m.ts.length := by
  unfold K6; rw [if_neg (by omega), hsh, Int.toNat_natCast]; exact Nat.mod_lt _ hpos
 generalize K6 key m.c.sh = i at *
 obtain ⟨t, hx⟩ : ∃ x, m.ts[i]? = some x := ⟨_, List.getElem?_eq_getElem hlt⟩
 have hxm := List.mem_of_getElem? hx
 have hgd : m.st.tabs.getD i ([], 0) = (t.l, t.nx) := by simp [BaH.st, List.getD_eq_getElem?_getD, hx]
 rw [hgd]
 simp only
 have hp := A33 hx
 refine p4 (e := 93) (k := 1) (v := .slice sa m.ts.length sc) (q := m.ts.length) (xs := U4 m.ts) (by (repeat constructor)) (by omega) ?_
 rintro g gc hg
 cases hg
 (have zz:=trivial;repeat((first|clear zz|with_reducible first|refine A3 ?_|refine A5 fun _=>?_|refine A4 fun _=>?_|refine D0 fun _=>?_|refine D5 (hK:=fun _=>?_)|refine D1 (hK:=fun _=>?_)|refine D2 (hK:=fun _=>?_)|refine D3 (hK:=fun _=>?_)|refine D4 (hK:=fun _=>?_));try simp(disch:=first|omega|assumption|((repeat(first|exact A1|exact uH|apply A2|apply uT));first|done|fail)|(simp;first|done|omega|fail))[hlt, hp]))
 rename_i gs
 refine A4u (f := G8) (i := i) (by (repeat' constructor)) (C0l hx) ?_
 simp only [G8, List.cons_append, List.nil_append]
 refine A7W (f := G8) (x := F3 0 t) (by simp only [G8]; (repeat' constructor)) ?_
 refine D8 (Hc := [.own 93 1 (.slice (some ⟨gs, 0, none⟩) 1 1) 1 [.pointer (some ⟨t.b, 0, none⟩)], G1 G8 [F3 0 t]]) j9 (fun w' _ hs => A6Y w' _ [t] (by simp) hs) (by (repeat' constructor)) ?_
 rintro bx _ rfl
 simp only [A7a, List.map_cons, List.map_nil, List.cons_append, List.nil_append]
 refine B6n ?_
 (have zz:=trivial;repeat((first|clear zz|with_reducible first|refine A3 ?_|refine A5 fun _=>?_|refine A4 fun _=>?_);try simp(disch:=first|omega|assumption|((repeat(first|exact A1|exact uH|apply A2|apply uT));first|done|fail)|(simp;first|done|omega|fail))[]))
 refine C4 M6 (fun w' hw' => B2Y w' m.b m.k _ _ _ (hw'.pt (by (repeat constructor))) rfl (hw'.pt (o := .cells #[m.pv, m.rv] 92 (0, 0)) (by (repeat constructor))) rfl) ?_
 (have zz:=trivial;repeat((first|clear zz|with_reducible first|refine A3 ?_|refine A5 fun _=>?_|refine A4 fun _=>?_);try simp(disch:=first|omega|assumption|((repeat(first|exact A1|exact uH|apply A2|apply uT));first|done|fail)|(simp;first|done|omega|fail))[]))
 rw [A2Z (by (repeat constructor)) (by rfl)]
 (have zz:=trivial;repeat((first|clear zz|with_reducible first|refine A3 ?_|refine A5 fun _=>?_|refine A4 fun _=>?_);try simp(disch:=first|omega|assumption|((repeat(first|exact A1|exact uH|apply A2|apply uT));first|done|fail)|(simp;first|done|omega|fail))[]))
 refine C4 S0 (fun w' _ => A5C w' (C8 pk).1 (C8 pk).2.1) ?_
 (have zz:=trivial;repeat((first|clear zz|with_reducible first|refine A3 ?_|refine A5 fun _=>?_|refine A4 fun _=>?_);try simp(disch:=first|omega|assumption|((repeat(first|exact A1|exact uH|apply A2|apply uT));first|done|fail)|(simp;first|done|omega|fail))[]))
 generalize T1 (C8 pk).1 (C8 pk).2.1 = cl at *
 refine A5J (f := G8) (x := F3 1 t) (by (repeat' constructor)) ?_
 simp only [G8, F3, List.cons_append, List.nil_append]
 have hkey2 := hm.keys _ hxm
 have hlen2 := hm.len _ hxm
 refine B9V (nx := (t.nx : Nat)) (tv := t.tv) (pv := m.pv) (rv := m.rv) (l := t.l) (p := m.pool) hk hkey2 (by omega) hm.pool (by simp only [A42, List.cons_append, List.nil_append]; (repeat' constructor)) fun r => ?_
 simp only [A42, List.cons_append, List.nil_append]
 (have zz:=trivial;repeat((first|clear zz|with_reducible first|refine A3 ?_|refine A5 fun _=>?_|refine A4 fun _=>?_);try simp(disch:=first|omega|assumption|((repeat(first|exact A1|exact uH|apply A2|apply uT));first|done|fail)|(simp;first|done|omega|fail))[AnsV.val]))
 refine A7W (f := G8) (x := F3 1 ⟨t.b, 1, r, (D6 t.l m.pool key cl now m.c.idle).1, t.nx⟩) (by simp only [G8, F3]; (repeat' constructor)) ?_
 refine B5v (Hc := [.pt bx (.cells #[.slice (some ⟨gs, 0, none⟩) 1 1] 86), .own 93 1 (.slice (some ⟨gs, 0, none⟩) 1 1) 1 [.pointer (some ⟨t.b, 0, none⟩)], G1 G8 [F3 1 ⟨t.b, 1, r, (D6 t.l m.pool key cl now m.c.idle).1, t.nx⟩]]) a6
  (fun w' _ hs => A7B w' bx _ [⟨t.b, 1, r, (D6 t.l m.pool key cl now m.c.idle).1, t.nx⟩] (by simp) hs) (by (repeat' constructor)) ?_
 rintro _ _ rfl
 simp only [A7a, List.map_cons, List.map_nil, List.cons_append, List.nil_append]
 refine A5J (f := G8) (x := F3 0 ⟨t.b, 1, r, (D6 t.l m.pool key cl now m.c.idle).1, t.nx⟩) (by (repeat' constructor)) ?_
 simp only [G8, List.cons_append, List.nil_append]
 refine A7K (f := G8) (y := F3 0 ⟨t.b, 1, r, (D6 t.l m.pool key cl now m.c.idle).1, t.nx⟩) (ls := m.ts.map (F3 0)) (i := i) (by simp only [G8, List.cons_append, List.nil_append]; (repeat' constructor)) (by simpa using hlt) ?_
 (have zz:=trivial;repeat((first|clear zz|with_reducible first|refine A3 ?_|refine A5 fun _=>?_|refine A4 fun _=>?_);try simp(disch:=first|omega|assumption|((repeat(first|exact A1|exact uH|apply A2|apply uT));first|done|fail)|(simp;first|done|omega|fail))[]))
 refine B8 { m with sv := .slice (some ⟨g, 0, none⟩) m.ts.length sc, ts := m.ts.set i ⟨t.b, 1, r, (D6 t.l m.pool key cl now m.c.idle).1, t.nx⟩ } ⟨by simp [AnsV.val], rfl, by simp [BaH.st, List.map_set]⟩ ?_
 simp only [B6, M4, K7, B22 hx, List.length_set, List.map_set]
 (repeat' constructor)
set_option maxHeartbeats 1000000 in
theorem A9u (w : World) (m : BaH) (j now : Int) (c : CfgV) (hm : BaOk c m) (hw : LW false (B3 (B6 m)) w (B6 m) w) :
  Fn PR B4 27 #[.pointer (some ⟨m.b, 0, none⟩), .int .i64 j, .int .i64 now] w (BDo w m (m8 m.st j now)) := by
 refine A1M (TW.goH (κ := false) ?_ hw)
 unfold Q9
 unfold BDo
 have hlen := hm.few
 have hstl : m.st.tabs.length = m.ts.length := by simp [BaH.st]
 generalize hS : B3 (B6 m) = S at *
 simp only [B6, M4, K7]
 refine Y6 (e := 93) (k := 1) (v := m.sv) (q := m.ts.length) (xs := U4 m.ts) (by (repeat constructor)) ?_
 intro sa sc hsv
 rw [hsv]
 by_cases c1 : j < 0
 ·have e : m8 m.st j now = (m.st, ⟨1, 0, false, 0⟩) := if_pos (Or.inl c1)
  rw [e]
  (have zz:=trivial;repeat((first|clear zz|with_reducible first|refine A3 ?_|refine A5 fun _=>?_|refine A4 fun _=>?_);try simp(disch:=first|omega|assumption|((repeat(first|exact A1|exact uH|apply A2|apply uT));first|done|fail)|(simp;first|done|omega|fail))[c1]))
  refine B8 m ⟨by simp [AnsV.val], rfl, rfl⟩ ?_
  simp only [B6, M4, K7, hsv]
  (repeat' constructor)
 by_cases c2 : (m.ts.length : Int) ≤ j
 ·have e : m8 m.st j now = (m.st, ⟨1, 0, false, 0⟩) := if_pos (Or.inr (by rw [hstl]; exact c2))
  rw [e]
  (have zz:=trivial;repeat((first|clear zz|with_reducible first|refine A3 ?_|refine A5 fun _=>?_|refine A4 fun _=>?_);try simp(disch:=first|omega|assumption|((repeat(first|exact A1|exact uH|apply A2|apply uT));first|done|fail)|(simp;first|done|omega|fail))[c1, c2]))
  refine B8 m ⟨by simp [AnsV.val], rfl, rfl⟩ ?_
  simp only [B6, M4, K7, hsv]
  (repeat' constructor)
 obtain ⟨i, hi⟩ : ∃ i : Nat, j = i := ⟨j.toNat, by omega⟩
 rw [hi] at c1 c2 ⊢
 have hlt : i < m.ts.length := by omega
 obtain ⟨t, hx⟩ : ∃ x, m.ts[i]? = some x := ⟨_, List.getElem?_eq_getElem hlt⟩
 have hxm := List.mem_of_getElem? hx
 have hgd : m.st.tabs.getD i ([], 0) = (t.l, t.nx) := by simp [BaH.st, List.getD_eq_getElem?_getD, hx]
 have e : m8 m.st i now = ({ m.st with tabs := m.st.tabs.set i ((F7 t.l t.nx 4 now).1, (F7 t.l t.nx 4 now).2.1) }, ⟨0, 0, false, ((F7 t.l t.nx 4 now).2.2 : Nat)⟩) := by
  unfold m8
  rw [if_neg (by rw [hstl]; omega)]
  simp only [Int.toNat_natCast, hgd]
 rw [e]
 have hp := A33 hx
 refine p4 (e := 93) (k := 1) (v := .slice sa m.ts.length sc) (q := m.ts.length) (xs := U4 m.ts) (by (repeat constructor)) (by omega) ?_
 rintro g gc hg
 cases hg
 have hi0 : ¬ ((i : Nat) : Int) < 0 := by omega
 (have zz:=trivial;repeat((first|clear zz|with_reducible first|refine A3 ?_|refine A5 fun _=>?_|refine A4 fun _=>?_|refine D0 fun _=>?_|refine D5 (hK:=fun _=>?_)|refine D1 (hK:=fun _=>?_)|refine D2 (hK:=fun _=>?_)|refine D3 (hK:=fun _=>?_)|refine D4 (hK:=fun _=>?_));try simp(disch:=first|omega|assumption|((repeat(first|exact A1|exact uH|apply A2|apply uT));first|done|fail)|(simp;first|done|omega|fail))[hi0, c2, hlt, hp]))
 rename_i gs
 refine A4u (f := G8) (i := i) (by (repeat' constructor)) (C0l hx) ?_
 simp only [G8, List.cons_append, List.nil_append]
 refine A7W (f := G8) (x := F3 0 t) (by simp only [G8]; (repeat' constructor)) ?_
 refine D8 (Hc := [.own 93 1 (.slice (some ⟨gs, 0, none⟩) 1 1) 1 [.pointer (some ⟨t.b, 0, none⟩)], G1 G8 [F3 0 t]]) j9 (fun w' _ hs => A6Y w' _ [t] (by simp) hs) (by (repeat' constructor)) ?_
 rintro bx _ rfl
 simp only [A7a, List.map_cons, List.map_nil, List.cons_append, List.nil_append]
 refine B6n ?_
 refine A5J (f := G8) (x := F3 1 t) (by (repeat' constructor)) ?_
 simp only [G8, F3, Y9, List.cons_append, List.nil_append]
 have hkey2 := hm.keys _ hxm
 have hlen2 := hm.len _ hxm
 (have zz:=trivial;repeat((first|clear zz|with_reducible first|refine A3 ?_|refine A5 fun _=>?_|refine A4 fun _=>?_);try simp(disch:=first|omega|assumption|((repeat(first|exact A1|exact uH|apply A2|apply uT));first|done|fail)|(simp;first|done|omega|fail))[]))
 refine H2 A4F (fun w' hw' => B4z w' t.tv t.l t.nx 4 now hkey2 (by omega) (L5.own (e := 160) (k := 4) (by (repeat constructor)) w' hw')) ?_
 rintro r _ rfl
 refine Y2 (e := 160) (k := 4) (v := r) (q := (F7 t.l t.nx 4 now).1.length) (xs := (F7 t.l t.nx 4 now).1.flatMap E5) (by (repeat constructor)) fun hr1 hr2 hr3 => ?_
 (have zz:=trivial;repeat((first|clear zz|with_reducible first|refine A3 ?_|refine A5 fun _=>?_|refine A4 fun _=>?_);try simp(disch:=first|omega|assumption|((repeat(first|exact A1|exact uH|apply A2|apply uT));first|done|fail)|(simp;first|done|omega|fail))[hr1]))
 refine A7W (f := G8) (x := F3 1 ⟨t.b, 1, r, (F7 t.l t.nx 4 now).1, (F7 t.l t.nx 4 now).2.1⟩) (by simp only [G8, F3, Y9]; (repeat' constructor)) ?_
 refine B5v (Hc := [.pt bx (.cells #[.slice (some ⟨gs, 0, none⟩) 1 1] 86), .own 93 1 (.slice (some ⟨gs, 0, none⟩) 1 1) 1 [.pointer (some ⟨t.b, 0, none⟩)], G1 G8 [F3 1 ⟨t.b, 1, r, (F7 t.l t.nx 4 now).1, (F7 t.l t.nx 4 now).2.1⟩]]) a6
  (fun w' _ hs => A7B w' bx _ [⟨t.b, 1, r, (F7 t.l t.nx 4 now).1, (F7 t.l t.nx 4 now).2.1⟩] (by simp) hs) (by (repeat' constructor)) ?_
 rintro _ _ rfl
 simp only [A7a, List.map_cons, List.map_nil, List.cons_append, List.nil_append]
 refine A5J (f := G8) (x := F3 0 ⟨t.b, 1, r, (F7 t.l t.nx 4 now).1, (F7 t.l t.nx 4 now).2.1⟩) (by (repeat' constructor)) ?_
 simp only [G8, List.cons_append, List.nil_append]
 refine A7K (f := G8) (y := F3 0 ⟨t.b, 1, r, (F7 t.l t.nx 4 now).1, (F7 t.l t.nx 4 now).2.1⟩) (ls := m.ts.map (F3 0)) (i := i) (by simp only [G8, List.cons_append, List.nil_append]; (repeat' constructor)) (by simpa using hlt) ?_
 (have zz:=trivial;repeat((first|clear zz|with_reducible first|refine A3 ?_|refine A5 fun _=>?_|refine A4 fun _=>?_);try simp(disch:=first|omega|assumption|((repeat(first|exact A1|exact uH|apply A2|apply uT));first|done|fail)|(simp;first|done|omega|fail))[]))
 refine B8 { m with sv := .slice (some ⟨g, 0, none⟩) m.ts.length sc, ts := m.ts.set i ⟨t.b, 1, r, (F7 t.l t.nx 4 now).1, (F7 t.l t.nx 4 now).2.1⟩ } ⟨by simp [AnsV.val], rfl, by simp [BaH.st, List.map_set]⟩ ?_
 simp only [B6, M4, K7, B22 hx, List.length_set, List.map_set]
 (repeat' constructor)
end Go.Proofs.YtpbmephflllolaaGreat
namespace Go.Proofs.YtpbmephflllolaaGreat
open Go
theorem A6x (l : List EnV) : (A0K l).length = M7 l 1 := by
 have : ∀ (m : List EnV) (i : Nat), (N9 i m).length = M7 m 1 := by
  intro m
  induction m with
  | nil => intro i; simp [N9, M7]
  | cons x m ih =>
   intro i
   have h := ih (i + 1)
   by_cases c : x.st = 1
   ·simp [N9, M7, c, h]
   ·simp [N9, M7, c, h]
 simp only [A0K, List.length_map, G2, this]
def N3 (tabs : List (List EnV × Nat)) : List ByteArray := tabs.flatMap fun t => A0K t.1
theorem B1C (tabs : List (List EnV × Nat)) : (N3 tabs).length = p3 tabs := by
 unfold N3 p3
 induction tabs with
 | nil => rfl
 | cons t tabs ih => rw [List.flatMap_cons, List.length_append, ih, A6x]; simp
theorem B9P {tabs : List (List EnV × Nat)} (h : ∀ t ∈ tabs, t.1.length ≤ 64) : (N3 tabs).length ≤ tabs.length * 64 := by
 unfold N3
 induction tabs with
 | nil => simp
 | cons t tabs ih =>
  have h1 := ih fun t ht => h t (by simp [ht])
  have h2 := h t (by simp)
  have h3 : (A0K t.1).length ≤ t.1.length := by rw [A6x]; exact List.countP_le_length
  rw [List.flatMap_cons, List.length_append, List.length_cons]; omega
set_option maxHeartbeats 1000000 in
theorem B3N (w : World) (m : BaH) (c : CfgV) (hm : BaOk c m) (hw : LW false (B3 (B6 m)) w (B6 m) w) :
  Fn PR B4 16 #[.pointer (some ⟨m.b, 0, none⟩)] w (Rn (B3 (B6 m)) w (fun (r : Value) u => u = r) fun r => .own 9 1 r (N3 m.st.tabs).length ((N3 m.st.tabs).map Value.string) :: B6 m) := by
 refine A19 (TW.goH (κ := false) ?_ hw)
 unfold T9
 have hlen := hm.few
 obtain ⟨tb, htb⟩ : ∃ tb, tb = m.st.tabs := ⟨_, rfl⟩
 have htl : tb.length = m.ts.length := by rw [htb]; simp [BaH.st]
 have hall : ∀ t ∈ tb, t.1.length ≤ 64 := fun t ht => by
  rw [htb] at ht
  obtain ⟨x, hx, rfl⟩ := List.mem_map.1 ht; exact hm.len x hx
 rw [← htb]
 generalize hS : B3 (B6 m) = S at *
 simp only [B6, M4, K7]
 refine Y6 (e := 93) (k := 1) (v := m.sv) (q := m.ts.length) (xs := U4 m.ts) (by (repeat constructor)) ?_
 intro sa sc hsv
 rw [hsv]
 (have zz:=trivial;repeat((first|clear zz|with_reducible first|refine A3 ?_|refine A5 fun _=>?_|refine A4 fun _=>?_);try simp(disch:=first|omega|assumption|((repeat(first|exact A1|exact uH|apply A2|apply uT));first|done|fail)|(simp;first|done|omega|fail))[]))
 refine D8 (Hc := [K7 (.slice sa m.ts.length sc) m.ts, G1 G8 (m.ts.map (F3 0))]) j9 (fun w' _ hs => A6Y w' _ m.ts (by omega) hs) (by simp only [K7]; (repeat' constructor)) ?_
 rintro bx _ rfl
 simp only [K7, List.cons_append, List.nil_append]
 refine B6n ?_
 refine n5 9 1 ?_
 (have zz:=trivial;repeat((first|clear zz|with_reducible first|refine A3 ?_|refine A5 fun _=>?_|refine A4 fun _=>?_);try simp(disch:=first|omega|assumption|((repeat(first|exact A1|exact uH|apply A2|apply uT));first|done|fail)|(simp;first|done|omega|fail))[]))
 refine Sels.tw (rs := [.own 9 1 (.slice none 0 0) 0 [], .pt bx (.cells #[.slice sa m.ts.length sc] 86), .own 93 1 (.slice sa m.ts.length sc) m.ts.length (U4 m.ts), G1 G8 (m.ts.map (F3 1)), .pt m.b (.cells #[.int .i64 m.c.wk, .int .i64 m.c.sh, .int .i64 m.c.cp, .int .i64 m.c.idle, .int .i64 m.c.sl, .pointer (some ⟨m.k, 0, none⟩), .slice sa m.ts.length sc] 88 (0, 0)),
  .pt m.k (.cells #[m.pv, m.rv] 92 (0, 0)), .own 75 2 m.pv m.pool.length (m.pool.flatMap E1), .own 217 2 m.rv (G5 (F2 m.pool)).length ((G5 (F2 m.pool)).flatMap F8)]) (by (repeat' constructor)) ?_
 refine n0 (α := Option Addr × Nat) m.ts.length (fun i x => .slice x.1 (N3 (tb.take i)).length x.2) (fun i x => [.own 9 1 (.slice x.1 (N3 (tb.take i)).length x.2) (N3 (tb.take i)).length ((N3 (tb.take i)).map Value.string), .pt bx (.cells #[.slice sa m.ts.length sc] 86), .own 93 1 (.slice sa m.ts.length sc) m.ts.length (U4 m.ts), G1 G8 (m.ts.map (F3 1)), .pt m.b (.cells #[.int .i64 m.c.wk, .int .i64 m.c.sh, .int .i64 m.c.cp, .int .i64 m.c.idle, .int .i64 m.c.sl, .pointer (some ⟨m.k, 0, none⟩), .slice sa m.ts.length sc] 88 (0, 0)),
  .pt m.k (.cells #[m.pv, m.rv] 92 (0, 0)), .own 75 2 m.pv m.pool.length (m.pool.flatMap E1), .own 217 2 m.rv (G5 (F2 m.pool)).length ((G5 (F2 m.pool)).flatMap F8)]) (fun _ _ => True) (none, 0) trivial ?_
 rintro i ⟨xa, xc⟩ hi _ L hL
 have hsum : (N3 (tb.take i)).length ≤ 1024 := by
  have h1 := B9P (tabs := tb.take i) fun t ht => hall t (List.mem_of_mem_take ht)
  have h2 : (tb.take i).length ≤ 16 := by rw [List.length_take]; omega
  omega
 by_cases hlt : i < m.ts.length
 ·have hx := List.getElem?_eq_getElem hlt
  have hp := A33 hx
  have hxm := List.getElem_mem hlt
  have hlk : (m.ts.map (F3 1))[i]? = some (F3 1 m.ts[i]) := by simp [hlt]
  have hst : N3 (tb.take (i + 1)) = N3 (tb.take i) ++ A0K (m.ts[i]).l := by
   have hx2 : tb[i]? = some ((m.ts[i]).l, (m.ts[i]).nx) := by rw [htb]; simp [BaH.st, hlt]
   rw [List.take_add_one, hx2]; simp [N3, List.flatMap_append]
  simp only [hst] at hL
  have hl64 := hm.len _ hxm
  have hkl : (A0K (m.ts[i]).l).length ≤ 64 := by rw [A6x]; exact Nat.le_trans List.countP_le_length hl64
  generalize m.ts[i] = t at *
  refine p4 (e := 93) (k := 1) (v := .slice sa m.ts.length sc) (q := m.ts.length) (xs := U4 m.ts) (by (repeat constructor)) (by omega) ?_
  rintro g gc hg
  cases hg
  refine A4u (f := G8) (i := i) (ls := m.ts.map (F3 1)) (by (repeat' constructor)) hlk ?_
  simp only [G8, F3, Y9, List.cons_append, List.nil_append]
  (have zz:=trivial;repeat((first|clear zz|with_reducible first|refine A3 ?_|refine A5 fun _=>?_|refine A4 fun _=>?_);try simp(disch:=first|omega|assumption|((repeat(first|exact A1|exact uH|apply A2|apply uT));first|done|fail)|(simp;first|done|omega|fail))[hlt, hp]))
  refine H2 B0p (fun w' hw' => C1A w' t.tv t.l (by omega) (L5.own (e := 160) (k := 4) (by (repeat constructor)) w' hw')) ?_
  rintro _ r rfl
  refine A00 (e := 9) (k := 1) (q := (N3 (tb.take i)).length) (r := (A0K t.l).length) (xs := (N3 (tb.take i)).map Value.string) (news := (A0K t.l).map Value.string) (by (repeat constructor)) (L5.own (by (repeat constructor))) (by decide) (by simp) (by simp [List.all_map, Function.comp_def]) (by simp only [maxLen]; omega) (by omega) fun a' c' => ?_
  refine A7K (f := G8) (y := F3 1 t) (ls := m.ts.map (F3 1)) (i := i) (by simp only [G8, F3, Y9, List.cons_append, List.nil_append]; (repeat' constructor)) (by simpa using hlt) ?_
  have hsame : (m.ts.map (F3 1)).set i (F3 1 t) = m.ts.map (F3 1) := by
   obtain ⟨h1, h2⟩ := List.getElem?_eq_some_iff.1 hlk
   rw [← h2]; exact List.set_getElem_self h1
  rw [hsame]
  (have zz:=trivial;repeat((first|clear zz|with_reducible first|refine A3 ?_|refine A5 fun _=>?_|refine A4 fun _=>?_);try simp(disch:=first|omega|assumption|((repeat(first|exact A1|exact uH|apply A2|apply uT));first|done|fail)|(simp;first|done|omega|fail))[]))
  have h := hL hlt (a', c') trivial
  simp only [List.length_append, List.map_append] at h
  exact Sels.tw (by (repeat' constructor)) h
 ·obtain rfl : i = m.ts.length := by omega
  rw [← htl, List.take_length]
  (have zz:=trivial;repeat((first|clear zz|with_reducible first|refine A3 ?_|refine A5 fun _=>?_|refine A4 fun _=>?_);try simp(disch:=first|omega|assumption|((repeat(first|exact A1|exact uH|apply A2|apply uT));first|done|fail)|(simp;first|done|omega|fail))[]))
  rw [htl]
  refine B5v (Hc := [.pt bx (.cells #[.slice sa m.ts.length sc] 86), K7 (.slice sa m.ts.length sc) m.ts, G1 G8 (m.ts.map (F3 1))]) a6
   (fun w' _ hs => A7B w' bx _ m.ts (by omega) hs) (by simp only [K7]; (repeat' constructor)) ?_
  rintro _ _ rfl
  simp only [K7, List.cons_append, List.nil_append]
  refine B8 (.slice xa (N3 tb).length xc) rfl ?_
  try simp only [B6, M4, K7, hsv]
  (repeat' constructor)
end Go.Proofs.YtpbmephflllolaaGreat
namespace Go.Proofs.YtpbmephflllolaaGreat
open Go
end Go.Proofs.YtpbmephflllolaaGreat
namespace Go.Proofs.YtpbmephflllolaaGreat
open Go
end Go.Proofs.YtpbmephflllolaaGreat
namespace Go.Proofs.YtpbmephflllolaaGreat
open Go
end Go.Proofs.YtpbmephflllolaaGreat
namespace Go.Proofs.YtpbmephflllolaaGreat
open Go
end Go.Proofs.YtpbmephflllolaaGreat
namespace Go.Proofs.YtpbmephflllolaaGreat
open Go
end Go.Proofs.YtpbmephflllolaaGreat
namespace Go.Proofs.YtpbmephflllolaaGreat
open Go
end Go.Proofs.YtpbmephflllolaaGreat
namespace Go.Proofs.YtpbmephflllolaaGreat
open Go
end Go.Proofs.YtpbmephflllolaaGreat
namespace Go.Proofs.YtpbmephflllolaaGreat
open Go
end Go.Proofs.YtpbmephflllolaaGreat
namespace Go.Proofs.YtpbmephflllolaaGreat
open Go
end Go.Proofs.YtpbmephflllolaaGreat
namespace Go.Proofs.YtpbmephflllolaaGreat
open Go
end Go.Proofs.YtpbmephflllolaaGreat
namespace Go.Proofs.YtpbmephflllolaaGreat
open Go
end Go.Proofs.YtpbmephflllolaaGreat
namespace Go.Proofs.YtpbmephflllolaaGreat
open Go
section
variable {κ : Bool} {X : Nat → Prop} {S : List Nat} {w0 : World} {H H' Hk : List Res} {K : Value → WP} {K0 : WP}
end
end Go.Proofs.YtpbmephflllolaaGreat
namespace Go.Proofs.YtpbmephflllolaaGreat
open Go
theorem L5.mono {κ : Bool} {S : List Nat} {w0 : World} {H H' : List Res} {v : Value} {n : Nat} {xs : List Value} (h : L5 κ S w0 H v n xs) (hs : H.Sublist H') : L5 κ S w0 H' v n xs := fun w hw => h w (hw.sub hs)
def RdC (w : World) (v : Value) (l : List (Nat × Int)) : Prop := F5 w v l.length (l.flatMap F8) ∧ ∃ a c, v = .slice a l.length c ∧ l.length ≤ c
theorem RdC.ks {w w' : World} {v : Value} {l : List (Nat × Int)} (h : RdC w v l) (hk : KS false [] w w') : RdC w' v l := ⟨h.1.ks hk (by simp), h.2⟩
end Go.Proofs.YtpbmephflllolaaGreat
namespace Go.Proofs.YtpbmephflllolaaGreat
open Go
end Go.Proofs.YtpbmephflllolaaGreat
namespace Go.Proofs.YtpbmephflllolaaGreat
open Go
end Go.Proofs.YtpbmephflllolaaGreat
namespace Go.Proofs.YtpbmephflllolaaGreat
open Go
end Go.Proofs.YtpbmephflllolaaGreat
namespace Go.Proofs.YtpbmephflllolaaGreat
open Go
end Go.Proofs.YtpbmephflllolaaGreat
namespace Go.Proofs.YtpbmephflllolaaGreat
open Go
end Go.Proofs.YtpbmephflllolaaGreat
namespace Go.Proofs.YtpbmephflllolaaGreat
open Go
end Go.Proofs.YtpbmephflllolaaGreat
namespace Go.Proofs.YtpbmephflllolaaGreat
open Go
end Go.Proofs.YtpbmephflllolaaGreat
namespace Go.Proofs.YtpbmephflllolaaGreat
open Go
end Go.Proofs.YtpbmephflllolaaGreat
namespace Go.Proofs.YtpbmephflllolaaGreat
open Go
end Go.Proofs.YtpbmephflllolaaGreat
namespace Go.Proofs.YtpbmephflllolaaGreat
open Go
end Go.Proofs.YtpbmephflllolaaGreat
namespace Go.Proofs.YtpbmephflllolaaGreat
open Go
end Go.Proofs.YtpbmephflllolaaGreat
namespace Go.Proofs.YtpbmephflllolaaGreat
open Go
end Go.Proofs.YtpbmephflllolaaGreat
namespace Go.Proofs.YtpbmephflllolaaGreat
open Go
theorem L5.slice {κ : Bool} {S : List Nat} {w0 : World} {H : List Res} {v : Value} {n : Nat} {xs : List Value} {K0 : WP} (h : L5 κ S w0 H v n xs) (hK : ∀ a c, v = .slice a n c → TW κ S w0 H K0) : TW κ S w0 H K0 := fun w hw => by
 obtain ⟨a, c, e, _⟩ := (h w hw).form
 exact hK a c e w hw
end Go.Proofs.YtpbmephflllolaaGreat
namespace Go.Proofs.YtpbmephflllolaaGreat
open Go
structure RmH where
 pv : Value
 tv : Value
 lv : Value
 c : CfgV
 pool : List F9
 ts : List (Value × List EnV)
 pl : List Nat
def RmH.cs (r : RmH) : Array Value := #[.int .i64 r.c.wk, .int .i64 r.c.sh, .int .i64 r.c.cp, .int .i64 r.c.idle, .int .i64 r.c.sl, r.pv, r.tv, r.lv]
end Go.Proofs.YtpbmephflllolaaGreat
namespace Go.Proofs.YtpbmephflllolaaGreat
open Go
def RmH.val (r : RmH) : Value := .agg r.cs
def RmH.st (r : RmH) : MoS := ⟨r.c, r.pool, (r.ts.map (·.2)).zip r.pl⟩
section
variable (w : World) (r : RmH) (o : OpV) (v : Value) (now : Int)
end
end Go.Proofs.YtpbmephflllolaaGreat
namespace Go.Proofs.YtpbmephflllolaaGreat
open Go
end Go.Proofs.YtpbmephflllolaaGreat
namespace Go.Proofs.YtpbmephflllolaaGreat
open Go
section
variable {w0 : World} {H Hk : List Res} {K : Value → WP} {K0 : WP}
end
structure RmS where
 pa : Option Addr
 pc : Nat
 ta : Option Addr
 tc : Nat
 la : Option Addr
 lc : Nat
 pool : List F9
 ts : List (Value × List EnV)
 pl : List Nat
def RmS.cs (c : CfgV) (x : RmS) : Array Value := #[.int .i64 c.wk, .int .i64 c.sh, .int .i64 c.cp, .int .i64 c.idle, .int .i64 c.sl, .slice x.pa x.pool.length x.pc, .slice x.ta x.ts.length x.tc, .slice x.la x.pl.length x.lc]
end Go.Proofs.YtpbmephflllolaaGreat
namespace Go.Proofs.YtpbmephflllolaaGreat
open Go
end Go.Proofs.YtpbmephflllolaaGreat
namespace Go.Proofs.YtpbmephflllolaaGreat
open Go
theorem B06 (w : World) (m : BaH) (c : CfgV) (hm : BaOk c m) (hw : LW false (B3 (B6 m)) w (B6 m) w) :
  Fn PR B4 20 #[.pointer (some ⟨m.b, 0, none⟩)] w (BDo w m (u3 m.st)) := by
 refine A1d (TW.goH (κ := false) ?_ hw)
 unfold j0
 unfold BDo
 generalize hS : B3 (B6 m) = S at *
 (have zz:=trivial;repeat((first|clear zz|with_reducible first|refine A3 ?_|refine A5 fun _=>?_|refine A4 fun _=>?_);try simp(disch:=first|omega|assumption|((repeat(first|exact A1|exact uH|apply A2|apply uT));first|done|fail)|(simp;first|done|omega|fail))[]))
 refine D8 (Hc := B6 m) j3 (fun w' _ hs => B3N w' m c hm hs) (by simp only [B6]; (repeat' constructor)) ?_
 rintro _ r rfl
 simp only [B6, M4, K7, List.cons_append, List.nil_append]
 refine Y6 (e := 9) (k := 1) (v := r) (q := (N3 m.st.tabs).length) (xs := (N3 m.st.tabs).map Value.string) (by (repeat constructor)) ?_
 rintro ra rc rfl
 (have zz:=trivial;repeat((first|clear zz|with_reducible first|refine A3 ?_|refine A5 fun _=>?_|refine A4 fun _=>?_);try simp(disch:=first|omega|assumption|((repeat(first|exact A1|exact uH|apply A2|apply uT));first|done|fail)|(simp;first|done|omega|fail))[]))
 refine B8 m ⟨by simp [AnsV.val, u3, B1C], rfl, rfl⟩ ?_
 try simp only [B6, M4, K7]
 (repeat' constructor)
theorem B8x {X : Nat → Prop} {κ : Bool} {S : List Nat} {w0 : World} {H Hk : List Res} {K : Value → WP} {b k' : Nat} {c0 c1 c2 c3 c4 c5 c6 : Value} {T : TypeId} {d : Array Value} {T2 : TypeId} (hp : Part [.pt b (.cells #[c0, c1, c2, c3, c4, c5, c6] T (0, 0)), .pt k' (.cells d T2 (0, 0))] H Hk) (hd : 0 < d.size)
  (hK : TW κ S w0 (.pt b (.cells #[c0, c1, c2, c3, c4, .pointer (some ⟨k', 0, none⟩), c6] T (0, 0)) :: .pt k' (.cells d T2 (0, 0)) :: Hk) (K (.tuple #[]))) : TW κ S w0 H (B1 PR X 36 [.pointer (some ⟨b, 5, none⟩), .pointer (some ⟨k', 0, none⟩)] K) := by
 refine TW.perm ?_ hp.perm
 refine D8 (Hc := [.pt b (.cells #[c0, c1, c2, c3, c4, c5, c6] T (0, 0))]) (Hk := .pt k' (.cells d T2 (0, 0)) :: Hk) M2 (fun w' hw' hs => B1A w' b k' _ _ _ _ _ _ _ _ d T2 hd hs (hw'.hold (.pt k' (.cells d T2 (0, 0))) (by simp)).1 (fun e => ?_)) (Part.cons Sel.here Part.nil) ?_
 ·have := (List.pairwise_cons.1 hw'.dis).1 (.pt k' (.cells d T2 (0, 0))) (by simp) b (by simp [Res.foot])
  exact this (by simp [Res.foot, e])
 ·rintro _ _ rfl
  exact hK
set_option maxHeartbeats 1000000 in
theorem C0w (w : World) (c : CfgV) : Fn PR B4 10 #[c.val] w (Rn [] w (fun (m : BaH) u => if N8 c then u = .tuple #[.pointer (some ⟨m.b, 0, none⟩), .int .i64 0] ∧ m.st = ⟨c, [], s7 c⟩ else u = .tuple #[.pointer none, .int .i64 1])
  fun m => if N8 c then B6 m else []) := by
 refine A9r (TW.go (κ := false) (S := []) ?_)
 unfold A3G
 simp only [CfgV.val]
 (have zz:=trivial;repeat((first|clear zz|with_reducible first|refine A3 ?_|refine A5 fun _=>?_|refine A4 fun _=>?_);try simp(disch:=first|omega|assumption|((repeat(first|exact A1|exact uH|apply A2|apply uT));first|done|fail)|(simp;first|done|omega|fail))[]))
 rename_i bc
 refine C4 A3a (fun w' _ => B1W w' c) ?_
 cases hok : N8 c with
 | false =>
  (have zz:=trivial;repeat((first|clear zz|with_reducible first|refine A3 ?_|refine A5 fun _=>?_|refine A4 fun _=>?_);try simp(disch:=first|omega|assumption|((repeat(first|exact A1|exact uH|apply A2|apply uT));first|done|fail)|(simp;first|done|omega|fail))[]))
  exact B8 ⟨0, 0, .nilIface, .nilIface, .nilIface, c, [], []⟩ (by simp) Sels.nil
 | true =>
  have hb : 1 ≤ c.sh ∧ c.sh ≤ 16 ∧ 1 ≤ c.cp ∧ c.cp ≤ 64 := by
   simp [N8, j2] at hok; omega
  obtain ⟨n, hn⟩ : ∃ n : Nat, c.sh = n := ⟨c.sh.toNat, by omega⟩
  obtain ⟨k, hk⟩ : ∃ k : Nat, c.cp = k := ⟨c.cp.toNat, by omega⟩
  rw [hn] at hb
  rw [hk] at hb
  (have zz:=trivial;repeat((first|clear zz|with_reducible first|refine A3 ?_|refine A5 fun _=>?_|refine A4 fun _=>?_);try simp(disch:=first|omega|assumption|((repeat(first|exact A1|exact uH|apply A2|apply uT));first|done|fail)|(simp;first|done|omega|fail))[hn, hk]))
  rename_i bb bk
  refine B8x (b := bb) (k' := bk) (d := #[.slice none 0 0, .slice none 0 0]) (by (repeat' constructor)) (by simp) ?_
  refine n5 93 1 ?_
  refine C2A (f := G8) ?_
  (have zz:=trivial;repeat((first|clear zz|with_reducible first|refine A3 ?_|refine A5 fun _=>?_|refine A4 fun _=>?_);try simp(disch:=first|omega|assumption|((repeat(first|exact A1|exact uH|apply A2|apply uT));first|done|fail)|(simp;first|done|omega|fail))[hn, hk]))
  refine Sels.tw (rs := [.own 93 1 (.slice none 0 0) 0 [], .pt bb (.cells #[.int .i64 c.wk, .int .i64 n, .int .i64 k, .int .i64 c.idle, .int .i64 c.sl, .pointer (some ⟨bk, 0, none⟩), .slice none 0 0] 88), G1 G8 [], .pt bk (.cells #[.slice none 0 0, .slice none 0 0] 92),
   .pt bc (.cells #[.int .i64 c.wk, .int .i64 n, .int .i64 k, .int .i64 c.idle, .int .i64 c.sl] 23)]) (by (repeat' constructor)) ?_
  refine B0Y n (fun i (x : List ShB × Option Addr × Nat) => [.own 93 1 (.slice x.2.1 i x.2.2) i (U4 x.1), .pt bb (.cells #[.int .i64 c.wk, .int .i64 n, .int .i64 k, .int .i64 c.idle, .int .i64 c.sl, .pointer (some ⟨bk, 0, none⟩), .slice x.2.1 i x.2.2] 88), G1 G8 x.1, .pt bk (.cells #[.slice none 0 0, .slice none 0 0] 92),
   .pt bc (.cells #[.int .i64 c.wk, .int .i64 n, .int .i64 k, .int .i64 c.idle, .int .i64 c.sl] 23)]) (fun i x => x.1.length = i ∧ x.1.map (F3 0) = x.1 ∧ x.1.map (fun t => (t.l, t.nx)) = List.replicate i (newE k, 0)) ([], none, 0) ⟨rfl, rfl, rfl⟩ ?_
  rintro i ⟨ts, xa, xc⟩ hi ⟨hlen, hlk, hmap⟩ L hL
  simp only at hlen hlk hmap hL ⊢
  by_cases hlt : i < n
  ·(have zz:=trivial;repeat((first|clear zz|with_reducible first|refine A3 ?_|refine A5 fun _=>?_|refine A4 fun _=>?_);try simp(disch:=first|omega|assumption|((repeat(first|exact A1|exact uH|apply A2|apply uT));first|done|fail)|(simp;first|done|omega|fail))[hlt]))
   refine H2 A1j (fun w' _ => A32 w' k (by omega)) ?_
   rintro _ r rfl
   refine Y2 (e := 160) (k := 4) (v := r) (q := (newE k).length) (xs := (newE k).flatMap E5) (by (repeat constructor)) fun hr1 hr2 hr3 => ?_
   have hr4 : r.cells.toList = [r] := by rw [hr1]
   (have zz:=trivial;repeat((first|clear zz|with_reducible first|refine A3 ?_|refine A5 fun _=>?_|refine A4 fun _=>?_|refine D0 fun _=>?_|refine D5 (hK:=fun _=>?_)|refine D1 (hK:=fun _=>?_)|refine D2 (hK:=fun _=>?_)|refine D3 (hK:=fun _=>?_)|refine D4 (hK:=fun _=>?_));try simp(disch:=first|omega|assumption|((repeat(first|exact A1|exact uH|apply A2|apply uT));first|done|fail)|(simp;first|done|omega|fail))[hlt, hr1]))
   rename_i bs gs
   refine A00 (e := 93) (k := 1) (q := i) (r := 1) (xs := U4 ts) (news := [.pointer (some ⟨bs, 0, none⟩)]) (by (repeat constructor)) (L5.own (by (repeat constructor))) (by decide) (by simp) (by simp) (by simp only [maxLen]; omega) (by omega) fun a' c' => ?_
   (have zz:=trivial;repeat((first|clear zz|with_reducible first|refine A3 ?_|refine A5 fun _=>?_|refine A4 fun _=>?_);try simp(disch:=first|omega|assumption|((repeat(first|exact A1|exact uH|apply A2|apply uT));first|done|fail)|(simp;first|done|omega|fail))[hlt]))
   refine C1W (f := G8) (y := ⟨bs, 0, r, newE k, 0⟩) (ls := ts) (by simp only [G8, Y9, List.cons_append, List.nil_append]; (repeat' constructor)) ?_
   refine Sels.tw ?_ (hL hlt (ts ++ [⟨bs, 0, r, newE k, 0⟩], a', c') ⟨by simp [hlen], by rw [List.map_append, hlk]; rfl, by rw [List.map_append, hmap, List.replicate_succ']; rfl⟩)
   simp only [U4, List.map_append, List.map_cons, List.map_nil, B85]
   (repeat' constructor)
  ·obtain rfl : i = n := by omega
   (have zz:=trivial;repeat((first|clear zz|with_reducible first|refine A3 ?_|refine A5 fun _=>?_|refine A4 fun _=>?_);try simp(disch:=first|omega|assumption|((repeat(first|exact A1|exact uH|apply A2|apply uT));first|done|fail)|(simp;first|done|omega|fail))[]))
   refine n5 75 2 ?_
   refine n5 217 2 ?_
   refine B8 ⟨bb, bk, .slice none 0 0, .slice none 0 0, .slice xa i xc, c, [], ts⟩ ⟨rfl, ?_⟩ ?_
   ·simp only [BaH.st, hmap, s7, hn, hk, Int.toNat_natCast]
   ·have hs0 : G5 (F2 []) = [] := List.length_eq_zero_iff.1 (by rw [Y3]; rfl)
    simp only [B6, M4, K7, hn, hk, hlen, hlk, hs0, List.length_nil, List.flatMap_nil]
    (repeat' constructor)
theorem C2G (w : World) (m : BaH) (o : OpV) (v : Value) (now : Int) (c : CfgV) (hv : PoolBt w m v o.pool) (hpk : o.packet.size < 2 ^ 40) (hm : BaOk c m) (hw : LW false (B3 (B6 m)) w (B6 m) w) :
  Fn PR B4 13 #[.pointer (some ⟨m.b, 0, none⟩), o.val v, .int .i64 now] w (BDo w m (V3 m.st o now)) := by
 refine A25 (TW.goH (κ := false) (S := B3 (B6 m)) ?_ hw)
 unfold q6
 simp only [OpV.val]
 unfold BDo
 generalize hS : B3 (B6 m) = S at *
 have hc1 : v.cells.size = 1 := by rw [hv.form.1]; rfl
 by_cases k0 : o.kind = 0
 ·rw [B0q _ _ _ k0]
  (have zz:=trivial;repeat((first|clear zz|with_reducible first|refine A3 ?_|refine A5 fun _=>?_|refine A4 fun _=>?_);try simp(disch:=first|omega|assumption|((repeat(first|exact A1|exact uH|apply A2|apply uT));first|done|fail)|(simp;first|done|omega|fail))[k0]))
  refine D8 (Hc := B6 m) Y0 (fun w' hw' hs => A6W w' m o.packet now c hpk hm hs) (by simp only [B6]; (repeat' constructor)) ?_
  rintro m' _ ⟨rfl, hb, hst⟩
  simp only [B6, M4, K7, List.cons_append, List.nil_append]
  (have zz:=trivial;repeat((first|clear zz|with_reducible first|refine A3 ?_|refine A5 fun _=>?_|refine A4 fun _=>?_);try simp(disch:=first|omega|assumption|((repeat(first|exact A1|exact uH|apply A2|apply uT));first|done|fail)|(simp;first|done|omega|fail))[AnsV.val]))
  refine B8 m' ⟨by simp [AnsV.val], hb, hst⟩ ?_
  simp only [B6, M4, K7]
  (repeat' constructor)
 by_cases k1 : o.kind = 1
 ·rw [B2d _ _ _ k1]
  (have zz:=trivial;repeat((first|clear zz|with_reducible first|refine A3 ?_|refine A5 fun _=>?_|refine A4 fun _=>?_);try simp(disch:=first|omega|assumption|((repeat(first|exact A1|exact uH|apply A2|apply uT));first|done|fail)|(simp;first|done|omega|fail))[k0, k1]))
  refine D8 (Hc := B6 m) d7 (fun w' hw' hs => A9p w' m o.pool v ⟨hv.at (by rw [hS]; exact hw'.ks), hv.off, hv.len, hv.form⟩ hs) (by simp only [B6]; (repeat' constructor)) ?_
  rintro m' _ ⟨rfl, hb, hst⟩
  simp only [B6, M4, K7, List.cons_append, List.nil_append]
  (have zz:=trivial;repeat((first|clear zz|with_reducible first|refine A3 ?_|refine A5 fun _=>?_|refine A4 fun _=>?_);try simp(disch:=first|omega|assumption|((repeat(first|exact A1|exact uH|apply A2|apply uT));first|done|fail)|(simp;first|done|omega|fail))[AnsV.val]))
  refine B8 m' ⟨by simp [AnsV.val], hb, hst⟩ ?_
  simp only [B6, M4, K7]
  (repeat' constructor)
 by_cases k2 : o.kind = 2
 ·rw [B3U _ _ _ k2]
  (have zz:=trivial;repeat((first|clear zz|with_reducible first|refine A3 ?_|refine A5 fun _=>?_|refine A4 fun _=>?_);try simp(disch:=first|omega|assumption|((repeat(first|exact A1|exact uH|apply A2|apply uT));first|done|fail)|(simp;first|done|omega|fail))[k0, k1, k2]))
  refine D8 (Hc := B6 m) d8 (fun w' hw' hs => A9u w' m o.shard now c hm hs) (by simp only [B6]; (repeat' constructor)) ?_
  rintro m' _ ⟨rfl, hb, hst⟩
  simp only [B6, M4, K7, List.cons_append, List.nil_append]
  (have zz:=trivial;repeat((first|clear zz|with_reducible first|refine A3 ?_|refine A5 fun _=>?_|refine A4 fun _=>?_);try simp(disch:=first|omega|assumption|((repeat(first|exact A1|exact uH|apply A2|apply uT));first|done|fail)|(simp;first|done|omega|fail))[AnsV.val]))
  refine B8 m' ⟨by simp [AnsV.val], hb, hst⟩ ?_
  simp only [B6, M4, K7]
  (repeat' constructor)
 by_cases k3 : o.kind = 3
 ·rw [B4y _ _ _ k3]
  (have zz:=trivial;repeat((first|clear zz|with_reducible first|refine A3 ?_|refine A5 fun _=>?_|refine A4 fun _=>?_);try simp(disch:=first|omega|assumption|((repeat(first|exact A1|exact uH|apply A2|apply uT));first|done|fail)|(simp;first|done|omega|fail))[k0, k1, k2, k3]))
  refine D8 (Hc := B6 m) f7 (fun w' hw' hs => B06 w' m c hm hs) (by simp only [B6]; (repeat' constructor)) ?_
  rintro m' _ ⟨rfl, hb, hst⟩
  simp only [B6, M4, K7, List.cons_append, List.nil_append]
  (have zz:=trivial;repeat((first|clear zz|with_reducible first|refine A3 ?_|refine A5 fun _=>?_|refine A4 fun _=>?_);try simp(disch:=first|omega|assumption|((repeat(first|exact A1|exact uH|apply A2|apply uT));first|done|fail)|(simp;first|done|omega|fail))[AnsV.val]))
  refine B8 m' ⟨by simp [AnsV.val], hb, hst⟩ ?_
  simp only [B6, M4, K7]
  (repeat' constructor)
 ·rw [B5N _ _ _ (by omega)]
  simp only [B6, M4, K7]
  (have zz:=trivial;repeat((first|clear zz|with_reducible first|refine A3 ?_|refine A5 fun _=>?_|refine A4 fun _=>?_);try simp(disch:=first|omega|assumption|((repeat(first|exact A1|exact uH|apply A2|apply uT));first|done|fail)|(simp;first|done|omega|fail))[k0, k1, k2, k3]))
  refine B8 m ⟨by simp [AnsV.val], rfl, rfl⟩ ?_
  try simp only [B6, M4, K7]
  (repeat' constructor)
end Go.Proofs.YtpbmephflllolaaGreat
namespace Go.Proofs.YtpbmephflllolaaGreat
open Go
section
variable {S : List Nat} {w0 w : World} {H Hk : List Res} {K : Value → WP}
theorem B6A {m : BaH} : PoolBt w m (.slice none 0 0) [] := ⟨Or.inl ⟨rfl, rfl, none, 0, rfl⟩, fun h => by simp at h, by simp, rfl, rfl⟩
theorem B6a {κ : Bool} {m : BaH} {v : Value} {p : List F9} {e : TypeId} (hw : LW κ S w0 (B6 m ++ Hk) w) (hm : Res.own e 2 v p.length (p.flatMap E1) ∈ Hk) (hl : p.length ≤ 1000) : PoolBt w m v p := by
 have h := hw.hold _ (List.mem_append_right _ hm)
 obtain ⟨a, c, e⟩ := M0.form h
 refine ⟨M0.rd h, fun _ g hg hf => ?_, hl, by rw [e]; rfl, by rw [e]; rfl⟩
 obtain ⟨s, hs, hbs⟩ := G6.1 hf
 exact (List.pairwise_append.1 hw.dis).2.2 s hs _ hm g hbs hg
theorem A9C {κ : Bool} {m : BaH} {v : Value} {p : List F9} (hw : LW κ [] w0 (B6 m ++ Hk) w) (h : F5 w0 v p.length (p.flatMap E1)) (hl : p.length ≤ 1000) : PoolBt w m v p := by
 refine ⟨h.ks hw.ks (by simp), fun h0 g hg hf => ?_, hl, by obtain ⟨a, c, e, _⟩ := h.form; rw [e]; exact ⟨rfl, rfl⟩⟩
 have h1 := B3l h (by rw [H4 (k := 2) fun _ => rfl]; omega) h0 g hg
 obtain ⟨s, hs, hbs⟩ := G6.1 hf
 rcases (hw.own s (List.mem_append_left _ hs) g hbs).1 with h2 | h2
 ·cases h2
 ·omega
theorem C0b {m : BaH} {o : OpV} {v : Value} {now : Int} {c : CfgV} (r : MoS × AnsV) (hi : Inv c m.st) (hp : Part (B6 m) H Hk) (hpa : ∀ w, LW false S w0 (B6 m ++ Hk) w → PoolBt w m v o.pool) (hpk : o.packet.size < 2 ^ 40) (hr : V3 m.st o now = r)
  (hK : ∀ m' : BaH, m'.b = m.b → m'.st = r.1 → Inv c m'.st → TW false S w0 (B6 m' ++ Hk) (K r.2.val)) : TW false S w0 H (B1 PR B4 13 [.pointer (some ⟨m.b, 0, none⟩), o.val v, .int .i64 now] K) := by
 subst hr
 refine TW.perm ?_ hp.perm
 refine D8 (Hc := B6 m) A2v (fun w' hw hs => C2G w' m o v now c (hpa w' hw) hpk (BaOk.of hi) hs) b8 ?_
 rintro m' _ ⟨rfl, hb, hst⟩
 exact hK m' hb hst (by rw [hst]; exact hi.do' o now)
theorem B0y {m : BaH} {pk : ByteArray} {now : Int} {c : CfgV} (r : MoS × AnsV) (hi : Inv c m.st) (hp : Part (B6 m) H Hk) (hpk : pk.size < 2 ^ 40) (hr : U0 m.st pk now = r)
  (hK : ∀ m' : BaH, m'.b = m.b → m'.st = r.1 → Inv c m'.st → TW false S w0 (B6 m' ++ Hk) (K r.2.val)) : TW false S w0 H (B1 PR B4 24 [.pointer (some ⟨m.b, 0, none⟩), .string pk, .int .i64 now] K) := by
 subst hr
 refine D8 (Hc := B6 m) Y0 (fun w' hw hs => A6W w' m pk now c hpk (BaOk.of hi) hs) hp ?_
 rintro m' _ ⟨rfl, hb, hst⟩
 exact hK m' hb hst (by rw [hst, ← B0q m.st ⟨0, pk, [], 0⟩ now rfl]; exact hi.do' _ now)
theorem B7F {m : BaH} {p : List F9} {v : Value} {c : CfgV} (r : MoS × AnsV) (hi : Inv c m.st) (hp : Part (B6 m) H Hk) (hpa : ∀ w, LW false S w0 (B6 m ++ Hk) w → PoolBt w m v p) (hr : A1b m.st p = r)
  (hK : ∀ m' : BaH, m'.b = m.b → m'.st = r.1 → Inv c m'.st → TW false S w0 (B6 m' ++ Hk) (K r.2.val)) : TW false S w0 H (B1 PR B4 26 [.pointer (some ⟨m.b, 0, none⟩), v] K) := by
 subst hr
 refine TW.perm ?_ hp.perm
 refine D8 (Hc := B6 m) d7 (fun w' hw hs => A9p w' m p v (hpa w' hw) hs) b8 ?_
 rintro m' _ ⟨rfl, hb, hst⟩
 exact hK m' hb hst (by rw [hst, ← B2d m.st ⟨1, P2, p, 0⟩ 0 rfl]; exact hi.do' _ 0)
theorem B2U {m : BaH} {j now : Int} {c : CfgV} (r : MoS × AnsV) (hi : Inv c m.st) (hp : Part (B6 m) H Hk) (hr : m8 m.st j now = r)
  (hK : ∀ m' : BaH, m'.b = m.b → m'.st = r.1 → Inv c m'.st → TW false S w0 (B6 m' ++ Hk) (K r.2.val)) : TW false S w0 H (B1 PR B4 27 [.pointer (some ⟨m.b, 0, none⟩), .int .i64 j, .int .i64 now] K) := by
 subst hr
 refine D8 (Hc := B6 m) d8 (fun w' hw hs => A9u w' m j now c (BaOk.of hi) hs) hp ?_
 rintro m' _ ⟨rfl, hb, hst⟩
 exact hK m' hb hst (by rw [hst, ← B3U m.st ⟨2, P2, [], j⟩ now rfl]; exact hi.do' _ now)
theorem B0z {m : BaH} {c : CfgV} (hi : Inv c m.st) (hp : Part (B6 m) H Hk)
  (hK : ∀ m' : BaH, m'.b = m.b → m'.st = m.st → TW false S w0 (B6 m' ++ Hk) (K (u3 m.st).2.val)) : TW false S w0 H (B1 PR B4 20 [.pointer (some ⟨m.b, 0, none⟩)] K) := by
 refine D8 (Hc := B6 m) f7 (fun w' hw hs => B06 w' m c (BaOk.of hi) hs) hp ?_
 rintro m' _ ⟨rfl, hb, hst⟩
 exact hK m' hb hst
theorem B5A {m : BaH} {c : CfgV} (hi : Inv c m.st) (hp : Part (B6 m) H Hk)
  (hK : ∀ a b, TW false S w0 (.own 9 1 (.slice a (N3 m.st.tabs).length b) (N3 m.st.tabs).length ((N3 m.st.tabs).map Value.string) :: (B6 m ++ Hk)) (K (.slice a (N3 m.st.tabs).length b))) : TW false S w0 H (B1 PR B4 16 [.pointer (some ⟨m.b, 0, none⟩)] K) := by
 refine D8 (Hc := B6 m) j3 (fun w' hw hs => B3N w' m c (BaOk.of hi) hs) hp ?_
 rintro _ r rfl
 refine Y6 (e := 9) (k := 1) (v := r) (q := (N3 m.st.tabs).length) (xs := (N3 m.st.tabs).map Value.string) (by simp) ?_
 rintro a b rfl
 exact hK a b
theorem B5K {m : BaH} {c : CfgV} (hi : Inv c m.st) (hp : Part (B6 m) H Hk) (hK : ∀ a b, TW false S w0 (.own 75 2 (.slice a m.pool.length b) m.pool.length (m.pool.flatMap E1) :: (B6 m ++ Hk)) (K (.slice a m.pool.length b))) : TW false S w0 H (B1 PR B4 19 [.pointer (some ⟨m.b, 0, none⟩)] K) := by
 refine D8 (Hc := B6 m) A1Z (fun w' hw hs => B9w w' m (BaOk.of hi).pool hs) hp ?_
 rintro _ r rfl
 refine Y6 (e := 75) (k := 2) (v := r) (q := m.pool.length) (xs := m.pool.flatMap E1) (by simp) ?_
 rintro a b rfl
 exact hK a b
theorem A81 {c : CfgV} (h0 : N8 c = false → TW false S w0 H (K (.tuple #[.pointer none, .int .i64 1])))
  (h1 : ∀ m : BaH, N8 c = true → m.st = ⟨c, [], s7 c⟩ → Inv c m.st → TW false S w0 (B6 m ++ H) (K (.tuple #[.pointer (some ⟨m.b, 0, none⟩), .int .i64 0]))) : TW false S w0 H (B1 PR B4 10 [c.val] K) := by
 refine H2 A8U (fun w' _ => C0w w' c) ?_
 rintro m u hm
 cases hc : N8 c with
 | false =>
  simp only [hc, Bool.false_eq_true, if_false] at hm ⊢
  subst hm
  exact h0 hc
 | true =>
  simp only [hc, if_true] at hm ⊢
  obtain ⟨rfl, e⟩ := hm
  exact h1 m hc e (by rw [e]; exact Inv.new hc)
end
end Go.Proofs.YtpbmephflllolaaGreat
namespace Go.Proofs.YtpbmephflllolaaGreat
open Go
theorem C2c : m8 (wk2 0) 0 6 = (wk1, ⟨0, 0, false, 1⟩) := by kernel_rfl
theorem C2a : m8 wk1 1 6 = (wk1, ⟨1, 0, false, 0⟩) := by kernel_rfl
theorem B59 (w : World) : Fn PR B4 8 #[] w (fun v w' => v = .bool true ∧ C5 [] w w') := by
 refine Fn.pure (A2z (TW.go (κ := false) (S := []) ?_))
 unfold r3
 (have zz:=trivial;repeat((first|clear zz|with_reducible first|refine A3 ?_|refine A5 fun _=>?_|refine A4 fun _=>?_);try simp(disch:=first|omega|assumption|((repeat(first|exact A1|exact uH|apply A2|apply uT));first|done|fail)|(simp;first|done|omega|fail))[]))
 refine A81 (c := wkC) (fun h => by rw [C2F] at h; cases h) fun m _ hst hi => ?_
 (have zz:=trivial;repeat((first|clear zz|with_reducible first|refine A3 ?_|refine A5 fun _=>?_|refine A4 fun _=>?_);try simp(disch:=first|omega|assumption|((repeat(first|exact A1|exact uH|apply A2|apply uT));first|done|fail)|(simp;first|done|omega|fail))[]))
 refine A81 (c := ⟨0, 0, 0, 0, 0⟩) (fun _ => ?_) (fun _ h => by rw [C1F] at h; cases h)
 (have zz:=trivial;repeat((first|clear zz|with_reducible first|refine A3 ?_|refine A5 fun _=>?_|refine A4 fun _=>?_);try simp(disch:=first|omega|assumption|((repeat(first|exact A1|exact uH|apply A2|apply uT));first|done|fail)|(simp;first|done|omega|fail))[]))
 refine C4 B0w (fun w' _ => B3s w' wkK 0) ?_
 rw [C2x]
 (have zz:=trivial;repeat((first|clear zz|with_reducible first|refine A3 ?_|refine A5 fun _=>?_|refine A4 fun _=>?_);try simp(disch:=first|omega|assumption|((repeat(first|exact A1|exact uH|apply A2|apply uT));first|done|fail)|(simp;first|done|omega|fail))[]))
 refine B0y (wk0, ⟨11, 0, false, 0⟩) hi (by ((repeat (first | exact b8 | apply Part.skip)); first | done | fail)) B5C (by rw [hst]; exact C7N) fun m1 hb1 hst1 hi1 => ?_
 rw [← hb1]
 clear hst hi hb1
 (have zz:=trivial;repeat((first|clear zz|with_reducible first|refine A3 ?_|refine A5 fun _=>?_|refine A4 fun _=>?_|refine D0 fun _=>?_|refine D5 (hK:=fun _=>?_)|refine D1 (hK:=fun _=>?_)|refine D2 (hK:=fun _=>?_)|refine D3 (hK:=fun _=>?_)|refine D4 (hK:=fun _=>?_));try simp(disch:=first|omega|assumption|((repeat(first|exact A1|exact uH|apply A2|apply uT));first|done|fail)|(simp;first|done|omega|fail))[AnsV.val]))
 refine B7F (p := [(7, 1)]) (wk1, ⟨0, 0, false, 0⟩) hi1 (by ((repeat (first | exact b8 | apply Part.skip)); first | done | fail)) (fun _ h => B6a (p := [(7, 1)]) h A1 (by decide)) (by rw [hst1]; exact C60) fun m2 hb2 hst2 hi2 => ?_
 rw [← hb2]
 clear hst1 hi1 hb2
 (have zz:=trivial;repeat((first|clear zz|with_reducible first|refine A3 ?_|refine A5 fun _=>?_|refine A4 fun _=>?_);try simp(disch:=first|omega|assumption|((repeat(first|exact A1|exact uH|apply A2|apply uT));first|done|fail)|(simp;first|done|omega|fail))[AnsV.val]))
 refine B0y (wk2 0, ⟨0, 7, true, 0⟩) hi2 (by ((repeat (first | exact b8 | apply Part.skip)); first | done | fail)) B5C (by rw [hst2]; exact C6Y) fun m1 hb1 hst1 hi1 => ?_
 rw [← hb1]
 clear hst2 hi2 hb1
 (have zz:=trivial;repeat((first|clear zz|with_reducible first|refine A3 ?_|refine A5 fun _=>?_|refine A4 fun _=>?_);try simp(disch:=first|omega|assumption|((repeat(first|exact A1|exact uH|apply A2|apply uT));first|done|fail)|(simp;first|done|omega|fail))[AnsV.val]))
 refine B0z hi1 (by ((repeat (first | exact b8 | apply Part.skip)); first | done | fail)) fun m2 hb2 hst2 => ?_
 have hi2 : Inv wkC m2.st := by rw [hst2]; exact hi1
 rw [hst1] at hst2
 rw [← hb2, hst1, show (u3 (wk2 0)).2 = ⟨0, 0, false, 1⟩ from rfl]
 clear hst1 hi1 hb2
 (have zz:=trivial;repeat((first|clear zz|with_reducible first|refine A3 ?_|refine A5 fun _=>?_|refine A4 fun _=>?_);try simp(disch:=first|omega|assumption|((repeat(first|exact A1|exact uH|apply A2|apply uT));first|done|fail)|(simp;first|done|omega|fail))[AnsV.val]))
 refine B2U (wk1, ⟨0, 0, false, 1⟩) hi2 (by ((repeat (first | exact b8 | apply Part.skip)); first | done | fail)) (by rw [hst2]; exact C2c) fun m1 hb1 hst1 hi1 => ?_
 rw [← hb1]
 clear hst2 hi2 hb1
 (have zz:=trivial;repeat((first|clear zz|with_reducible first|refine A3 ?_|refine A5 fun _=>?_|refine A4 fun _=>?_);try simp(disch:=first|omega|assumption|((repeat(first|exact A1|exact uH|apply A2|apply uT));first|done|fail)|(simp;first|done|omega|fail))[AnsV.val]))
 refine B2U (wk1, ⟨1, 0, false, 0⟩) hi1 (by ((repeat (first | exact b8 | apply Part.skip)); first | done | fail)) (by rw [hst1]; exact C2a) fun m2 hb2 hst2 hi2 => ?_
 rw [← hb2]
 clear hst1 hi1 hb2
 simp only [B6, List.cons_append, List.nil_append]
 (have zz:=trivial;repeat((first|clear zz|with_reducible first|refine A3 ?_|refine A5 fun _=>?_|refine A4 fun _=>?_);try simp(disch:=first|omega|assumption|((repeat(first|exact A1|exact uH|apply A2|apply uT));first|done|fail)|(simp;first|done|omega|fail))[AnsV.val]))
 refine B5A hi2 (by simp only [B6]; (repeat' constructor)) fun a b => ?_
 have hlv : N3 m2.st.tabs = [] := by rw [hst2]; rfl
 simp only [hlv, B6, List.cons_append, List.nil_append]
 (have zz:=trivial;repeat((first|clear zz|with_reducible first|refine A3 ?_|refine A5 fun _=>?_|refine A4 fun _=>?_);try simp(disch:=first|omega|assumption|((repeat(first|exact A1|exact uH|apply A2|apply uT));first|done|fail)|(simp;first|done|omega|fail))[AnsV.val]))
 have hp2 : m2.pool = [(7, 1)] := congrArg MoS.pool hst2
 refine B5K hi2 (by simp only [B6]; (repeat' constructor)) fun a b => ?_
 rw [hp2]
 simp only [B6, List.cons_append, List.nil_append]
 (have zz:=trivial;repeat((first|clear zz|with_reducible first|refine A3 ?_|refine A5 fun _=>?_|refine A4 fun _=>?_);try simp(disch:=first|omega|assumption|((repeat(first|exact A1|exact uH|apply A2|apply uT));first|done|fail)|(simp;first|done|omega|fail))[AnsV.val]))
 refine C0b (o := ⟨9, P2, [], 0⟩) (wk1, ⟨1, 0, false, 0⟩) hi2 (by simp only [B6, hp2]; (repeat' constructor)) (fun _ _ => B6A) (by simp) (by rw [hst2, B5N _ _ _ (Or.inr (by decide))]) fun m1 hb1 hst1 hi1 => ?_
 (have zz:=trivial;repeat((first|clear zz|with_reducible first|refine A3 ?_|refine A5 fun _=>?_|refine A4 fun _=>?_);try simp(disch:=first|omega|assumption|((repeat(first|exact A1|exact uH|apply A2|apply uT));first|done|fail)|(simp;first|done|omega|fail))[AnsV.val]))
 exact B0 rfl
end Go.Proofs.YtpbmephflllolaaGreat
namespace Go.Proofs.YtpbmephflllolaaGreat
open Go
theorem B9W (w : World) (c : CfgV) (v : Value) (l : List ((OpV × Value) × Int)) (hn : l.length ≤ 9223372036854775807) (hv : F5 w v l.length (l.flatMap A2M)) (hp : ∀ s ∈ l, B2c s.1) :
  Fn PR B4 9 #[c.val, v] w (fun r w' => r = .bool (A41 c (l.map (·.1.1))) ∧ C5 [] w w') := by
 refine Fn.pure (A4a (TW.go (κ := false) (S := []) ?_))
 unfold x4
 obtain ⟨a, cc, rfl, hr⟩ := hv.form
 obtain ⟨n, hnn⟩ : ∃ n, n = min l.length 13 := ⟨_, rfl⟩
 simp only [CfgV.val]
 (have zz:=trivial;repeat((first|clear zz|with_reducible first|refine A3 ?_|refine A5 fun _=>?_|refine A4 fun _=>?_);try simp(disch:=first|omega|assumption|((repeat(first|exact A1|exact uH|apply A2|apply uT));first|done|fail)|(simp;first|done|omega|fail))[]))
 rename_i bc
 refine n5 42 4 ?_
 refine n0 n (fun i (x : Option Addr × Nat) => .slice x.1 i x.2) (fun i x => [.own 42 4 (.slice x.1 i x.2) i (((l.map (·.1)).take i).flatMap l2), .pt bc (.cells #[.int .i64 c.wk, .int .i64 c.sh, .int .i64 c.cp, .int .i64 c.idle, .int .i64 c.sl] 23)]) (fun i x => True) (none, 0) trivial ?_ (by simp)
 rintro i ⟨xa, xc⟩ hi _ L hL
 by_cases hlt : i < n
 ·have hil : i < l.length := by omega
  have hx := List.getElem?_eq_getElem hil
  obtain ⟨b, o, rfl, hrow⟩ := hr (by omega)
  have h1 := hrow.partAt (f := A2M) (k := 5) (fun _ => rfl) hx 0 4 (by omega)
  rw [show ((A2M l[i]).drop 0).take 4 = l2 l[i].1 from rfl, Nat.add_zero] at h1
  have c1 : (i : Int) ≤ 12 := by omega
  have hst : ((l.map (·.1)).take (i + 1)).flatMap l2 = ((l.map (·.1)).take i).flatMap l2 ++ l2 l[i].1 := by
   rw [List.take_add_one, List.getElem?_map, hx]; simp [List.flatMap_append]
  (have zz:=trivial;repeat((first|clear zz|with_reducible first|refine A3 ?_|refine A5 fun _=>?_|refine A4 fun _=>?_|refine D0 fun _=>?_|refine D5 (hK:=fun _=>?_)|refine D1 (hK:=fun _=>?_)|refine D2 (hK:=fun _=>?_)|refine D3 (hK:=fun _=>?_)|refine D4 (hK:=fun _=>?_));try simp(disch:=first|omega|assumption|((repeat(first|exact A1|exact uH|apply A2|apply uT));first|done|fail)|(simp;first|done|omega|fail))[hil, h1, c1, l2]))
  obtain ⟨pa, pc, hpl⟩ := hp l[i] (List.getElem_mem hil)
  refine A00 (e := 42) (k := 4) (q := i) (r := 1) (xs := ((l.map (·.1)).take i).flatMap l2) (news := l2 l[i].1) (by (repeat constructor)) (L5.own (by (repeat constructor))) (by decide) rfl (by simp [l2, hpl]) (by simp only [maxLen]; omega) (by omega) fun a' c' => ?_
  (have zz:=trivial;repeat((first|clear zz|with_reducible first|refine A3 ?_|refine A5 fun _=>?_|refine A4 fun _=>?_);try simp(disch:=first|omega|assumption|((repeat(first|exact A1|exact uH|apply A2|apply uT));first|done|fail)|(simp;first|done|omega|fail))[]))
  have h2 := hL hlt (a', c') trivial
  rw [hst] at h2
  exact Sels.tw (by (repeat' constructor)) h2
 ·have hin : i = n := by omega
  have hce : (c.val : Value) = .agg #[.int .i64 c.wk, .int .i64 c.sh, .int .i64 c.cp, .int .i64 c.idle, .int .i64 c.sl] := rfl
  have hlen : (((l.map (·.1)).take i)).length = i := by simp; omega
  have hm : ((l.map (·.1)).take i).map (·.1) = (l.map (·.1.1)).take 13 := by
   rw [List.map_take, List.map_map, hin, hnn]
   by_cases h : l.length ≤ 13
   ·rw [Nat.min_eq_left h, List.take_of_length_le (by simp), List.take_of_length_le (by simp; omega)]; rfl
   ·rw [Nat.min_eq_right (by omega)]; rfl
  have hfin : n9 c = true → ∀ K : Value → WP, (∀ H : List Res, TW false [] w H (K (.bool (A41 c (l.map (·.1.1)))))) → TW false [] w [.own 42 4 (.slice xa i xc) i (((l.map (·.1)).take i).flatMap l2), .pt bc (.cells #[.int .i64 c.wk, .int .i64 c.sh, .int .i64 c.cp, .int .i64 c.idle, .int .i64 c.sl] 23)]
    (B1 PR B4 34 [.slice xa i xc, .int .i64 12] K) := fun hs K hK => by
   refine C4 A3f (fun w' hw' => by
    have := B8n w' (.slice xa i xc) ((l.map (·.1)).take i) 12 (by omega) (by rw [hlen]; exact L5.own (by (repeat constructor)) w' hw') fun o ho => by
     obtain ⟨s, hs, rfl⟩ := List.mem_map.1 (List.mem_of_mem_take ho)
     exact hp s hs
    exact this) ?_
   have e : A41 c (l.map (·.1.1)) = z6 (((l.map (·.1)).take i).map (·.1)) 12 := by rw [hm, A41, hs]; simp
   rw [← e]; exact hK _
  by_cases hil : i < l.length
  ·have c1 : ¬ (i : Int) ≤ 12 := by omega
   (have zz:=trivial;repeat((first|clear zz|with_reducible first|refine A3 ?_|refine A5 fun _=>?_|refine A4 fun _=>?_);try simp(disch:=first|omega|assumption|((repeat(first|exact A1|exact uH|apply A2|apply uT));first|done|fail)|(simp;first|done|omega|fail))[hil, c1]))
   refine C4 m6 (fun w' _ => B3v w' c) ?_
   cases hs : n9 c with
   | true =>
    (have zz:=trivial;repeat((first|clear zz|with_reducible first|refine A3 ?_|refine A5 fun _=>?_|refine A4 fun _=>?_);try simp(disch:=first|omega|assumption|((repeat(first|exact A1|exact uH|apply A2|apply uT));first|done|fail)|(simp;first|done|omega|fail))[]))
    refine hfin hs _ fun H => ?_
    (have zz:=trivial;repeat((first|clear zz|with_reducible first|refine A3 ?_|refine A5 fun _=>?_|refine A4 fun _=>?_);try simp(disch:=first|omega|assumption|((repeat(first|exact A1|exact uH|apply A2|apply uT));first|done|fail)|(simp;first|done|omega|fail))[]))
    exact B0 rfl
   | false => (have zz:=trivial;repeat((first|clear zz|with_reducible first|refine A3 ?_|refine A5 fun _=>?_|refine A4 fun _=>?_);try simp(disch:=first|omega|assumption|((repeat(first|exact A1|exact uH|apply A2|apply uT));first|done|fail)|(simp;first|done|omega|fail))[])); exact B0 (by simp [A41, hs])
  ·(have zz:=trivial;repeat((first|clear zz|with_reducible first|refine A3 ?_|refine A5 fun _=>?_|refine A4 fun _=>?_);try simp(disch:=first|omega|assumption|((repeat(first|exact A1|exact uH|apply A2|apply uT));first|done|fail)|(simp;first|done|omega|fail))[hil]))
   refine C4 m6 (fun w' _ => B3v w' c) ?_
   cases hs : n9 c with
   | true =>
    (have zz:=trivial;repeat((first|clear zz|with_reducible first|refine A3 ?_|refine A5 fun _=>?_|refine A4 fun _=>?_);try simp(disch:=first|omega|assumption|((repeat(first|exact A1|exact uH|apply A2|apply uT));first|done|fail)|(simp;first|done|omega|fail))[]))
    refine hfin hs _ fun H => ?_
    (have zz:=trivial;repeat((first|clear zz|with_reducible first|refine A3 ?_|refine A5 fun _=>?_|refine A4 fun _=>?_);try simp(disch:=first|omega|assumption|((repeat(first|exact A1|exact uH|apply A2|apply uT));first|done|fail)|(simp;first|done|omega|fail))[]))
    exact B0 rfl
   | false => (have zz:=trivial;repeat((first|clear zz|with_reducible first|refine A3 ?_|refine A5 fun _=>?_|refine A4 fun _=>?_);try simp(disch:=first|omega|assumption|((repeat(first|exact A1|exact uH|apply A2|apply uT));first|done|fail)|(simp;first|done|omega|fail))[])); exact B0 (by simp [A41, hs])
end Go.Proofs.YtpbmephflllolaaGreat
namespace Go.Proofs.YtpbmephflllolaaGreat
open Go
def W2 (X : Nat → Prop) (t0 t1 : Value) (R : Value → WP) : WP :=
 B2 PR X (Instr.box 23 t0) fun t2 =>
 B1 PR X 8 [] fun t14 =>
 jn (n := 1) (fun t4 =>
 jn (n := 1) (fun t4_1 =>
 A6 PR (Instr.loadAt 23 t2) fun t23 =>
 B1 PR X 10 [t23] fun t24 =>
 A0 PR (Instr.extract t24 0) fun t25 =>
 A0 PR (Instr.extract t24 1) fun t26 =>
 A6 PR (Instr.loadAt 23 t2) fun t28 =>
 B1 PR X 25 [t28] fun t29 =>
 A0 PR (Instr.extract t29 0) fun t30 =>
 A0 PR (Instr.extract t29 1) fun t31 =>
 jn (n := 1) (fun t4_2 =>
 jn (n := 2) (fun t4_3 t10 =>
 gj t14 true (fun J => J t25) fun t118 =>
 gj t14 true (fun J => B1 PR X 16 [t118] J) fun t119 =>
 gj t14 true (fun J => A0 PR (A8 .len #[48] 0 [t119]) J) fun t120 =>
 gj t14 true (fun J => J t25) fun t121 =>
 gj t14 true (fun J => B1 PR X 20 [t121] J) fun t122 =>
 gj t14 true (fun J => A0 PR (Instr.field 39 t122 3) J) fun t123 =>
 gj t14 true (fun J => A0 PR (binOp .eql 3 t120 t123) J) fun t124 =>
 A0 PR (do pure (if ← asBool t14 then t124 else (.bool false))) fun t125 =>
 R t125) fun J1 =>
 lp (n := 2) (fun L2 t4_4 t10_1 =>
 jn (n := 0) (
 jn (n := 1) (fun t4_5 =>
 A0 PR (binOp .add 3 t10_1 (.int .i64 1)) fun t61 =>
 L2 t4_5 t61) fun J3 =>
 drw <|
 A0 PR (Instr.indexAt 24 t1 t10_1) fun t64 =>
 A0 PR (Instr.fieldAt 44 t64 0) fun t65 =>
 A6 PR (Instr.loadAt 42 t65) fun t66 =>
 A0 PR (Instr.indexAt 24 t1 t10_1) fun t69 =>
 A0 PR (Instr.fieldAt 44 t69 1) fun t70 =>
 A6 PR (Instr.loadAt 3 t70) fun t71 =>
 B2 PR X (Instr.alloc 42 true (.tuple #[])) fun t11 =>
 watch PR [(none, (Instr.loadAt 3 t70), t71), (none, (Instr.loadAt 42 t65), t66)] <|
 B9 PR X (Instr.storeAt 42 t11 t66) <|
 watch PR [(none, (Instr.loadAt 3 t70), t71)] <|
 B2 PR X (Instr.alloc 39 true (.tuple #[])) fun t13 =>
 jn (n := 0) (
 drw <|
 A6 PR (Instr.loadAt 39 t13) fun t102 =>
 A6 PR (Instr.loadAt 42 t11) fun t104 =>
 B1 PR X 28 [t30, t104, t71] fun t106 =>
 watch PR [(none, (Instr.loadAt 39 t13), t102)] <|
 A6 PR (J9 .neq 39 (.tmp 102) (.tmp 106) t102 t106) fun t107 =>
 gj t107 false (fun J => J t25) fun t109 =>
 gj t107 false (fun J => J t30) fun t111 =>
 gj t107 false (fun J => B1 PR X 19 [t109] J) fun t110 =>
 gj t107 false (fun J => B1 PR X 30 [t111] J) fun t112 =>
 gj t107 false (fun J => B1 PR X 29 [t110, t112] J) fun t113 =>
 gj t107 false (fun J => A0 PR (Op.unary .not t113) J) fun t114 =>
 A0 PR (do pure (if ← asBool t107 then (.bool true) else t114)) fun t115 =>
 C3 t115 (
 R (.bool false)) (
 J3 t4_4)) fun J4 =>
 A0 PR (Instr.fieldAt 42 t11 0) fun t72 =>
 A6 PR (Instr.loadAt 3 t72) fun t73 =>
 A0 PR (binOp .eql 3 t73 (.int .i64 0)) fun t79 =>
 C3 t79 (
 A0 PR (Instr.fieldAt 42 t11 1) fun t81 =>
 A6 PR (Instr.loadAt 9 t81) fun t82 =>
 B1 PR X 24 [t25, t82, t71] fun t84 =>
 B9 PR X (Instr.storeAt 39 t13 t84) <|
 J4) (
 A0 PR (binOp .eql 3 t73 (.int .i64 1)) fun t86 =>
 C3 t86 (
 A0 PR (Instr.fieldAt 42 t11 2) fun t88 =>
 A6 PR (Instr.loadAt 32 t88) fun t89 =>
 B1 PR X 26 [t25, t89] fun t90 =>
 B9 PR X (Instr.storeAt 39 t13 t90) <|
 J4) (
 A0 PR (binOp .eql 3 t73 (.int .i64 2)) fun t92 =>
 C3 t92 (
 A0 PR (Instr.fieldAt 42 t11 3) fun t94 =>
 A6 PR (Instr.loadAt 3 t94) fun t95 =>
 B1 PR X 27 [t25, t95, t71] fun t97 =>
 B9 PR X (Instr.storeAt 39 t13 t97) <|
 J4) (
 A0 PR (binOp .eql 3 t73 (.int .i64 3)) fun t99 =>
 C3 t99 (
 B1 PR X 20 [t25] fun t101 =>
 B9 PR X (Instr.storeAt 39 t13 t101) <|
 J4) (
 A6 PR (Instr.loadAt 42 t11) fun t75 =>
 B1 PR X 13 [t25, t75, t71] fun t77 =>
 B9 PR X (Instr.storeAt 39 t13 t77) <|
 J4))))) fun J5 =>
 A0 PR (A8 .len #[24] 0 [t1]) fun t58 =>
 A0 PR (binOp .lss 3 t10_1 t58) fun t59 =>
 C3 t59 (
 J5) (
 J1 t4_4 t10_1)) t4_2 (.int .i64 0)) fun J6 =>
 A0 PR (binOp .neq 28 t26 (.int .i64 0)) fun t33 =>
 gj t33 false (fun J => J t31) fun t35 =>
 gj t33 false (fun J => A0 PR (binOp .neq 28 t35 (.int .i64 0)) J) fun t36 =>
 A0 PR (do pure (if ← asBool t33 then (.bool true) else t36)) fun t37 =>
 gj t37 false (fun J => J t25) fun t39 =>
 gj t37 false (fun J => A6 PR (J9 .eql 27 (.tmp 39) (.const (.pointer none)) t39 (.pointer none)) J) fun t40 =>
 A0 PR (do pure (if ← asBool t37 then (.bool true) else t40)) fun t41 =>
 gj t41 false (fun J => J t30) fun t43 =>
 gj t41 false (fun J => A6 PR (J9 .eql 66 (.tmp 43) (.const (.pointer none)) t43 (.pointer none)) J) fun t44 =>
 A0 PR (do pure (if ← asBool t41 then (.bool true) else t44)) fun t45 =>
 C3 t45 (
 gj t14 true (fun J => J t26) fun t48 =>
 gj t14 true (fun J => J t31) fun t49 =>
 gj t14 true (fun J => A0 PR (binOp .eql 28 t48 t49) J) fun t50 =>
 A0 PR (do pure (if ← asBool t14 then t50 else (.bool false))) fun t51 =>
 gj t51 true (fun J => J t26) fun t53 =>
 gj t51 true (fun J => A0 PR (binOp .neq 28 t53 (.int .i64 0)) J) fun t54 =>
 A0 PR (do pure (if ← asBool t51 then t54 else (.bool false))) fun t55 =>
 R t55) (
 J6 t4_1)) fun J7 =>
 A6 PR (Instr.loadAt 23 t2) fun t17 =>
 B1 PR X 9 [t17, t1] fun t19 =>
 A0 PR (Op.unary .not t19) fun t20 =>
 C3 t20 (
 R t14) (
 J7 t4)) fun J8 =>
 A0 PR (Op.unary .not t14) fun t16 =>
 C3 t16 (
 R (.bool false)) (
 J8 (.bool false))
theorem y4 {X : Nat → Prop} {t0 t1 : Value} {R : Value → WP} {w : World} (h : W2 X t0 t1 R w) : Fn PR X 6 #[t0, t1] w R := C9 (args := [t0, t1]) mixed Tryz.func6 (by kernel_rfl) h
end Go.Proofs.YtpbmephflllolaaGreat
namespace Go.Proofs.YtpbmephflllolaaGreat
open Go
def C0q (t25 t30 t104 t13 t102 t71 : Value) (Rf Jn : WP) : WP :=
 B1 PR B4 28 [t30, t104, t71] fun t106 =>
 watch PR [(none, (Instr.loadAt 39 t13), t102)] <|
 A6 PR (J9 .neq 39 (.tmp 102) (.tmp 106) t102 t106) fun t107 =>
 gj t107 false (fun J => J t25) fun t109 =>
 gj t107 false (fun J => J t30) fun t111 =>
 gj t107 false (fun J => B1 PR B4 19 [t109] J) fun t110 =>
 gj t107 false (fun J => B1 PR B4 30 [t111] J) fun t112 =>
 gj t107 false (fun J => B1 PR B4 29 [t110, t112] J) fun t113 =>
 gj t107 false (fun J => A0 PR (Op.unary .not t113) J) fun t114 =>
 A0 PR (do pure (if ← asBool t107 then (.bool true) else t114)) fun t115 =>
 C3 t115 Rf Jn
theorem A4b {w : World} {c : CfgV} {z1 : BaH} {x2 : MoH} {y : StA} {ya : Option Addr} {yc : Nat} {an : AnsV} {b13 b11 bc : Nat} {Rf Jn : WP} (hyp0 : F5 w (.slice ya y.1.1.pool.length yc) y.1.1.pool.length (y.1.1.pool.flatMap E1)) (hyo : y.1.1.packet.size ≤ 100 ∧ y.1.1.pool.length ≤ 8)
  (hiz : Inv c z1.st) (hj2 : Inv c x2.st) (hdo : V3 x2.st y.1.1 y.2 = (z1.st, an))
  (hK : ∀ z2 : MoH, z2.b = x2.b → z2.st = z1.st → TW false [] w (B6 z1 ++ (C7 z2 ++ [.pt bc (.cells #[.int .i64 c.wk, .int .i64 c.sh, .int .i64 c.cp, .int .i64 c.idle, .int .i64 c.sl] 23)])) Jn) :
  TW false [] w (.pt b13 (.cells #[.int .i64 an.err, .int .i64 an.bk, .bool an.made, .int .i64 an.count] 39) :: .pt b11 (.cells #[.int .i64 y.1.1.kind, .string y.1.1.packet, .slice ya y.1.1.pool.length yc, .int .i64 y.1.1.shard] 42) :: (B6 z1 ++ (C7 x2 ++ [.pt bc (.cells #[.int .i64 c.wk, .int .i64 c.sh, .int .i64 c.cp, .int .i64 c.idle, .int .i64 c.sl] 23)])))
   (C0q (.pointer (some ⟨z1.b, 0, none⟩)) (.pointer (some ⟨x2.b, 0, none⟩)) (.agg #[.int .i64 y.1.1.kind, .string y.1.1.packet, .slice ya y.1.1.pool.length yc, .int .i64 y.1.1.shard]) (.pointer (some ⟨b13, 0, none⟩)) (.agg #[.int .i64 an.err, .int .i64 an.bk, .bool an.made, .int .i64 an.count]) (.int .i64 y.2) Rf Jn) := by
 unfold C0q
 simp only [B6, C7, List.cons_append, List.nil_append]
 refine C7M (o := y.1.1) (v := .slice ya y.1.1.pool.length yc) (now := y.2) (z1.st, an) hj2 (by simp only [C7]; (repeat' constructor)) (fun w' hw' => B6d hw' hyp0 (by omega)) (by omega) hdo fun z2 hbz2 hstz2 hiz2 => ?_
 simp only [C7, List.cons_append, List.nil_append]
 rw [A2Z (by (repeat constructor)) (by rfl)]
 (have zz:=trivial;repeat((first|clear zz|with_reducible first|refine A3 ?_|refine A5 fun _=>?_|refine A4 fun _=>?_);try simp(disch:=first|omega|assumption|((repeat(first|exact A1|exact uH|apply A2|apply uT));first|done|fail)|(simp;first|done|omega|fail))[AnsV.val]))
 refine B5K hiz (by simp only [B6]; (repeat' constructor)) fun a1 c1 => ?_
 simp only [B6, List.cons_append, List.nil_append]
 (have zz:=trivial;repeat((first|clear zz|with_reducible first|refine A3 ?_|refine A5 fun _=>?_|refine A4 fun _=>?_);try simp(disch:=first|omega|assumption|((repeat(first|exact A1|exact uH|apply A2|apply uT));first|done|fail)|(simp;first|done|omega|fail))[]))
 rw [← hbz2]
 refine C2C hiz2 (by simp only [C7]; (repeat' constructor)) fun r1 => ?_
 simp only [C7, List.cons_append, List.nil_append]
 have hpe : z1.pool = z2.pool := congrArg MoS.pool hstz2.symm
 (have zz:=trivial;repeat((first|clear zz|with_reducible first|refine A3 ?_|refine A5 fun _=>?_|refine A4 fun _=>?_);try simp(disch:=first|omega|assumption|((repeat(first|exact A1|exact uH|apply A2|apply uT));first|done|fail)|(simp;first|done|omega|fail))[]))
 have hl1 := (BaOk.of hiz).pool
 have hl2 := hiz2.ok2.pool
 refine C4 B1w (fun w' hw' => B4D w' (.slice a1 z1.pool.length c1) r1 z1.pool z2.pool (by omega) (by omega) (L5.own (e := 75) (k := 2) (by (repeat constructor)) w' hw') (L5.own (e := 75) (k := 2) (by (repeat constructor)) w' hw')) ?_
 rw [show decide (z1.pool = z2.pool) = true from decide_eq_true hpe]
 (have zz:=trivial;repeat((first|clear zz|with_reducible first|refine A3 ?_|refine A5 fun _=>?_|refine A4 fun _=>?_);try simp(disch:=first|omega|assumption|((repeat(first|exact A1|exact uH|apply A2|apply uT));first|done|fail)|(simp;first|done|omega|fail))[]))
 refine Sels.tw ?_ (hK z2 hbz2 hstz2)
 simp only [B6, C7, List.cons_append, List.nil_append]
 (repeat' constructor)
set_option maxHeartbeats 1000000 in
set_option maxRecDepth 20000 in
theorem A8f (w : World) (c : CfgV) (lv : Value) (l : List StA) (hn : l.length ≤ 9223372036854775807) (hv : F5 w lv l.length (l.flatMap A2M)) (hs : ∀ x ∈ l, A4J w x) :
  Fn PR B4 6 #[c.val, lv] w (fun v w' => v = .bool true ∧ C5 [] w w') := by
 refine Fn.pure (y4 (TW.go (κ := false) (S := []) ?_))
 unfold W2
 obtain ⟨la, lc, rfl, hr⟩ := hv.form
 simp only [CfgV.val]
 (have zz:=trivial;repeat((first|clear zz|with_reducible first|refine A3 ?_|refine A5 fun _=>?_|refine A4 fun _=>?_);try simp(disch:=first|omega|assumption|((repeat(first|exact A1|exact uH|apply A2|apply uT));first|done|fail)|(simp;first|done|omega|fail))[]))
 rename_i bc
 refine C4 A2p (fun w' _ => B59 w') ?_
 (have zz:=trivial;repeat((first|clear zz|with_reducible first|refine A3 ?_|refine A5 fun _=>?_|refine A4 fun _=>?_);try simp(disch:=first|omega|assumption|((repeat(first|exact A1|exact uH|apply A2|apply uT));first|done|fail)|(simp;first|done|omega|fail))[]))
 refine C4 A3k (fun w' hw' => B9W w' c _ l hn (hv.ks hw'.ks (by simp)) fun x hx => (hs x hx).sl) ?_
 cases hf : A41 c (l.map (·.1.1)) with
 | false => (have zz:=trivial;repeat((first|clear zz|with_reducible first|refine A3 ?_|refine A5 fun _=>?_|refine A4 fun _=>?_);try simp(disch:=first|omega|assumption|((repeat(first|exact A1|exact uH|apply A2|apply uT));first|done|fail)|(simp;first|done|omega|fail))[])); exact B0 rfl
 | true =>
 (have zz:=trivial;repeat((first|clear zz|with_reducible first|refine A3 ?_|refine A5 fun _=>?_|refine A4 fun _=>?_);try simp(disch:=first|omega|assumption|((repeat(first|exact A1|exact uH|apply A2|apply uT));first|done|fail)|(simp;first|done|omega|fail))[]))
 obtain ⟨hc6, hl12, hfo⟩ := B9D hf
 have hl : l.length ≤ 12 := by simpa using hl12
 cases hok : N8 c with
 | false =>
  refine A81 (c := c) (fun _ => ?_) (fun _ h => by rw [hok] at h; cases h)
  (have zz:=trivial;repeat((first|clear zz|with_reducible first|refine A3 ?_|refine A5 fun _=>?_|refine A4 fun _=>?_);try simp(disch:=first|omega|assumption|((repeat(first|exact A1|exact uH|apply A2|apply uT));first|done|fail)|(simp;first|done|omega|fail))[]))
  refine C0g (c := c) (fun _ => ?_) (fun _ h => by rw [hok] at h; cases h)
  (have zz:=trivial;repeat((first|clear zz|with_reducible first|refine A3 ?_|refine A5 fun _=>?_|refine A4 fun _=>?_);try simp(disch:=first|omega|assumption|((repeat(first|exact A1|exact uH|apply A2|apply uT));first|done|fail)|(simp;first|done|omega|fail))[]))
  exact B0 rfl
 | true =>
 refine A81 (c := c) (fun h => by rw [hok] at h; cases h) fun m1 _ hst1 hi1 => ?_
 simp only [B6, List.cons_append, List.nil_append]
 (have zz:=trivial;repeat((first|clear zz|with_reducible first|refine A3 ?_|refine A5 fun _=>?_|refine A4 fun _=>?_);try simp(disch:=first|omega|assumption|((repeat(first|exact A1|exact uH|apply A2|apply uT));first|done|fail)|(simp;first|done|omega|fail))[]))
 refine C0g (c := c) (fun h => by rw [hok] at h; cases h) fun m2 _ hst2 hi2 => ?_
 simp only [C7, List.cons_append, List.nil_append]
 (have zz:=trivial;repeat((first|clear zz|with_reducible first|refine A3 ?_|refine A5 fun _=>?_|refine A4 fun _=>?_);try simp(disch:=first|omega|assumption|((repeat(first|exact A1|exact uH|apply A2|apply uT));first|done|fail)|(simp;first|done|omega|fail))[]))
 refine Sels.tw (rs := B6 m1 ++ (C7 m2 ++ [.pt bc (.cells #[.int .i64 c.wk, .int .i64 c.sh, .int .i64 c.cp, .int .i64 c.idle, .int .i64 c.sl] 23)])) (by simp only [B6, C7, List.cons_append, List.nil_append]; (repeat' constructor)) ?_
 refine n0 l.length (fun _ _ => .bool false) (fun i (y : BaH × MoH) => B6 y.1 ++ (C7 y.2 ++ [.pt bc (.cells #[.int .i64 c.wk, .int .i64 c.sh, .int .i64 c.cp, .int .i64 c.idle, .int .i64 c.sl] 23)]))
  (fun i y => y.1.b = m1.b ∧ y.2.b = m2.b ∧ y.2.st = y.1.st ∧ Inv c y.1.st) (m1, m2) ⟨rfl, rfl, by rw [hst1, hst2], hi1⟩ ?_
 rintro i ⟨x1, x2⟩ hil ⟨hb1, hb2, hst, hj1⟩ L hL
 simp only at hb1 hb2 hst hj1 ⊢
 rw [← hb1, ← hb2]
 have hj2 : Inv c x2.st := by rw [hst]; exact hj1
 by_cases hlt : i < l.length
 case neg =>
  obtain rfl : i = l.length := by omega
  simp only [B6, C7, List.cons_append, List.nil_append]
  (have zz:=trivial;repeat((first|clear zz|with_reducible first|refine A3 ?_|refine A5 fun _=>?_|refine A4 fun _=>?_);try simp(disch:=first|omega|assumption|((repeat(first|exact A1|exact uH|apply A2|apply uT));first|done|fail)|(simp;first|done|omega|fail))[]))
  refine B5A hj1 (by simp only [B6]; (repeat' constructor)) fun a1 c1 => ?_
  simp only [B6, C7, List.cons_append, List.nil_append]
  (have zz:=trivial;repeat((first|clear zz|with_reducible first|refine A3 ?_|refine A5 fun _=>?_|refine A4 fun _=>?_);try simp(disch:=first|omega|assumption|((repeat(first|exact A1|exact uH|apply A2|apply uT));first|done|fail)|(simp;first|done|omega|fail))[]))
  refine B0z hj1 (by simp only [B6]; (repeat' constructor)) fun z1 hz1 hzt1 => ?_
  (have zz:=trivial;repeat((first|clear zz|with_reducible first|refine A3 ?_|refine A5 fun _=>?_|refine A4 fun _=>?_);try simp(disch:=first|omega|assumption|((repeat(first|exact A1|exact uH|apply A2|apply uT));first|done|fail)|(simp;first|done|omega|fail))[AnsV.val, u3, B1C]))
  exact B0 rfl
 have hy := List.getElem?_eq_getElem hlt
 obtain ⟨lb, lo, rfl, hrow⟩ := hr (by omega)
 obtain ⟨h1, h2⟩ := C1a hrow hy
 have hyp := hs l[i] (List.getElem_mem hlt)
 have hyo := hfo l[i].1.1 (List.mem_map_of_mem (List.getElem_mem hlt))
 generalize l[i] = y at *
 have hyp0 : F5 w y.1.2 y.1.1.pool.length (y.1.1.pool.flatMap E1) := hyp
 obtain ⟨ya, yc, hye⟩ := hyp.sl
 rw [l2] at h1
 rw [hye] at h1 hyp0
 generalize hdo : V3 x1.st y.1.1 y.2 = dv at *
 obtain ⟨s2, an⟩ := dv
 simp only [B6, C7, List.cons_append, List.nil_append]
 (have zz:=trivial;repeat((first|clear zz|with_reducible first|refine A3 ?_|refine A5 fun _=>?_|refine A4 fun _=>?_);try simp(disch:=first|omega|assumption|((repeat(first|exact A1|exact uH|apply A2|apply uT));first|done|fail)|(simp;first|done|omega|fail))[hlt, h1, h2]))
 have hpk : y.1.1.packet.size < 2 ^ 40 := by omega
 rename_i b11 b13
 by_cases k0 : y.1.1.kind = 0
 ·rw [if_pos k0]
  refine B0y (s2, an) hj1 (by simp only [B6]; (repeat' constructor)) hpk (by rw [← B0q _ _ _ k0]; exact hdo) fun z1 hbz hstz hiz => ?_
  simp only [B6, C7, List.cons_append, List.nil_append]
  (have zz:=trivial;repeat((first|clear zz|with_reducible first|refine A3 ?_|refine A5 fun _=>?_|refine A4 fun _=>?_);try simp(disch:=first|omega|assumption|((repeat(first|exact A1|exact uH|apply A2|apply uT));first|done|fail)|(simp;first|done|omega|fail))[AnsV.val]))
  rw [← hbz]
  refine Sels.tw ?_ (A4b (b13 := b13) (b11 := b11) (bc := bc) (c := c) (z1 := z1) (x2 := x2) (y := y) (ya := ya) (yc := yc) (an := an) hyp0 hyo hiz hj2 (by rw [hst, hstz]; exact hdo) fun z2 hbz2 hstz2 => ?_)
  ·simp only [B6, C7, List.cons_append, List.nil_append]
   (repeat' constructor)
  ·have h := hL hlt (z1, z2) ⟨hbz.trans hb1, hbz2.trans hb2, hstz2, hiz⟩
   simp only [B6, C7, List.cons_append, List.nil_append] at h ⊢
   (have zz:=trivial;repeat((first|clear zz|with_reducible first|refine A3 ?_|refine A5 fun _=>?_|refine A4 fun _=>?_);try simp(disch:=first|omega|assumption|((repeat(first|exact A1|exact uH|apply A2|apply uT));first|done|fail)|(simp;first|done|omega|fail))[]))
   exact h
 rw [if_neg k0]
 by_cases k1 : y.1.1.kind = 1
 ·rw [if_pos k1]
  refine B7F (p := y.1.1.pool) (s2, an) hj1 (by simp only [B6]; (repeat' constructor)) (fun w' hw' => A9C hw' hyp0 (by omega)) (by rw [← B2d _ _ _ k1]; exact hdo) fun z1 hbz hstz hiz => ?_
  simp only [B6, C7, List.cons_append, List.nil_append]
  (have zz:=trivial;repeat((first|clear zz|with_reducible first|refine A3 ?_|refine A5 fun _=>?_|refine A4 fun _=>?_);try simp(disch:=first|omega|assumption|((repeat(first|exact A1|exact uH|apply A2|apply uT));first|done|fail)|(simp;first|done|omega|fail))[AnsV.val]))
  rw [← hbz]
  refine Sels.tw ?_ (A4b (b13 := b13) (b11 := b11) (bc := bc) (c := c) (z1 := z1) (x2 := x2) (y := y) (ya := ya) (yc := yc) (an := an) hyp0 hyo hiz hj2 (by rw [hst, hstz]; exact hdo) fun z2 hbz2 hstz2 => ?_)
  ·simp only [B6, C7, List.cons_append, List.nil_append]
   (repeat' constructor)
  ·have h := hL hlt (z1, z2) ⟨hbz.trans hb1, hbz2.trans hb2, hstz2, hiz⟩
   simp only [B6, C7, List.cons_append, List.nil_append] at h ⊢
   (have zz:=trivial;repeat((first|clear zz|with_reducible first|refine A3 ?_|refine A5 fun _=>?_|refine A4 fun _=>?_);try simp(disch:=first|omega|assumption|((repeat(first|exact A1|exact uH|apply A2|apply uT));first|done|fail)|(simp;first|done|omega|fail))[]))
   exact h
 rw [if_neg k1]
 by_cases k2 : y.1.1.kind = 2
 ·rw [if_pos k2]
  refine B2U (s2, an) hj1 (by simp only [B6]; (repeat' constructor)) (by rw [← B3U _ _ _ k2]; exact hdo) fun z1 hbz hstz hiz => ?_
  simp only [B6, C7, List.cons_append, List.nil_append]
  (have zz:=trivial;repeat((first|clear zz|with_reducible first|refine A3 ?_|refine A5 fun _=>?_|refine A4 fun _=>?_);try simp(disch:=first|omega|assumption|((repeat(first|exact A1|exact uH|apply A2|apply uT));first|done|fail)|(simp;first|done|omega|fail))[AnsV.val]))
  rw [← hbz]
  refine Sels.tw ?_ (A4b (b13 := b13) (b11 := b11) (bc := bc) (c := c) (z1 := z1) (x2 := x2) (y := y) (ya := ya) (yc := yc) (an := an) hyp0 hyo hiz hj2 (by rw [hst, hstz]; exact hdo) fun z2 hbz2 hstz2 => ?_)
  ·simp only [B6, C7, List.cons_append, List.nil_append]
   (repeat' constructor)
  ·have h := hL hlt (z1, z2) ⟨hbz.trans hb1, hbz2.trans hb2, hstz2, hiz⟩
   simp only [B6, C7, List.cons_append, List.nil_append] at h ⊢
   (have zz:=trivial;repeat((first|clear zz|with_reducible first|refine A3 ?_|refine A5 fun _=>?_|refine A4 fun _=>?_);try simp(disch:=first|omega|assumption|((repeat(first|exact A1|exact uH|apply A2|apply uT));first|done|fail)|(simp;first|done|omega|fail))[]))
   exact h
 rw [if_neg k2]
 by_cases k3 : y.1.1.kind = 3
 ·rw [if_pos k3]
  have hstat : u3 x1.st = (s2, an) := by rw [← B4y x1.st y.1.1 y.2 k3]; exact hdo
  have hs2 : x1.st = s2 := congrArg Prod.fst hstat
  have han : (u3 x1.st).2 = an := congrArg Prod.snd hstat
  refine B0z hj1 (by simp only [B6]; (repeat' constructor)) fun z1 hbz hstz0 => ?_
  have hstz : z1.st = s2 := hstz0.trans hs2
  have hiz : Inv c z1.st := by rw [hstz0]; exact hj1
  rw [han]
  simp only [B6, C7, List.cons_append, List.nil_append]
  (have zz:=trivial;repeat((first|clear zz|with_reducible first|refine A3 ?_|refine A5 fun _=>?_|refine A4 fun _=>?_);try simp(disch:=first|omega|assumption|((repeat(first|exact A1|exact uH|apply A2|apply uT));first|done|fail)|(simp;first|done|omega|fail))[AnsV.val]))
  rw [← hbz]
  refine Sels.tw ?_ (A4b (b13 := b13) (b11 := b11) (bc := bc) (c := c) (z1 := z1) (x2 := x2) (y := y) (ya := ya) (yc := yc) (an := an) hyp0 hyo hiz hj2 (by rw [hst, hstz]; exact hdo) fun z2 hbz2 hstz2 => ?_)
  ·simp only [B6, C7, List.cons_append, List.nil_append]
   (repeat' constructor)
  ·have h := hL hlt (z1, z2) ⟨hbz.trans hb1, hbz2.trans hb2, hstz2, hiz⟩
   simp only [B6, C7, List.cons_append, List.nil_append] at h ⊢
   (have zz:=trivial;repeat((first|clear zz|with_reducible first|refine A3 ?_|refine A5 fun _=>?_|refine A4 fun _=>?_);try simp(disch:=first|omega|assumption|((repeat(first|exact A1|exact uH|apply A2|apply uT));first|done|fail)|(simp;first|done|omega|fail))[]))
   exact h
 rw [if_neg k3]
 ·refine C0b (o := y.1.1) (v := .slice ya y.1.1.pool.length yc) (now := y.2) (s2, an) hj1 (by simp only [B6]; (repeat' constructor)) (fun w' hw' => A9C hw' hyp0 (by omega)) hpk hdo fun z1 hbz hstz hiz => ?_
  simp only [B6, C7, List.cons_append, List.nil_append]
  (have zz:=trivial;repeat((first|clear zz|with_reducible first|refine A3 ?_|refine A5 fun _=>?_|refine A4 fun _=>?_);try simp(disch:=first|omega|assumption|((repeat(first|exact A1|exact uH|apply A2|apply uT));first|done|fail)|(simp;first|done|omega|fail))[AnsV.val]))
  rw [← hbz]
  refine Sels.tw ?_ (A4b (b13 := b13) (b11 := b11) (bc := bc) (c := c) (z1 := z1) (x2 := x2) (y := y) (ya := ya) (yc := yc) (an := an) hyp0 hyo hiz hj2 (by rw [hst, hstz]; exact hdo) fun z2 hbz2 hstz2 => ?_)
  ·simp only [B6, C7, List.cons_append, List.nil_append]
   (repeat' constructor)
  ·have h := hL hlt (z1, z2) ⟨hbz.trans hb1, hbz2.trans hb2, hstz2, hiz⟩
   simp only [B6, C7, List.cons_append, List.nil_append] at h ⊢
   (have zz:=trivial;repeat((first|clear zz|with_reducible first|refine A3 ?_|refine A5 fun _=>?_|refine A4 fun _=>?_);try simp(disch:=first|omega|assumption|((repeat(first|exact A1|exact uH|apply A2|apply uT));first|done|fail)|(simp;first|done|omega|fail))[]))
   exact h
end Go.Proofs.YtpbmephflllolaaGreat
