/- The proof of a given statement, a part of it (Def ShBalancer Bal Bal2 Bal3 Bal4 Bal5 ShR08 ShR11 Rf11 ShR02 Rf02 Rf11b Rf12 ShR09 ShR10 ShR01 Rf01 Without Rf09 Makes Rf17a ShR07 ShR05 ShR06 ShR03 ShR04 Rf03 Rf04 Rf07 Rf08 ShR13 Rf13 Rf17b Rf17c Rf17d Rf17e Rf24 Bal6 BalT Works24 Few24 Rtp CloL ShL24BalancerApart BApartW ShL24BalancerClose BCloseW). No condition but what each lemma says. -/
import Derived.Defers
import Derived.Test.YtpbmephflllolaaGreatE17
set_option linter.unusedVariables false
set_option linter.unusedSimpArgs false
namespace Go.Proofs.YtpbmephflllolaaGreat
open Go
def FnD (P : Program) (X : Nat → Prop) (f : FuncId) (args : Array Value) (w : World) (R : Value → WP) : Prop :=
 CallsD P f args .returning w fun e u' w' => ∃ v, e = .returned v ∧ u' = .returning ∧ R v w' ∧ Sk X w w'
def dfr (P : Program) (X : Nat → Prop) (g : Value) (A : WP) : WP :=
 match g with
 | .func (.func f) first cap => fun w => A9 P f ∧ FnD P X f (first.toList ++ cap.toList).toArray w fun _ => A
 | _ => E0
def isf (g : Value) (A : WP) : WP := fun w => (∃ f first cap, g = .func (.func f) first cap) ∧ A w
def A4P (o : Oper) : Option Operand :=
 match o.guard, o.dst with
 | none, none => match o.op with
  | .defer c => match c.callee, c.args.toList with
   | .value g, [] => some g
   | _, _ => none
  | _ => none
 | _, _ => none
def A19 : List Oper → Option (List Oper × Operand)
 | [] => none
 | o :: r => match r with
  | [] => match A4P o with | some g => some ([], g) | none => none
  | _ :: _ => match A19 r with | some (l, g) => some (o :: l, g) | none => none
def B1q : Code → Option (Array Oper × List Oper × Operand)
 | .region _ ops false => match A19 ops.toList with | some (l, g) => some (ops, l, g) | none => none
 | _ => none
def vcD (P : Program) (X : Nat → Prop) (n : Nat) (fn : D3 → WP) : Code → D3 → WP
 | .seq a b, e =>
  match B1q a with
  | some (ops, l, g) => A81 P X n ops l e fun e' => w1 (ev n e' g) fun gv => isf gv (vc P X n false b e' (fun e => dfr P X gv (fn e)) { exit := fun _ _ => E0, ret := fun e => dfr P X gv (fn e) })
  | none => vc P X n false a e (fun e' => vcD P X n fn b e') { exit := fun _ _ => E0, ret := fn }
 | _, _ => E0
def A6m (P : Program) (X : Nat → Prop) (fn : Func) (args : List Value) (R : Value → WP) : WP :=
 match fn.body with
 | none => E0
 | some c => match Nat.ble args.length fn.ntmps with
  | false => E0
  | true => match H7 c with
   | true => E0
   | false => vcD P X fn.ntmps (S7 P fn.ntmps fn.results.toList R) c (y3 0 args)
theorem C0M {P : Program} {X : Nat → Prop} {n : Nat} {ro : Option Nat} {ops : Array Oper} {K : D3 → WP} : ∀ (l : List Oper) (i : Nat), (∀ j o, l[j]? = some o → ops[i + j]? = some o) → ∀ (e : D3) (a : Act) (w : World),
  e.Ok n a → A81 P X n ops l e K w → S1 P X ro ops (fun a w => ∃ e', D3.Ok n e' a ∧ K e' w) (List.range' i l.length) a w := by
 intro l
 induction l with
 | nil => intro i _ e a w hok h; exact ⟨e, hok, h⟩
 | cons o l ih =>
  intro i hi e a w hok h
  have ho : ops[i]? = some o := hi 0 o rfl
  have h2 : ∀ j o', l[j]? = some o' → ops[i + 1 + j]? = some o' := fun j o' hj => by
   have := hi (j + 1) o' (by simpa using hj)
   rw [show i + 1 + j = i + (j + 1) from by omega]; exact this
  simp only [List.length_cons, List.range'_succ, S1]
  unfold W4
  rw [ho]; simp only []
  rcases u7 hok h with ⟨hw, hy⟩ | ⟨hw, hn, _⟩
  ·rw [if_pos hw]
   exact (B9e hok hy).mono fun v w' hv => ih (i + 1) h2 _ _ _ (hok.put _ _) hv
  ·rw [if_neg (by simp [hw])]
   exact ih (i + 1) h2 _ _ _ (hok.put _ _) hn
theorem B45 {P : Program} {X : Nat → Prop} {b : Frame} {ops : Array Oper} {Q : Act → World → Prop} (rest : List Nat) (l : List Nat) : ∀ (a : Act) (w : World), S1 P X b.roundOf ops Q l a w → ∀ (k : List Item) (cs : List Frame),
  ∃ a' w', Q a' w' ∧ Sk X w w' ∧ a'.defers = a.defers ∧ Steps P (lone (b.atR a (.inRegion ops (l ++ rest) :: k)) cs w) (lone (b.atR a' (.inRegion ops rest :: k)) cs w') := by
 induction l with
 | nil => exact fun a w h k cs => ⟨a, w, h, Sk.refl _ _, rfl, Steps.refl _ _⟩
 | cons i l ih =>
  intro a w h k cs
  obtain ⟨a₁, w₁, hK, hs, hd, st⟩ := B2b (rest := l ++ rest) h k cs
  obtain ⟨a₂, w₂, hQ, hs₂, hd₂, st₂⟩ := ih a₁ w₁ hK k cs
  exact ⟨a₂, w₂, hQ, hs.trans hs₂, hd₂.trans hd, st.trans st₂⟩
theorem B3E : ∀ {L l : List Oper} {g : Operand}, A19 L = some (l, g) → ∃ o, L = l ++ [o] ∧ A4P o = some g := by
 intro L
 induction L with
 | nil => intro l g h; cases h
 | cons o r ih =>
  intro l g h
  cases r with
  | nil =>
   simp only [A19] at h
   cases hd : A4P o with
   | none => rw [hd] at h; cases h
   | some g' => rw [hd] at h; cases h; exact ⟨o, rfl, hd⟩
  | cons o' r =>
   rw [A19] at h
   cases hs : A19 (o' :: r) with
   | none => rw [hs] at h; cases h
   | some p =>
    obtain ⟨l', g'⟩ := p
    rw [hs] at h; cases h
    obtain ⟨o2, h1, h2⟩ := ih hs
    exact ⟨o2, by rw [h1]; rfl, h2⟩
theorem B4s {P : Program} {n : Nat} {b : Frame} {ops : Array Oper} {i : Nat} {o : Oper} {g : Operand} {f : FuncId} {first cap : Array Value} {e : D3} {a : Act} {w : World} (hb : b.roundOf = none)
  (ho : ops[i]? = some o) (hd : A4P o = some g) (hok : e.Ok n a) (hg : ev n e g = some (.func (.func f) first cap)) (k : List Item) (cs : List Frame) :
  Steps P (lone (b.atR a (.inRegion ops [i] :: k)) cs w) (lone (b.atR { a with defers := { target := .fn (.func f) cap, args := first ++ #[] } :: a.defers } k) cs w) := by
 obtain ⟨dst, op, type, pos, after, guard⟩ := o
 unfold A4P at hd
 cases guard <;> cases dst <;> simp only [reduceCtorEq] at hd
 cases op <;> simp only [reduceCtorEq] at hd
 rename_i c
 obtain ⟨callee, cargs, ctypes⟩ := c
 cases callee <;> simp only [reduceCtorEq] at hd
 rename_i f'
 have ha : cargs = #[] := by
  cases hc : cargs.toList with
  | nil => exact Array.toList_inj.1 (by simpa using hc)
  | cons x xs => rw [hc] at hd; cases hd
 subst ha
 simp only [Option.some.injEq] at hd
 subst hd
 have hgv := D9 hok hg
 have hgo := stepGR_op (P := P) (b := b) (a := a) (k := k) (cs := cs) (w := w) (rest := []) ho rfl
 have hr : (Oper.semAt b.roundOf a.eval ⟨none, .defer ⟨.value f', #[], ctypes⟩, type, pos, after, none⟩).run P w = .ok (.defer { target := .fn (.func f) cap, args := first ++ #[] }) w := by
  rw [hb, Oper.semAt_none]
  simp only [execOp, resolve, Array.map_empty, hgv, Deferred.ofValue]
  rfl
 refine .head (step_lone_go ?_) (.one (stepR_region_end (ops := ops)))
 rw [hgo]
 simp only [stepG.apply, Sem.runT_eq, hr]
 have hf := Frame.finish_atR b { a with defers := { target := .fn (.func f) cap, args := first ++ #[] } :: a.defers } ops i [] k undef
 rw [ho] at hf
 simp only [Option.bind_some, Act.put] at hf
 rw [← hf]
 rfl
def C6N (P : Program) (X : Nat → Prop) (n : Nat) (fn : D3 → WP) (a : Act) (w : World) : Prop :=
 ∃ e, D3.Ok n e a ∧ ((a.defers = [] ∧ fn e w) ∨ ∃ f first cap, a.defers = [{ target := .fn (.func f) cap, args := first ++ #[] }] ∧ dfr P X (.func (.func f) first cap) (fn e) w)
theorem C2A {P : Program} {X : Nat → Prop} {n : Nat} {b : Frame} {fn : D3 → WP} (hm : P.follows .mixedOrders = true) (hb : b.roundOf = none) (cs : List Frame) : ∀ (c : Code) (e : D3) (a : Act) (w : World),
  H7 c = false → e.Ok n a → a.defers = [] → vcD P X n fn c e w →
  ∃ a' w' k0, Steps P (lone (b.atR a [.code c]) cs w) (lone { b.atR a' k0 with mode := .returning } cs w') ∧ Sk X w w' ∧ C6N P X n fn a' w' := by
 intro c
 induction c with
 | seq x y _ ih =>
  intro e a w hr hok hd h
  simp only [H7, Bool.or_eq_false_iff] at hr
  simp only [vcD] at h
  cases hs : B1q x with
  | none =>
   rw [hs] at h; simp only [] at h
   obtain ⟨ex, a1, w1, ms, hq, hsk, hda, hmk, harr⟩ := B1a hm x X b false _ _ _ _ w trivial (fun _ => hb) hok h [.code y] cs
   cases ex with
   | nrm =>
    obtain ⟨⟨e1, hok1, hv⟩, hkp⟩ := hq
    have hd1 : a1.defers = [] := by rw [hkp.2 hr.1, hd]
    obtain ⟨a', w', k0, hst, hsk2, hend⟩ := ih e1 a1 w1 hr.2 hok1 hd1 hv
    exact ⟨a', w', k0, .head stepR_seq (Steps.trans harr hst), hsk.trans hsk2, hend⟩
   | ret =>
    obtain ⟨⟨e1, hok1, hv⟩, hkp⟩ := hq
    have hd1 : a1.defers = [] := by rw [hkp.2 hr.1, hd]
    obtain ⟨k0, hs0⟩ := harr
    exact ⟨a1, w1, _, .head stepR_seq (Steps.trans hs0 (.one (stepR_ret hb))), hsk, e1, hok1, .inl ⟨hd1, hv⟩⟩
   | exit i => obtain ⟨⟨_, _, hv⟩, _⟩ := hq; exact hv.elim
   | goto l => exact hq.1.elim
  | some t =>
   obtain ⟨ops, l, g⟩ := t
   rw [hs] at h; simp only [] at h
   cases x with
   | region id ops' draw =>
    cases draw with
    | true => cases hs
    | false =>
     simp only [B1q] at hs
     cases hsp : A19 ops'.toList with
     | none => rw [hsp] at hs; cases hs
     | some q =>
      obtain ⟨l', g'⟩ := q
      rw [hsp] at hs; cases hs
      obtain ⟨o, hL, hdc⟩ := B3E hsp
      have hsz : ops.size = l.length + 1 := by rw [← Array.length_toList, hL]; simp
      have hg0 : ∀ j : Nat, ops[j]? = (l ++ [o])[j]? := fun j => by rw [← hL]; simp
      have hreg := C0M (P := P) (X := X) (ro := b.roundOf) (ops := ops) l 0 (fun j o' hj => by
       rw [Nat.zero_add, hg0, List.getElem?_append_left (List.getElem?_eq_some_iff.1 hj).1]; exact hj) e a w hok h
      have hrange : List.range ops.size = List.range' 0 l.length ++ [l.length] := by
       rw [hsz, List.range_succ, List.range_eq_range']
      obtain ⟨a1, w1, ⟨e1, hok1, hv⟩, hsk, hda, hst⟩ := B45 (b := b) [l.length] (List.range' 0 l.length) a w hreg [.code y] cs
      obtain ⟨gv, hgv, hv⟩ := G8 hv
      rw [← hrange] at hst
      have hst0 : Steps P (lone (b.atR a [.code (.seq (.region id ops false) y)]) cs w) (lone (b.atR a1 [.inRegion ops [l.length], .code y]) cs w1) := .head stepR_seq (.head stepR_region hst)
      -- the value is a function's
      have hlast : ops[l.length]? = some o := by rw [hg0]; simp
      have hd1 : a1.defers = [] := by rw [hda, hd]
      -- on
      obtain ⟨⟨f, first, cap, rfl⟩, hv⟩ := hv
      have hds := B4s (P := P) (b := b) (w := w1) hb hlast hdc hok1 hgv [.code y] cs
      have hok2 : D3.Ok n e1 { a1 with defers := { target := .fn (.func f) cap, args := first ++ #[] } :: a1.defers } := hok1
      obtain ⟨ex, a2, w2, ms, hq, hsk2, hda2, hmk, harr⟩ := B1a hm y X b false _ _ _ _ w1 trivial (fun _ => hb) hok2 hv [] cs
      have fd : Q3 y { a1 with defers := { target := .fn (.func f) cap, args := first ++ #[] } :: a1.defers } a2 → a2.defers = [{ target := .fn (.func f) cap, args := first ++ #[] }] := fun hkp => (hkp.2 hr.2).trans (congrArg (List.cons _) hd1)
      cases ex with
      | nrm =>
       obtain ⟨⟨e2, hok2, hv2⟩, hkp⟩ := hq
       exact ⟨a2, w2, [], (hst0.trans hds).trans (Steps.trans harr (.one (stepR_end hb))), hsk.trans hsk2, e2, hok2, .inr ⟨f, first, cap, fd hkp, hv2⟩⟩
      | ret =>
       obtain ⟨⟨e2, hok2, hv2⟩, hkp⟩ := hq
       obtain ⟨k0, hs0⟩ := harr
       exact ⟨a2, w2, _, (hst0.trans hds).trans (Steps.trans hs0 (.one (stepR_ret hb))), hsk.trans hsk2, e2, hok2, .inr ⟨f, first, cap, fd hkp, hv2⟩⟩
      | exit i => obtain ⟨⟨_, _, hv⟩, _⟩ := hq; exact hv.elim
      | goto l => exact hq.1.elim
   | _ => cases hs
 | _ => intro e a w _ _ _ h; exact h.elim
theorem A6c {P : Program} {X : Nat → Prop} {f : FuncId} {fn : Func} {args : List Value} {R : Value → WP} {w : World} (hm : P.follows .mixedOrders = true) (hf : P.funcs[f]? = some fn)
  (h : A6m P X fn args R w) : Fn P X f args.toArray w R := by
 unfold A6m at h
 cases hbody : fn.body with
 | none => rw [hbody] at h; exact h.elim
 | some c =>
  rw [hbody] at h; simp only [] at h
  cases hle : Nat.ble args.length fn.ntmps with
  | false => rw [hle] at h; exact h.elim
  | true =>
   rw [hle] at h; simp only [] at h
   have hle' : args.length ≤ fn.ntmps := by simpa using hle
   cases hr : H7 c with
   | true => rw [hr] at h; exact h.elim
   | false =>
    rw [hr] at h; simp only [] at h
    intro cs
    let b : Frame := { (default : Frame) with fn := f, kind := .normal }
    have henter : Frame.enter P f args.toArray .normal = b.atR { tmps := args.toArray ++ Array.replicate (fn.ntmps - args.toArray.size) undef, defers := [] } [.code c] := by
     simp [Frame.enter, Frame.atR, hf, hbody, b]
     rfl
    have hok : D3.Ok fn.ntmps (y3 0 args) { tmps := args.toArray ++ Array.replicate (fn.ntmps - args.toArray.size) undef, defers := [] } := by
     refine ⟨by simp; omega, fun t v ht hg => ?_⟩
     obtain ⟨_, h2⟩ := A70 args 0 t v hg
     simp only [Nat.sub_zero] at h2
     have hlt : t < args.length := (List.getElem?_eq_some_iff.1 h2).1
     simp only []
     rw [Array.getElem?_append_left (by simpa using hlt)]
     simpa using h2
    obtain ⟨a', w', k0, hst, hsk, e', hok', hend⟩ := C2A (b := b) hm rfl cs c _ _ w hr hok rfl h
    rw [← henter] at hst
    rcases hend with ⟨hd, hfin⟩ | ⟨g, first, cap, hd, hdf⟩
    ·obtain ⟨v, hv, hR⟩ := A4Q hok' hfin
     exact ⟨.returned v, w', { b.atR a' k0 with mode := .returning }, ⟨v, rfl, hR, hsk⟩, hst, rfl, rfl, hd, rfl, fn, hf, hv⟩
    ·obtain ⟨hent, hcd⟩ := hdf
     have hl : Leaves P fn a'.tmps (fun e w'' => ∃ v, e = .returned v ∧ R v w'' ∧ Sk X w w'') a'.defers .returning w' := by
      rw [hd]
      refine leaves_cons (by simp) (hent _ w') ?_
      have hcd' := hcd
      rw [show (first.toList ++ cap.toList).toArray = (first ++ #[]) ++ cap from by simp] at hcd'
      refine CallsD.mono hcd' ?_
      rintro e u' w'' ⟨v, rfl, rfl, hf2, hsk2⟩
      obtain ⟨v', hv', hR'⟩ := A4Q hok' hf2
      exact ⟨v', hv', v', rfl, hR', hsk.trans hsk2⟩
     obtain ⟨e2, w2, fr, hR, hs2, hfn2, hl2⟩ := leaves_steps a'.defers .returning w' { b.atR a' k0 with mode := .returning } cs rfl rfl rfl hf rfl hl
     exact ⟨e2, w2, fr, hR, Comes.of_steps hst hs2, hfn2, hl2⟩
theorem B7k {P : Program} {X : Nat → Prop} {f : FuncId} {fn : Func} {args : List Value} {R : Value → WP} {w : World} (hm : P.follows .mixedOrders = true) (hf : P.funcs[f]? = some fn)
  (h : A6q P X fn args R w) : FnD P X f args.toArray w R := by
 unfold A6q at h
 cases hbody : fn.body with
 | none => rw [hbody] at h; exact h.elim
 | some c =>
  rw [hbody] at h; simp only [] at h
  cases hle : Nat.ble args.length fn.ntmps with
  | false => rw [hle] at h; exact h.elim
  | true =>
   rw [hle] at h; simp only [] at h
   have hle' : args.length ≤ fn.ntmps := by simpa using hle
   intro c0 cs0 hc0
   have hc : ({ c0 with mode := .returning } : Frame) = c0 := by rw [← hc0]
   let cs := c0 :: cs0
   let b : Frame := { (default : Frame) with fn := f, kind := .deferred }
   have henter : Frame.enter P f args.toArray .deferred = b.atR { tmps := args.toArray ++ Array.replicate (fn.ntmps - args.toArray.size) undef, defers := [] } [.code c] := by
    simp [Frame.enter, Frame.atR, hf, hbody, b]
    rfl
   have hok : D3.Ok fn.ntmps (y3 0 args) { tmps := args.toArray ++ Array.replicate (fn.ntmps - args.toArray.size) undef, defers := [] } := by
    refine ⟨by simp; omega, fun t v ht hg => ?_⟩
    obtain ⟨_, h2⟩ := A70 args 0 t v hg
    simp only [Nat.sub_zero] at h2
    have hlt : t < args.length := (List.getElem?_eq_some_iff.1 h2).1
    simp only []
    rw [Array.getElem?_append_left (by simpa using hlt)]
    simpa using h2
   have ending : ∀ (a' : Act) (w' : World) (ms : List Deferred) (k0 : List Item), a'.defers = ms ++ [] → Q2 w.heap.size w' ms → Sk X w w' →
     (∃ e', D3.Ok fn.ntmps e' a' ∧ ((ms = [] ∧ S7 P fn.ntmps fn.results.toList R e' w') ∨ ∀ w'', U0 w' w'' → S7 P fn.ntmps fn.results.toList R e' w'')) →
     ∀ (m : Machine), Steps P m (lone { b.atR a' k0 with mode := .returning } cs w') →
     ∃ e w'' fr, (∃ v, e = .returned v ∧ R v w'' ∧ Sk X w w'') ∧ Comes P m (lone fr cs w'') e ∧ fr.kind = .deferred ∧ fr.going P w'' e := by
    intro a' w' ms k0 hd hmk hsk ⟨e', hok', hfin⟩ m hs
    rcases hfin with ⟨hms, hfin⟩ | hfin
    ·subst hms
     obtain ⟨v, hv, hR⟩ := A4Q hok' hfin
     exact ⟨.returned v, w', { b.atR a' k0 with mode := .returning }, ⟨v, rfl, hR, hsk⟩, hs, rfl, rfl, hd, fn, hf, hv⟩
    obtain ⟨w'', hdq, hst, hlow, hcalm⟩ := A51 (P := P) ms { b.atR a' k0 with mode := .returning } cs w' rfl (by simpa [Frame.atR] using hd) hmk
    obtain ⟨v, hv, hR⟩ := A4Q hok' (hfin w'' hdq)
    refine ⟨.returned v, w'', { { b.atR a' k0 with mode := .returning } with defers := [] }, ⟨v, rfl, hR, ?_⟩, hs.trans hst, rfl, rfl, rfl, fn, hf, hv⟩
    refine ⟨by rw [hdq.1]; exact hsk.1, fun r d hr => ?_, fun r lo hx hr => ?_, hsk.2.2.2.trans hcalm⟩
    ·rw [hlow r (Array.getElem?_eq_some_iff.1 hr).1]; exact hsk.2.1 r d hr
    ·rw [hlow r (Array.getElem?_eq_some_iff.1 hr).1]; exact hsk.2.2.1 r lo hx hr
   have go : ∀ (k : D3 → WP) (ex : Nat → D3 → WP), (∀ i e, ex i e = E0) → vc P X fn.ntmps false c (y3 0 args) k { exit := ex, ret := k } w →
     (∀ e a' w' ms, Q3 c { tmps := args.toArray ++ Array.replicate (fn.ntmps - args.toArray.size) undef, defers := [] } a' → a'.defers = ms ++ [] → D3.Ok fn.ntmps e a' → k e w' →
      (ms = [] ∧ S7 P fn.ntmps fn.results.toList R e w') ∨ ∀ w'', U0 w' w'' → S7 P fn.ntmps fn.results.toList R e w'') →
     ∃ e w'' fr, (∃ v, e = .returned v ∧ R v w'' ∧ Sk X w w'') ∧ Comes P (lone (Frame.enter P f args.toArray .deferred) cs w) (lone fr cs w'') e ∧ fr.kind = .deferred ∧ fr.going P w'' e := by
    intro k ex hex hvc hk
    obtain ⟨e, a', w', ms, hq, hsk, hd, hmk, harr⟩ := B1a hm c X b false _ _ _ _ w trivial (fun _ => rfl) hok hvc [] cs
    rw [← henter] at harr
    cases e with
    | nrm =>
     obtain ⟨⟨e', hok', hke⟩, hkp⟩ := hq
     exact ending a' w' ms [] hd hmk hsk ⟨e', hok', hk e' a' w' ms hkp hd hok' hke⟩ _ (Steps.trans harr (.one (stepR_end rfl)))
    | ret =>
     obtain ⟨⟨e', hok', hke⟩, hkp⟩ := hq
     obtain ⟨k0, hs0⟩ := harr
     exact ending a' w' ms _ hd hmk hsk ⟨e', hok', hk e' a' w' ms hkp hd hok' hke⟩ _ (Steps.trans hs0 (.one (stepR_ret rfl)))
    | exit i => obtain ⟨⟨e', _, hke⟩, _⟩ := hq; simp only [hex] at hke; exact hke.elim
    | goto l => exact hq.1.elim
   have done : (∃ e w'' fr, (∃ v, e = .returned v ∧ R v w'' ∧ Sk X w w'') ∧ Comes P (lone (Frame.enter P f args.toArray .deferred) cs w) (lone fr cs w'') e ∧ fr.kind = .deferred ∧ fr.going P w'' e) →
     ∃ e u' w' fr, (∃ v, e = .returned v ∧ u' = FrameMode.returning ∧ R v w' ∧ Sk X w w') ∧
      Comes P (lone (Frame.enter P f args.toArray .deferred) (c0 :: cs0) w) (lone fr ({ c0 with mode := u' } :: cs0) w') e ∧ fr.kind = .deferred ∧ fr.going P w' e := by
    rintro ⟨e, w'', fr, ⟨v, rfl, hR, hsk⟩, hcm, hk, hg⟩
    exact ⟨.returned v, .returning, w'', fr, ⟨v, rfl, rfl, hR, hsk⟩, (by rw [hc]; exact hcm), hk, hg⟩
   cases hr : H7 c with
   | true =>
    rw [hr] at h
    exact done (go _ _ (fun _ _ => rfl) h fun e a' w' ms _ _ _ hke => .inr hke)
   | false =>
    rw [hr] at h
    refine done (go _ _ (fun _ _ => rfl) h fun e a' w' ms hkp hd _ hke => .inl ⟨?_, hke⟩)
    have := hkp.2 hr
    rw [hd] at this
    simpa using this
end Go.Proofs.YtpbmephflllolaaGreat
namespace Go.Proofs.YtpbmephflllolaaGreat
open Go
def A3F (X : Nat → Prop) (t0 : Value) (R : Value → WP) : WP :=
 B1 PR X (Instr.box 23 t0) fun t1 =>
 jn (n := 2) (fun t2 t3 =>
 A6 PR (Instr.loadAt 23 t1) fun t11 =>
 A0 PR (Instr.build 88 #[(0, t11)]) fun t12 =>
 B1 PR X (Instr.box 88 t12) fun t13 =>
 A0 PR (F5 t13) fun t15 =>
 A0 PR (Instr.fieldAt 88 t15 1) fun t16 =>
 A0 PR (Instr.build 92 #[]) fun t17 =>
 B1 PR X (Instr.box 92 t17) fun t18 =>
 B2 PR X 36 [t16, t18] fun t19 =>
 jn (n := 1) (fun t22 =>
 R (.tuple #[t13, (.int .i64 0)])) fun J1 =>
 A0 PR (Instr.fieldAt 23 t1 1) fun t20 =>
 A6 PR (Instr.loadAt 3 t20) fun t21 =>
 lp (n := 1) (fun L2 t22_1 =>
 A0 PR (binOp .lss 3 t22_1 t21) fun t23 =>
 jn (n := 0) (
 jn (n := 0) (
 A0 PR (binOp .add 3 t22_1 (.int .i64 1)) fun t38 =>
 L2 t38) fun J3 =>
 drw <|
 A0 PR (F5 t13) fun t26 =>
 A0 PR (Instr.fieldAt 88 t26 2) fun t27 =>
 A6 PR (Instr.loadAt 86 t27) fun t28 =>
 A0 PR (Instr.fieldAt 23 t1 2) fun t29 =>
 A6 PR (Instr.loadAt 3 t29) fun t30 =>
 B2 PR X 37 [t30] fun t31 =>
 watch PR [(none, (Instr.loadAt 86 t27), t28)] <|
 A0 PR (Instr.build 103 #[(1, t31)]) fun t32 =>
 B1 PR X (Instr.box 103 t32) fun t33 =>
 watch PR [(none, (Instr.loadAt 86 t27), t28)] <|
 B1 PR X (Instr.buildSlice 86 1 #[(0, t33)]) fun t34 =>
 watch PR [(none, (Instr.loadAt 86 t27), t28)] <|
 B1 PR X (A8 .append #[86, 86] 86 [t28, t34]) fun t35 =>
 A0 PR (F5 t13) fun t36 =>
 A0 PR (Instr.fieldAt 88 t36 2) fun t37 =>
 C3 PR X (Instr.storeAt 86 t37 t35) <|
 J3) fun J4 =>
 C5 t23 (
 J4) (
 J1 t22_1)) (.int .i64 0)) fun J5 =>
 A6 PR (Instr.loadAt 23 t1) fun t6 =>
 B2 PR X 35 [t6] fun t7 =>
 A0 PR (binOp .neq 28 t7 (.int .i64 0)) fun t9 =>
 C5 t9 (
 R (.tuple #[(.pointer none), t7])) (
 J5 (.pointer none) (.int .i64 0))
theorem A7r : A9 PR 10 := A7 Tryz.func10 (by kernel_rfl) rfl
theorem A86 {X : Nat → Prop} {t0 : Value} {R : Value → WP} {w : World} (h : A3F X t0 R w) : Fn PR X 10 #[t0] w R := D5 (args := [t0]) mixed Tryz.func10 (by kernel_rfl) h
def p6 (X : Nat → Prop) (t0 t1 t2 : Value) (R : Value → WP) : WP :=
 B1 PR X (Instr.box 42 t1) fun t4 =>
 B1 PR X (Instr.alloc 39 true (.tuple #[])) fun t6 =>
 jn (n := 0) (
 A0 PR (Instr.build 39 #[(0, (.int .i64 1))]) fun t33 =>
 C3 PR X (Instr.storeAt 39 t6 t33) <|
 A6 PR (E3 [.c 39 t6]) R) fun J1 =>
 A0 PR (Instr.fieldAt 42 t4 0) fun t7 =>
 A6 PR (Instr.loadAt 3 t7) fun t8 =>
 A0 PR (binOp .eql 3 t8 (.int .i64 0)) fun t10 =>
 C5 t10 (
 A0 PR (Instr.fieldAt 42 t4 1) fun t12 =>
 A6 PR (Instr.loadAt 9 t12) fun t13 =>
 B2 PR X 24 [t0, t13, t2] fun t15 =>
 C3 PR X (Instr.storeAt 39 t6 t15) <|
 A6 PR (E3 [.c 39 t6]) R) (
 A0 PR (binOp .eql 3 t8 (.int .i64 1)) fun t17 =>
 C5 t17 (
 A0 PR (Instr.fieldAt 42 t4 2) fun t19 =>
 A6 PR (Instr.loadAt 32 t19) fun t20 =>
 B2 PR X 26 [t0, t20] fun t21 =>
 C3 PR X (Instr.storeAt 39 t6 t21) <|
 A6 PR (E3 [.c 39 t6]) R) (
 A0 PR (binOp .eql 3 t8 (.int .i64 2)) fun t23 =>
 C5 t23 (
 A0 PR (Instr.fieldAt 42 t4 3) fun t25 =>
 A6 PR (Instr.loadAt 3 t25) fun t26 =>
 B2 PR X 27 [t0, t26, t2] fun t28 =>
 C3 PR X (Instr.storeAt 39 t6 t28) <|
 A6 PR (E3 [.c 39 t6]) R) (
 A0 PR (binOp .eql 3 t8 (.int .i64 3)) fun t30 =>
 C5 t30 (
 B2 PR X 20 [t0] fun t32 =>
 C3 PR X (Instr.storeAt 39 t6 t32) <|
 A6 PR (E3 [.c 39 t6]) R) (
 J1))))
theorem A2V : A9 PR 13 := A7 Tryz.func13 (by kernel_rfl) rfl
theorem A2k {X : Nat → Prop} {t0 t1 t2 : Value} {R : Value → WP} {w : World} (h : p6 X t0 t1 t2 R w) : Fn PR X 13 #[t0, t1, t2] w R := D5 (args := [t0, t1, t2]) mixed Tryz.func13 (by kernel_rfl) h
def U3 (X : Nat → Prop) (t0 : Value) (R : Value → WP) : WP :=
 A0 PR (F5 t0) fun t7 =>
 A0 PR (Instr.fieldAt 88 t7 2) fun t8 =>
 A6 PR (Instr.loadAt 86 t8) fun t9 =>
 B2 PR X 46 [t9] fun t10 =>
 isf t10 (
 jn (n := 2) (fun t3 t16 =>
 dfr PR X t10 (R t3)) fun J1 =>
 A0 PR (F5 t0) fun t12 =>
 A0 PR (Instr.fieldAt 88 t12 2) fun t13 =>
 A6 PR (Instr.loadAt 86 t13) fun t14 =>
 A0 PR (A8 .len #[86] 0 [t14]) fun t15 =>
 lp (n := 2) (fun L2 t3_1 t16_1 =>
 A0 PR (binOp .lss 3 t16_1 t15) fun t17 =>
 jn (n := 0) (
 jn (n := 1) (fun t3_2 =>
 A0 PR (binOp .add 3 t16_1 (.int .i64 1)) fun t27 =>
 L2 t3_2 t27) fun J3 =>
 A0 PR (Instr.indexAt 86 t14 t16_1) fun t18 =>
 A6 PR (Instr.loadAt 93 t18) fun t19 =>
 A0 PR (F5 t19) fun t22 =>
 A0 PR (Instr.fieldAt 103 t22 1) fun t23 =>
 A6 PR (Instr.loadAt 94 t23) fun t24 =>
 B2 PR X 47 [t24] fun t25 =>
 B1 PR X (A8 .append #[48, 48] 48 [t3_1, t25]) fun t26 =>
 J3 t26) fun J4 =>
 C5 t17 (
 J4) (
 J1 t3_1 t16_1)) (.slice none 0 0) (.int .i64 0))
theorem A0l (X : Nat → Prop) (t0 : Value) (R : Value → WP) : A6m PR X Tryz.f16 [t0] R = U3 X t0 R := by kernel_rfl
theorem j6 : A9 PR 16 := A7 Tryz.func16 (by kernel_rfl) rfl
theorem A1p {X : Nat → Prop} {t0 : Value} {R : Value → WP} {w : World} (h : U3 X t0 R w) : Fn PR X 16 #[t0] w R := A6c (args := [t0]) mixed Tryz.func16 (by rw [A0l]; exact h)
def k7 (X : Nat → Prop) (t0 : Value) (R : Value → WP) : WP :=
 A0 PR (F5 t0) fun t4 =>
 A0 PR (Instr.fieldAt 88 t4 1) fun t5 =>
 B2 PR X 50 [t5] fun t6 =>
 A0 PR (F5 t6) fun t7 =>
 A0 PR (Instr.fieldAt 92 t7 0) fun t8 =>
 A6 PR (Instr.loadAt 32 t8) fun t9 =>
 B2 PR X 49 [t9] fun t10 =>
 R t10
theorem A1U : A9 PR 19 := A7 Tryz.func19 (by kernel_rfl) rfl
theorem A1r {X : Nat → Prop} {t0 : Value} {R : Value → WP} {w : World} (h : k7 X t0 R w) : Fn PR X 19 #[t0] w R := D5 (args := [t0]) mixed Tryz.func19 (by kernel_rfl) h
def j3 (X : Nat → Prop) (t0 : Value) (R : Value → WP) : WP :=
 B1 PR X (Instr.alloc 39 true (.tuple #[])) fun t2 =>
 B2 PR X 16 [t0] fun t4 =>
 A0 PR (A8 .len #[48] 0 [t4]) fun t5 =>
 A0 PR (Instr.build 39 #[(3, t5)]) fun t6 =>
 C3 PR X (Instr.storeAt 39 t2 t6) <|
 A6 PR (E3 [.c 39 t2]) R
theorem f7 : A9 PR 20 := A7 Tryz.func20 (by kernel_rfl) rfl
theorem A1Y {X : Nat → Prop} {t0 : Value} {R : Value → WP} {w : World} (h : j3 X t0 R w) : Fn PR X 20 #[t0] w R := D5 (args := [t0]) mixed Tryz.func20 (by kernel_rfl) h
def Q1 (X : Nat → Prop) (t0 t1 t2 : Value) (R : Value → WP) : WP :=
 B1 PR X (Instr.alloc 39 true (.tuple #[])) fun t6 =>
 B2 PR X 56 [t1] fun t14 =>
 A0 PR (Instr.extract t14 0) fun t15 =>
 A0 PR (Instr.extract t14 1) fun t16 =>
 B1 PR X (Instr.alloc 58 true (.tuple #[])) fun t7 =>
 C3 PR X (Instr.storeAt 58 t7 t15) <|
 A0 PR (binOp .neq 28 t16 (.int .i64 0)) fun t18 =>
 C5 t18 (
 A0 PR (Instr.build 39 #[(0, (.int .i64 9))]) fun t19 =>
 C3 PR X (Instr.storeAt 39 t6 t19) <|
 A6 PR (E3 [.c 39 t6]) R) (
 A0 PR (Instr.fieldAt 58 t7 0) fun t21 =>
 A6 PR (Instr.loadAt 56 t21) fun t22 =>
 B2 PR X 23 [t22] fun t23 =>
 A0 PR (Instr.extract t23 0) fun t24 =>
 A0 PR (Instr.extract t23 1) fun t25 =>
 drw <|
 A0 PR (F5 t0) fun t27 =>
 A0 PR (Instr.fieldAt 88 t27 2) fun t28 =>
 A6 PR (Instr.loadAt 86 t28) fun t29 =>
 A0 PR (F5 t0) fun t32 =>
 A0 PR (Instr.fieldAt 88 t32 2) fun t33 =>
 A6 PR (Instr.loadAt 86 t33) fun t34 =>
 A0 PR (A8 .len #[86] 0 [t34]) fun t35 =>
 B2 PR X 57 [t24, t35] fun t36 =>
 watch PR [(none, (Instr.loadAt 86 t28), t29)] <|
 A0 PR (Instr.indexAt 86 t29 t36) fun t37 =>
 A6 PR (Instr.loadAt 93 t37) fun t38 =>
 B1 PR X (Instr.buildSlice 86 1 #[(0, t38)]) fun t40 =>
 B2 PR X 46 [t40] fun t41 =>
 isf t41 (
 drw <|
 A0 PR (F5 t0) fun t44 =>
 A0 PR (Instr.fieldAt 88 t44 1) fun t45 =>
 A6 PR (Instr.loadAt 58 t7) fun t48 =>
 A0 PR (F5 t0) fun t52 =>
 A0 PR (Instr.fieldAt 88 t52 0) fun t53 =>
 A0 PR (Instr.fieldAt 23 t53 3) fun t54 =>
 A6 PR (Instr.loadAt 3 t54) fun t55 =>
 B2 PR X 50 [t45] fun t46 =>
 watch PR [(none, (Instr.loadAt 3 t54), t55), (none, (Instr.loadAt 58 t7), t48)] <|
 B2 PR X 22 [t48] fun t49 =>
 watch PR [(none, (Instr.loadAt 3 t54), t55)] <|
 B2 PR X 58 [t38, t46, t24, t49, t2, t55] fun t56 =>
 C3 PR X (Instr.storeAt 39 t6 t56) <|
 dfr PR X t41 (A6 PR (E3 [.c 39 t6]) R)))
theorem u0 (X : Nat → Prop) (t0 t1 t2 : Value) (R : Value → WP) : A6m PR X Tryz.f24 [t0, t1, t2] R = Q1 X t0 t1 t2 R := by kernel_rfl
theorem Y9 : A9 PR 24 := A7 Tryz.func24 (by kernel_rfl) rfl
theorem A0L {X : Nat → Prop} {t0 t1 t2 : Value} {R : Value → WP} {w : World} (h : Q1 X t0 t1 t2 R w) : Fn PR X 24 #[t0, t1, t2] w R := A6c (args := [t0, t1, t2]) mixed Tryz.func24 (by rw [u0]; exact h)
def e7 (X : Nat → Prop) (t0 t1 : Value) (R : Value → WP) : WP :=
 B1 PR X (Instr.alloc 39 true (.tuple #[])) fun t4 =>
 jn (n := 0) (
 drw <|
 A0 PR (F5 t0) fun t13 =>
 A0 PR (Instr.fieldAt 88 t13 1) fun t14 =>
 B2 PR X 49 [t1] fun t16 =>
 B2 PR X 59 [t1] fun t18 =>
 A0 PR (Instr.build 92 #[(0, t16), (1, t18)]) fun t19 =>
 B1 PR X (Instr.box 92 t19) fun t20 =>
 B2 PR X 36 [t14, t20] fun t21 =>
 A0 PR (Instr.build 39 #[]) fun t22 =>
 C3 PR X (Instr.storeAt 39 t4 t22) <|
 A6 PR (E3 [.c 39 t4]) R) fun J1 =>
 B2 PR X 32 [t1] fun t7 =>
 A0 PR (binOp .neq 28 t7 (.int .i64 0)) fun t9 =>
 C5 t9 (
 A0 PR (Instr.build 39 #[(0, t7)]) fun t11 =>
 C3 PR X (Instr.storeAt 39 t4 t11) <|
 A6 PR (E3 [.c 39 t4]) R) (
 J1)
theorem c7 : A9 PR 26 := A7 Tryz.func26 (by kernel_rfl) rfl
theorem A1M {X : Nat → Prop} {t0 t1 : Value} {R : Value → WP} {w : World} (h : e7 X t0 t1 R w) : Fn PR X 26 #[t0, t1] w R := D5 (args := [t0, t1]) mixed Tryz.func26 (by kernel_rfl) h
def S0 (X : Nat → Prop) (t0 t1 t2 : Value) (R : Value → WP) : WP :=
 B1 PR X (Instr.alloc 39 true (.tuple #[])) fun t6 =>
 A0 PR (binOp .lss 3 t1 (.int .i64 0)) fun t10 =>
 gj t10 false (fun J => J t1) fun t12 =>
 gj t10 false (fun J => J t0) fun t13 =>
 gj t10 false (fun J => A0 PR (F5 t13) J) fun t14 =>
 gj t10 false (fun J => A0 PR (Instr.fieldAt 88 t14 2) J) fun t15 =>
 gj t10 false (fun J => A6 PR (Instr.loadAt 86 t15) J) fun t16 =>
 gj t10 false (fun J => A0 PR (A8 .len #[86] 0 [t16]) J) fun t17 =>
 gj t10 false (fun J => A0 PR (binOp .geq 3 t12 t17) J) fun t18 =>
 A0 PR (do pure (if ← asBool t10 then (.bool true) else t18)) fun t19 =>
 C5 t19 (
 A0 PR (Instr.build 39 #[(0, (.int .i64 1))]) fun t20 =>
 C3 PR X (Instr.storeAt 39 t6 t20) <|
 A6 PR (E3 [.c 39 t6]) R) (
 A0 PR (F5 t0) fun t22 =>
 A0 PR (Instr.fieldAt 88 t22 2) fun t23 =>
 A6 PR (Instr.loadAt 86 t23) fun t24 =>
 A0 PR (Instr.indexAt 86 t24 t1) fun t26 =>
 A6 PR (Instr.loadAt 93 t26) fun t27 =>
 B1 PR X (Instr.buildSlice 86 1 #[(0, t27)]) fun t29 =>
 B2 PR X 46 [t29] fun t30 =>
 isf t30 (
 B1 PR X (Instr.alloc 39 true (.tuple #[])) fun t8 =>
 drw <|
 A0 PR (F5 t27) fun t35 =>
 A0 PR (Instr.fieldAt 103 t35 1) fun t36 =>
 A6 PR (Instr.loadAt 94 t36) fun t37 =>
 A0 PR (F5 t27) fun t39 =>
 A0 PR (Instr.fieldAt 103 t39 2) fun t40 =>
 A6 PR (Instr.loadAt 3 t40) fun t41 =>
 B2 PR X 60 [t37, t41, (.int .i64 4), t2] fun t43 =>
 A0 PR (Instr.extract t43 0) fun t44 =>
 A0 PR (Instr.extract t43 1) fun t45 =>
 A0 PR (Instr.extract t43 2) fun t46 =>
 A0 PR (F5 t27) fun t47 =>
 A0 PR (Instr.fieldAt 103 t47 1) fun t48 =>
 C3 PR X (Instr.storeAt 94 t48 t44) <|
 A0 PR (F5 t27) fun t49 =>
 A0 PR (Instr.fieldAt 103 t49 2) fun t50 =>
 C3 PR X (Instr.storeAt 3 t50 t45) <|
 A0 PR (Instr.fieldAt 39 t8 3) fun t51 =>
 C3 PR X (Instr.storeAt 3 t51 t46) <|
 A6 PR (Instr.loadAt 39 t8) fun t52 =>
 C3 PR X (Instr.storeAt 39 t6 t52) <|
 dfr PR X t30 (A6 PR (E3 [.c 39 t6]) R)))
theorem A0K (X : Nat → Prop) (t0 t1 t2 : Value) (R : Value → WP) : A6m PR X Tryz.f27 [t0, t1, t2] R = S0 X t0 t1 t2 R := by kernel_rfl
theorem d7 : A9 PR 27 := A7 Tryz.func27 (by kernel_rfl) rfl
theorem A08 {X : Nat → Prop} {t0 t1 t2 : Value} {R : Value → WP} {w : World} (h : S0 X t0 t1 t2 R w) : Fn PR X 27 #[t0, t1, t2] w R := A6c (args := [t0, t1, t2]) mixed Tryz.func27 (by rw [A0K]; exact h)
def A1L (X : Nat → Prop) (t0 : Value) (R : Value → WP) : WP :=
 B1 PR X (Instr.box 86 t0) fun t1 =>
 jn (n := 1) (fun t7 =>
 A0 PR (Instr.makeFunc (.func 87) #[] #[t1]) fun t16 =>
 R t16) fun J1 =>
 A6 PR (Instr.loadAt 86 t1) fun t5 =>
 A0 PR (A8 .len #[86] 0 [t5]) fun t6 =>
 lp (n := 1) (fun L2 t7_1 =>
 A0 PR (binOp .lss 3 t7_1 t6) fun t8 =>
 jn (n := 0) (
 jn (n := 0) (
 A0 PR (binOp .add 3 t7_1 (.int .i64 1)) fun t15 =>
 L2 t15) fun J3 =>
 A0 PR (Instr.indexAt 86 t5 t7_1) fun t9 =>
 A6 PR (Instr.loadAt 93 t9) fun t10 =>
 A0 PR (F5 t10) fun t12 =>
 A0 PR (Instr.fieldAt 103 t12 0) fun t13 =>
 B2 PR X 86 [t13] fun t14 =>
 J3) fun J4 =>
 C5 t8 (
 J4) (
 J1 t7_1)) (.int .i64 0)
theorem j8 : A9 PR 46 := A7 Tryz.func46 (by kernel_rfl) rfl
theorem A5f {X : Nat → Prop} {t0 : Value} {R : Value → WP} {w : World} (h : A1L X t0 R w) : Fn PR X 46 #[t0] w R := D5 (args := [t0]) mixed Tryz.func46 (by kernel_rfl) h
def l2 (X : Nat → Prop) (t0 t1 t2 t3 t4 t5 : Value) (R : Value → WP) : WP :=
 B1 PR X (Instr.alloc 39 true (.tuple #[])) fun t12 =>
 B2 PR X 103 [t0, t1, t2, t4] fun t24 =>
 A0 PR (Instr.extract t24 0) fun t25 =>
 A0 PR (Instr.extract t24 1) fun t26 =>
 jn (n := 1) (fun t13 =>
 jn (n := 0) (
 A0 PR (F5 t0) fun t56 =>
 A0 PR (Instr.fieldAt 103 t56 1) fun t57 =>
 A6 PR (Instr.loadAt 94 t57) fun t58 =>
 A0 PR (binOp .add 3 t4 t5) fun t63 =>
 B2 PR X 106 [t58, t2, t13, t63] fun t64 =>
 A0 PR (Instr.extract t64 0) fun t65 =>
 A0 PR (Instr.extract t64 1) fun t66 =>
 A0 PR (F5 t0) fun t69 =>
 A0 PR (Instr.fieldAt 103 t69 1) fun t70 =>
 C3 PR X (Instr.storeAt 94 t70 t65) <|
 jn (n := 0) (
 A0 PR (Op.unary .not t26) fun t77 =>
 A0 PR (Instr.build 39 #[(1, t13), (2, t77)]) fun t78 =>
 C3 PR X (Instr.storeAt 39 t12 t78) <|
 A6 PR (E3 [.c 39 t12]) R) fun J1 =>
 A0 PR (binOp .neq 28 t66 (.int .i64 0)) fun t72 =>
 C5 t72 (
 A0 PR (Instr.build 39 #[(0, t66)]) fun t74 =>
 C3 PR X (Instr.storeAt 39 t12 t74) <|
 A6 PR (E3 [.c 39 t12]) R) (
 J1)) fun J2 =>
 C5 t3 (
 A0 PR (F5 t0) fun t43 =>
 A0 PR (Instr.fieldAt 103 t43 1) fun t44 =>
 A6 PR (Instr.loadAt 94 t44) fun t45 =>
 B2 PR X 105 [t45, t2] fun t47 =>
 A0 PR (Instr.extract t47 0) fun t48 =>
 A0 PR (Instr.extract t47 1) fun t49 =>
 A0 PR (F5 t0) fun t50 =>
 A0 PR (Instr.fieldAt 103 t50 1) fun t51 =>
 C3 PR X (Instr.storeAt 94 t51 t48) <|
 A0 PR (Instr.build 39 #[(1, t13)]) fun t53 =>
 C3 PR X (Instr.storeAt 39 t12 t53) <|
 A6 PR (E3 [.c 39 t12]) R) (
 J2)) fun J3 =>
 A0 PR (Op.unary .not t26) fun t28 =>
 C5 t28 (
 B2 PR X 104 [t1, t2] fun t32 =>
 A0 PR (Instr.extract t32 0) fun t33 =>
 A0 PR (Instr.extract t32 1) fun t34 =>
 jn (n := 0) (
 J3 t33) fun J4 =>
 A0 PR (Op.unary .not t34) fun t36 =>
 C5 t36 (
 A0 PR (Instr.build 39 #[(0, (.int .i64 11))]) fun t37 =>
 C3 PR X (Instr.storeAt 39 t12 t37) <|
 A6 PR (E3 [.c 39 t12]) R) (
 J4)) (
 J3 t25)
theorem A1y : A9 PR 58 := A7 Tryz.func58 (by kernel_rfl) rfl
theorem A2D {X : Nat → Prop} {t0 t1 t2 t3 t4 t5 : Value} {R : Value → WP} {w : World} (h : l2 X t0 t1 t2 t3 t4 t5 R w) : Fn PR X 58 #[t0, t1, t2, t3, t4, t5] w R := D5 (args := [t0, t1, t2, t3, t4, t5]) mixed Tryz.func58 (by kernel_rfl) h
def w9 (X : Nat → Prop) (t0 : Value) (R : Value → WP) : WP :=
 A6 PR (Instr.loadAt 86 t0) fun t3 =>
 B2 PR X 88 [t3] fun t4 =>
 rng (N := 2) PR X (fun t5 t6 K1 =>
 bgn <|
 A0 PR (F5 t6) fun t8 =>
 A0 PR (Instr.fieldAt 103 t8 0) fun t9 =>
 B2 PR (fun _ => False) 89 [t9] fun t10 =>
 K1 none) t4 (fun j => match j with | none => (V5 (R (.tuple #[]))) | some (.exit i) => (match Nat.beq i 0 with | true => (V5 (R (.tuple #[]))) | false => (E0)) | some .ret => (V5 (R (.tuple #[]))) | some _ => E0)
theorem A2Z (X : Nat → Prop) (t0 : Value) (R : Value → WP) : A6q PR X Tryz.f87 [t0] R = w9 X t0 R := by kernel_rfl
theorem Z4 : A9 PR 87 := A7 Tryz.func87 (by kernel_rfl) rfl
def p7 (X : Nat → Prop) (t0 t1 t2 t3 : Value) (R : Value → WP) : WP :=
 A0 PR (F5 t0) fun t12 =>
 A0 PR (Instr.fieldAt 103 t12 1) fun t13 =>
 A6 PR (Instr.loadAt 94 t13) fun t14 =>
 B2 PR X 150 [t14, t2] fun t16 =>
 jn (n := 2) (fun t8 t9 =>
 A0 PR (F5 t0) fun t45 =>
 A0 PR (Instr.fieldAt 103 t45 1) fun t46 =>
 A6 PR (Instr.loadAt 94 t46) fun t47 =>
 A0 PR (Instr.indexAt 94 t47 t16) fun t49 =>
 A0 PR (Instr.fieldAt 160 t49 2) fun t50 =>
 A6 PR (Instr.loadAt 3 t50) fun t51 =>
 R (.tuple #[t51, (.bool true)])) fun J1 =>
 A0 PR (binOp .lss 3 t16 (.int .i64 0)) fun t18 =>
 gj t18 false (fun J => J t0) fun t20 =>
 gj t18 false (fun J => A0 PR (F5 t20) J) fun t21 =>
 gj t18 false (fun J => A0 PR (Instr.fieldAt 103 t21 1) J) fun t22 =>
 gj t18 false (fun J => A6 PR (Instr.loadAt 94 t22) J) fun t23 =>
 gj t18 false (fun J => J t16) fun t24 =>
 gj t18 false (fun J => A0 PR (Instr.indexAt 94 t23 t24) J) fun t25 =>
 gj t18 false (fun J => A0 PR (Instr.fieldAt 160 t25 3) J) fun t26 =>
 gj t18 false (fun J => A6 PR (Instr.loadAt 3 t26) J) fun t27 =>
 gj t18 false (fun J => J t3) fun t28 =>
 gj t18 false (fun J => A0 PR (binOp .lss 3 t27 t28) J) fun t29 =>
 A0 PR (do pure (if ← asBool t18 then (.bool true) else t29)) fun t30 =>
 gj t30 false (fun J => J t1) fun t32 =>
 gj t30 false (fun J => J t0) fun t33 =>
 gj t30 false (fun J => A0 PR (F5 t33) J) fun t34 =>
 gj t30 false (fun J => A0 PR (Instr.fieldAt 103 t34 1) J) fun t35 =>
 gj t30 false (fun J => A6 PR (Instr.loadAt 94 t35) J) fun t36 =>
 gj t30 false (fun J => J t16) fun t37 =>
 gj t30 false (fun J => A0 PR (Instr.indexAt 94 t36 t37) J) fun t38 =>
 gj t30 false (fun J => A0 PR (Instr.fieldAt 160 t38 2) J) fun t39 =>
 gj t30 false (fun J => A6 PR (Instr.loadAt 3 t39) J) fun t40 =>
 gj t30 false (fun J => B2 PR X 151 [t32, t40] J) fun t41 =>
 gj t30 false (fun J => A0 PR (Op.unary .not t41) J) fun t42 =>
 A0 PR (do pure (if ← asBool t30 then (.bool true) else t42)) fun t43 =>
 C5 t43 (
 R (.tuple #[(.int .i64 0), (.bool false)])) (
 J1 (.int .i64 0) (.bool false))
theorem A15 : A9 PR 103 := A7 Tryz.func103 (by kernel_rfl) rfl
theorem A2r {X : Nat → Prop} {t0 t1 t2 t3 : Value} {R : Value → WP} {w : World} (h : p7 X t0 t1 t2 t3 R w) : Fn PR X 103 #[t0, t1, t2, t3] w R := D5 (args := [t0, t1, t2, t3]) mixed Tryz.func103 (by kernel_rfl) h
def k8 (X : Nat → Prop) (t0 t1 : Value) (R : Value → WP) : WP :=
 drw <|
 A0 PR (F5 t0) fun t7 =>
 A0 PR (Instr.fieldAt 92 t7 1) fun t8 =>
 A6 PR (Instr.loadAt 90 t8) fun t9 =>
 A0 PR (F5 t0) fun t14 =>
 A0 PR (Instr.fieldAt 92 t14 0) fun t15 =>
 A6 PR (Instr.loadAt 32 t15) fun t16 =>
 A0 PR (A8 .len #[32] 0 [t16]) fun t17 =>
 A0 PR (binOp .gtr 3 t17 (.int .i64 0)) fun t18 =>
 B2 PR X 102 [t1] fun t11 =>
 watch PR [(none, (Instr.loadAt 32 t15), t16), (none, (Instr.loadAt 90 t8), t9)] <|
 B2 PR X 152 [t9, t11] fun t12 =>
 watch PR [(none, (Instr.loadAt 32 t15), t16)] <|
 R (.tuple #[t12, t18])
theorem j7 : A9 PR 104 := A7 Tryz.func104 (by kernel_rfl) rfl
theorem A1q {X : Nat → Prop} {t0 t1 : Value} {R : Value → WP} {w : World} (h : k8 X t0 t1 R w) : Fn PR X 104 #[t0, t1] w R := D5 (args := [t0, t1]) mixed Tryz.func104 (by kernel_rfl) h
def l3 (X : Nat → Prop) (t0 t1 : Value) (R : Value → WP) : WP :=
 A0 PR (F5 t0) fun t6 =>
 A0 PR (Instr.fieldAt 92 t6 0) fun t7 =>
 A6 PR (Instr.loadAt 32 t7) fun t8 =>
 B2 PR X 199 [t8, t1] fun t10 =>
 A0 PR (binOp .geq 3 t10 (.int .i64 0)) fun t11 =>
 R t11
theorem A1v : A9 PR 151 := A7 Tryz.func151 (by kernel_rfl) rfl
theorem A2G {X : Nat → Prop} {t0 t1 : Value} {R : Value → WP} {w : World} (h : l3 X t0 t1 R w) : Fn PR X 151 #[t0, t1] w R := D5 (args := [t0, t1]) mixed Tryz.func151 (by kernel_rfl) h
end Go.Proofs.YtpbmephflllolaaGreat
namespace Go.Proofs.YtpbmephflllolaaGreat
open Go
structure BakAt (w : World) (k : Nat) (pv rv : Value) (p : List F9) : Prop where
 bl : bl w k = some (.cells #[pv, rv] 92 (0, 0))
 rp : G1 w pv p.length (p.flatMap F7)
 rr : G1 w rv (G0 (E5 p)).length ((G0 (E5 p)).flatMap F2)
 len : p.length ≤ 1000
theorem BakAt.ks {κ : Bool} {S : List Nat} {w w' : World} {k : Nat} {pv rv : Value} {p : List F9} (h : BakAt w k pv rv p) (hk : KS κ S w w') (hS : ∀ g ∈ k :: (G4 pv ++ G4 rv), g ∉ S) : BakAt w' k pv rv p :=
 ⟨hk.2.1 _ _ (hS k (by simp)) rfl h.bl, h.rp.ks hk fun g hg => hS g (by simp [hg]), h.rr.ks hk fun g hg => hS g (by simp [hg]), h.len⟩
theorem BakAt.ks0 {κ : Bool} {w w' : World} {k : Nat} {pv rv : Value} {p : List F9} (h : BakAt w k pv rv p) (hk : KS κ [] w w') : BakAt w' k pv rv p := h.ks hk (by simp)
theorem BakAt.c0 {w : World} {k : Nat} {pv rv : Value} {p : List F9} (h : BakAt w k pv rv p) : w.cell? ⟨k, 0, none⟩ = some pv := by rw [G7 h.bl]; rfl
theorem BakAt.c1 {w : World} {k : Nat} {pv rv : Value} {p : List F9} (h : BakAt w k pv rv p) : w.cell? ⟨k, 1, none⟩ = some rv := by rw [G7 h.bl]; rfl
theorem C12 (w : World) (k : Nat) (pv rv : Value) (p : List F9) (id : Int) (h : BakAt w k pv rv p) :
  Fn PR B5 151 #[.pointer (some ⟨k, 0, none⟩), .int .i64 id] w (fun r w' => r = .bool (decide (0 ≤ A1s p id)) ∧ C4 [] w w') := by
 refine Fn.pure (A2G (TW.go (κ := false) (S := []) ?_))
 unfold l3
 have h0 := h.c0
 have hl := h.len
 (have zz:=trivial;repeat((first|clear zz|with_reducible first|refine A3 ?_|refine A5 fun _=>?_|refine A4 fun _=>?_);try simp(disch:=first|omega|assumption|((repeat(first|exact A1|exact uH|apply A2|apply uT));first|done|fail)|(simp;first|done|omega|fail))[h0]))
 refine D2 B0z (fun w' hw' => B3s w' pv p id (by omega) ((h.ks0 hw'.ks).rp)) ?_
 (have zz:=trivial;repeat((first|clear zz|with_reducible first|refine A3 ?_|refine A5 fun _=>?_|refine A4 fun _=>?_);try simp(disch:=first|omega|assumption|((repeat(first|exact A1|exact uH|apply A2|apply uT));first|done|fail)|(simp;first|done|omega|fail))[]))
 exact B0 rfl
theorem B4Z (w : World) (k : Nat) (pv rv : Value) (p : List F9) (key : ByteArray) (hk : key.size < 2 ^ 60) (h : BakAt w k pv rv p) :
  Fn PR B5 104 #[.pointer (some ⟨k, 0, none⟩), .string key] w (fun r w' => r = .tuple #[.int .i64 (A62 p (c9 key)), .bool (decide (0 < p.length))] ∧ C4 [] w w') := by
 refine Fn.pure (A1q (TW.go (κ := false) (S := []) ?_))
 unfold k8
 have h0 := h.c0
 have h1 := h.c1
 have hl := h.len
 obtain ⟨a, c, hpv, _⟩ := h.rp.form
 obtain ⟨a2, c2, hrv, _⟩ := h.rr.form
 subst hpv hrv
 (have zz:=trivial;repeat((first|clear zz|with_reducible first|refine A3 ?_|refine A5 fun _=>?_|refine A4 fun _=>?_);try simp(disch:=first|omega|assumption|((repeat(first|exact A1|exact uH|apply A2|apply uT));first|done|fail)|(simp;first|done|omega|fail))[h0, h1]))
 refine D2 A0y (fun w' _ => A3C w' key hk) ?_
 (have zz:=trivial;repeat((first|clear zz|with_reducible first|refine A3 ?_|refine A5 fun _=>?_|refine A4 fun _=>?_);try simp(disch:=first|omega|assumption|((repeat(first|exact A1|exact uH|apply A2|apply uT));first|done|fail)|(simp;first|done|omega|fail))[h0, h1]))
 refine D2 B1P (fun w' hw' => C0D w' _ (G0 (E5 p)) (c9 key) (by rw [e8]; have := A60 p; omega) ((h.ks0 hw'.ks).rr)) ?_
 (have zz:=trivial;repeat((first|clear zz|with_reducible first|refine A3 ?_|refine A5 fun _=>?_|refine A4 fun _=>?_);try simp(disch:=first|omega|assumption|((repeat(first|exact A1|exact uH|apply A2|apply uT));first|done|fail)|(simp;first|done|omega|fail))[h0, h1]))
 refine B0 ?_
 simp [A62]
theorem B6P (w : World) (b k : Nat) (tv pv rv : Value) (l : List EnV) (p : List F9) (key : ByteArray) (now : Int) (hk : key.size < 2 ^ 60) (hn : l.length ≤ 1000000) (hc : w.cell? ⟨b, 2, none⟩ = some tv) (hv : G1 w tv l.length (l.flatMap F3)) (hb : BakAt w k pv rv p) :
  Fn PR B5 103 #[.pointer (some ⟨b, 0, none⟩), .pointer (some ⟨k, 0, none⟩), .string key, .int .i64 now] w (fun r w' => r = .tuple #[.int .i64 (G6 l p key now).1, .bool (G6 l p key now).2] ∧ C4 [] w w') := by
 refine Fn.pure (A2r (TW.go (κ := false) (S := []) ?_))
 unfold p7
 obtain ⟨a, c, rfl, hr⟩ := hv.form
 (have zz:=trivial;repeat((first|clear zz|with_reducible first|refine A3 ?_|refine A5 fun _=>?_|refine A4 fun _=>?_);try simp(disch:=first|omega|assumption|((repeat(first|exact A1|exact uH|apply A2|apply uT));first|done|fail)|(simp;first|done|omega|fail))[hc]))
 refine D2 n8 (fun w' hw' => y9 w' _ l key hk hn (hv.ks hw'.ks (by simp))) ?_
 by_cases c1 : D6 l key < 0
 ·(have zz:=trivial;repeat((first|clear zz|with_reducible first|refine A3 ?_|refine A5 fun _=>?_|refine A4 fun _=>?_);try simp(disch:=first|omega|assumption|((repeat(first|exact A1|exact uH|apply A2|apply uT));first|done|fail)|(simp;first|done|omega|fail))[c1]))
  exact B0 (by simp [G6, c1])
 obtain ⟨i, hi, hlt⟩ := B7B (l := l) (key := key) (by omega)
 have hx : l[i]? = some (u9 l key) := by rw [u9, hi, Int.toNat_natCast]; exact getD_some d5 hlt
 obtain ⟨g, o, rfl, hrow⟩ := hr (by omega)
 have h2 := hrow.cellAt (f := F3) (k := 4) (j := 2) (fun _ => rfl) hx rfl
 have h3 := hrow.cellAt (f := F3) (k := 4) (j := 3) (fun _ => rfl) hx rfl
 have hk1 : G6 l p key now = if (u9 l key).dl < now ∨ A1s p (u9 l key).bk < 0 then (0, false) else ((u9 l key).bk, true) := by simp [G6, c1]
 rw [hk1]
 generalize u9 l key = x at *
 rw [hi]
 have hi0 : ¬ ((i : Nat) : Int) < 0 := by omega
 by_cases c2 : x.dl < now
 ·(have zz:=trivial;repeat((first|clear zz|with_reducible first|refine A3 ?_|refine A5 fun _=>?_|refine A4 fun _=>?_);try simp(disch:=first|omega|assumption|((repeat(first|exact A1|exact uH|apply A2|apply uT));first|done|fail)|(simp;first|done|omega|fail))[hi0, hlt, h3, c2, hc]))
  exact B0 (by simp [c2])
 (have zz:=trivial;repeat((first|clear zz|with_reducible first|refine A3 ?_|refine A5 fun _=>?_|refine A4 fun _=>?_);try simp(disch:=first|omega|assumption|((repeat(first|exact A1|exact uH|apply A2|apply uT));first|done|fail)|(simp;first|done|omega|fail))[hi0, hlt, h3, c2, h2, hc]))
 refine D2 A1v (fun w' hw' => C12 w' k pv rv p x.bk (hb.ks0 hw'.ks)) ?_
 by_cases c3 : A1s p x.bk < 0
 ·have c3' : ¬ 0 ≤ A1s p x.bk := by omega
  (have zz:=trivial;repeat((first|clear zz|with_reducible first|refine A3 ?_|refine A5 fun _=>?_|refine A4 fun _=>?_);try simp(disch:=first|omega|assumption|((repeat(first|exact A1|exact uH|apply A2|apply uT));first|done|fail)|(simp;first|done|omega|fail))[c3, c3', hc]))
  exact B0 (by simp [c3])
 ·have c3' : 0 ≤ A1s p x.bk := by omega
  (have zz:=trivial;repeat((first|clear zz|with_reducible first|refine A3 ?_|refine A5 fun _=>?_|refine A4 fun _=>?_);try simp(disch:=first|omega|assumption|((repeat(first|exact A1|exact uH|apply A2|apply uT));first|done|fail)|(simp;first|done|omega|fail))[c3, c3', hlt, h2, hc]))
  exact B0 (by simp [c2, c3])
theorem C1a {κ : Bool} {S : List Nat} {w0 : World} {H Hj : List Res} {F : Value → WP} {A : (Value → WP) → WP} (v1 : Value) (hF : TW κ S w0 Hj (F v1)) (hA : ∀ J : Value → WP, TW κ S w0 Hj (J v1) → TW κ S w0 H (A J)) : TW κ S w0 H (jn (n := 1) F A) := hA F hF
def W8 (b : Nat) (lk : Int) (tv : Value) (nx : Int) : Res := .pt b (.cells #[.int .i32 lk, .int .u32 0, tv, .int .i64 nx] 103 (0, 0))
theorem B5d (w : World) (b k : Nat) (lk nx : Int) (tv pv rv : Value) (l : List EnV) (p : List F9) (key : ByteArray) (closing : Bool) (now idle : Int) (hk : key.size < 2 ^ 60) (hks : L8 l) (hn : l.length ≤ 1000000)
  (hb : ∀ w', KS false (B3 [W8 b lk tv nx, E7 tv l]) w w' → BakAt w' k pv rv p) (hw : LW false (B3 [W8 b lk tv nx, E7 tv l]) w [W8 b lk tv nx, E7 tv l] w) :
  Fn PR B5 58 #[.pointer (some ⟨b, 0, none⟩), .pointer (some ⟨k, 0, none⟩), .string key, .bool closing, .int .i64 now, .int .i64 idle] w
   (Rn (B3 [W8 b lk tv nx, E7 tv l]) w (fun (_ : Value) u => u = (E9 l p key closing now idle).2.1.val) fun r => [W8 b lk r nx, E7 r (E9 l p key closing now idle).1]) := by
 refine A2D (TW.goH (κ := false) ?_ hw)
 unfold l2
 have hpl : p.length ≤ 1000 := (hb w (KS.refl _ _)).len
 generalize hS : B3 [W8 b lk tv nx, E7 tv l] = S at *
 simp only [W8]
 refine A1D (e := 160) (k := 4) (v := tv) (q := l.length) (xs := l.flatMap F3) (by (repeat constructor)) fun ht1 ht2 ht3 => ?_
 (have zz:=trivial;repeat((first|clear zz|with_reducible first|refine A3 ?_|refine A5 fun _=>?_|refine A4 fun _=>?_);try simp(disch:=first|omega|assumption|((repeat(first|exact A1|exact uH|apply A2|apply uT));first|done|fail)|(simp;first|done|omega|fail))[]))
 refine D2 A15 (fun w' hw' => B6P w' b k tv pv rv l p key now hk hn (l7 (o := 2) (hw'.pt (by (repeat constructor))) rfl) (P2.own (e := 160) (k := 4) (by (repeat constructor)) w' hw') (hb w' hw'.ks)) ?_
 rename_i ba
 by_cases hne : (G6 l p key now).2 = false ∧ p = []
 ·have hd : E9 l p key closing now idle = (l, ⟨11, 0, false, 0⟩, false) := if_pos hne
  obtain ⟨h1, hp⟩ := hne
  have hp0 : ¬ 0 < p.length := by rw [hp]; simp
  rw [hd]
  (have zz:=trivial;repeat((first|clear zz|with_reducible first|refine A3 ?_|refine A5 fun _=>?_|refine A4 fun _=>?_);try simp(disch:=first|omega|assumption|((repeat(first|exact A1|exact uH|apply A2|apply uT));first|done|fail)|(simp;first|done|omega|fail))[h1]))
  refine D2 j7 (fun w' hw' => B4Z w' k pv rv p key hk (hb w' hw'.ks)) ?_
  (have zz:=trivial;repeat((first|clear zz|with_reducible first|refine A3 ?_|refine A5 fun _=>?_|refine A4 fun _=>?_);try simp(disch:=first|omega|assumption|((repeat(first|exact A1|exact uH|apply A2|apply uT));first|done|fail)|(simp;first|done|omega|fail))[hp0]))
  refine D4 tv (by simp [AnsV.val]) ?_
  try simp only [W8]
  (repeat' constructor)
 have hd : E9 l p key closing now idle = if closing then (T1 l key, ⟨0, Y6 l p key now, false, 0⟩, (V7 l key).isSome)
  else match G5 l (A6B l p key now idle) with
   | none => (l, ⟨12, 0, false, 0⟩, false)
   | some u => (u, ⟨0, Y6 l p key now, !(G6 l p key now).2, 0⟩, true) := if_neg hne
 rw [B2S, B1v]
 refine C1a (Hj := [.pt ba (.cells #[.int .i64 0, .int .i64 0, .bool false, .int .i64 0] 39), W8 b lk tv nx, E7 tv l]) (.int .i64 (Y6 l p key now)) ?_ ?_
 case refine_2 =>
  intro J hJ
  simp only [W8] at hJ
  cases h1 : (G6 l p key now).2 with
  | true =>
   have e : Y6 l p key now = (G6 l p key now).1 := by simp [Y6, h1]
   rw [e] at hJ
   (have zz:=trivial;repeat((first|clear zz|with_reducible first|refine A3 ?_|refine A5 fun _=>?_|refine A4 fun _=>?_);try simp(disch:=first|omega|assumption|((repeat(first|exact A1|exact uH|apply A2|apply uT));first|done|fail)|(simp;first|done|omega|fail))[]))
   exact hJ
  | false =>
   have hp0 : ¬ p = [] := fun h => hne ⟨h1, h⟩
   have hp1 : 0 < p.length := List.length_pos_iff.2 hp0
   have e : Y6 l p key now = A62 p (c9 key) := by simp [Y6, h1]
   rw [e] at hJ
   (have zz:=trivial;repeat((first|clear zz|with_reducible first|refine A3 ?_|refine A5 fun _=>?_|refine A4 fun _=>?_);try simp(disch:=first|omega|assumption|((repeat(first|exact A1|exact uH|apply A2|apply uT));first|done|fail)|(simp;first|done|omega|fail))[]))
   refine D2 j7 (fun w' hw' => B4Z w' k pv rv p key hk (hb w' hw'.ks)) ?_
   (have zz:=trivial;repeat((first|clear zz|with_reducible first|refine A3 ?_|refine A5 fun _=>?_|refine A4 fun _=>?_);try simp(disch:=first|omega|assumption|((repeat(first|exact A1|exact uH|apply A2|apply uT));first|done|fail)|(simp;first|done|omega|fail))[hp1]))
   exact hJ
 ·rw [hd]
  simp only [W8]
  cases closing with
  | true =>
   (have zz:=trivial;repeat((first|clear zz|with_reducible first|refine A3 ?_|refine A5 fun _=>?_|refine A4 fun _=>?_);try simp(disch:=first|omega|assumption|((repeat(first|exact A1|exact uH|apply A2|apply uT));first|done|fail)|(simp;first|done|omega|fail))[]))
   refine N7 A75 (fun w' hw' => A9S w' tv l key hk hks hn (P2.own (e := 160) (k := 4) (by (repeat constructor)) w' hw')) ?_
   rintro r _ rfl
   cases h2 : (V7 l key).isSome with
   | true =>
    refine A1D (e := 160) (k := 4) (v := r) (q := (T1 l key).length) (xs := (T1 l key).flatMap F3) (by (repeat constructor)) fun hr1 hr2 hr3 => ?_
    (have zz:=trivial;repeat((first|clear zz|with_reducible first|refine A3 ?_|refine A5 fun _=>?_|refine A4 fun _=>?_);try simp(disch:=first|omega|assumption|((repeat(first|exact A1|exact uH|apply A2|apply uT));first|done|fail)|(simp;first|done|omega|fail))[hr1]))
    refine D4 r (by simp [AnsV.val]) ?_
    try simp only [W8]
    (repeat' constructor)
   | false =>
    have hdl : T1 l key = l := by
     cases h3 : V7 l key with
     | none => simp [T1, h3]
     | some u => rw [h3] at h2; cases h2
    (have zz:=trivial;repeat((first|clear zz|with_reducible first|refine A3 ?_|refine A5 fun _=>?_|refine A4 fun _=>?_);try simp(disch:=first|omega|assumption|((repeat(first|exact A1|exact uH|apply A2|apply uT));first|done|fail)|(simp;first|done|omega|fail))[ht1]))
    refine D4 tv (by simp [AnsV.val]) ?_
    simp only [hdl]
    (repeat' constructor)
  | false =>
   (have zz:=trivial;repeat((first|clear zz|with_reducible first|refine A3 ?_|refine A5 fun _=>?_|refine A4 fun _=>?_);try simp(disch:=first|omega|assumption|((repeat(first|exact A1|exact uH|apply A2|apply uT));first|done|fail)|(simp;first|done|omega|fail))[]))
   refine N7 B1B (fun w' hw' => B3b w' tv l key (Y6 l p key now) (IntKind.i64.wrap (now + idle)) hk hn (P2.own (e := 160) (k := 4) (by (repeat constructor)) w' hw')) ?_
   rintro r _ rfl
   cases h2 : G5 l (A6B l p key now idle) with
   | none =>
    have h2' : G5 l ⟨1, key, Y6 l p key now, IntKind.i64.wrap (now + idle)⟩ = none := h2
    simp only [h2']
    (have zz:=trivial;repeat((first|clear zz|with_reducible first|refine A3 ?_|refine A5 fun _=>?_|refine A4 fun _=>?_);try simp(disch:=first|omega|assumption|((repeat(first|exact A1|exact uH|apply A2|apply uT));first|done|fail)|(simp;first|done|omega|fail))[ht1]))
    refine D4 tv (by simp [AnsV.val]) ?_
    try simp only [W8]
    (repeat' constructor)
   | some u =>
    have h2' : G5 l ⟨1, key, Y6 l p key now, IntKind.i64.wrap (now + idle)⟩ = some u := h2
    simp only [h2']
    simp only [Option.getD_some]
    refine A1D (e := 160) (k := 4) (v := r) (q := u.length) (xs := u.flatMap F3) (by (repeat constructor)) fun hr1 hr2 hr3 => ?_
    (have zz:=trivial;repeat((first|clear zz|with_reducible first|refine A3 ?_|refine A5 fun _=>?_|refine A4 fun _=>?_);try simp(disch:=first|omega|assumption|((repeat(first|exact A1|exact uH|apply A2|apply uT));first|done|fail)|(simp;first|done|omega|fail))[hr1]))
    refine D4 r (by simp [AnsV.val]) ?_
    try simp only [W8]
    (repeat' constructor)
end Go.Proofs.YtpbmephflllolaaGreat
namespace Go.Proofs.YtpbmephflllolaaGreat
open Go
structure ShB where
 b : Nat
 lk : Int
 tv : Value
 l : List EnV
 nx : Nat
def G2 (t : ShB) : List Res := [W8 t.b t.lk t.tv (t.nx : Nat), E7 t.tv t.l]
def E4 (z : Int) (t : ShB) : ShB := { t with lk := z }
def B8z (b : Nat) : Value := .pointer (some ⟨b, 0, none⟩)
def U2 (ts : List ShB) : List Value := ts.map fun t => B8z t.b
theorem B9B (ts : List ShB) : (U2 ts).length = ts.length := by simp [U2]
theorem A32 {ts : List ShB} {i : Nat} {t : ShB} (h : ts[i]? = some t) : (U2 ts)[i]? = some (.pointer (some ⟨t.b, 0, none⟩)) := by simp [U2, h, B8z]
def J0 (sv : Value) (ts : List ShB) : Res := .own 93 1 sv ts.length (U2 ts)
abbrev C6S (b : Nat) : Value := .func (.func 87) #[] #[.pointer (some ⟨b, 0, none⟩)]
theorem A6T (w : World) (sv : Value) (ts : List ShB) (hn : ts.length ≤ 1000) (hw : LW false (B3 [J0 sv ts, F4 G2 (ts.map (E4 0))]) w [J0 sv ts, F4 G2 (ts.map (E4 0))] w) :
  Fn PR B5 46 #[sv] w (Rn (B3 [J0 sv ts, F4 G2 (ts.map (E4 0))]) w (fun (bx : Nat) u => u = C6S bx) fun bx => [.pt bx (.cells #[sv] 86), J0 sv ts, F4 G2 (ts.map (E4 1))]) := by
 refine A5f (TW.goH (κ := false) ?_ hw)
 unfold A1L
 generalize B3 [J0 sv ts, F4 G2 (ts.map (E4 0))] = S at *
 simp only [J0]
 refine k9 (e := 93) (k := 1) (v := sv) (q := ts.length) (xs := U2 ts) (by (repeat constructor)) ?_
 rintro sa sc rfl
 (have zz:=trivial;repeat((first|clear zz|with_reducible first|refine A3 ?_|refine A5 fun _=>?_|refine A4 fun _=>?_);try simp(disch:=first|omega|assumption|((repeat(first|exact A1|exact uH|apply A2|apply uT));first|done|fail)|(simp;first|done|omega|fail))[]))
 rename_i bx
 rw [← B9T (E4 1) (E4 0) ts]
 refine C09 ts.length (fun i => [.pt bx (.cells #[.slice sa ts.length sc] 86), J0 (.slice sa ts.length sc) ts, F4 G2 (r9 (E4 1) (E4 0) i ts)]) ?_
 intro i hi L hL
 simp only [J0]
 by_cases hlt : i < ts.length
 ·have hx := List.getElem?_eq_getElem hlt
  have hp := A32 hx
  have hm := B4P (f := E4 1) (g := E4 0) hx
  have hms := B4C (f := E4 1) (g := E4 0) hx
  have hml := A96 (E4 1) (E4 0) i ts
  generalize ts[i] = t at *
  refine x9 (e := 93) (k := 1) (v := .slice sa ts.length sc) (q := ts.length) (xs := U2 ts) (by (repeat constructor)) (by omega) ?_
  rintro g gc hg
  cases hg
  (have zz:=trivial;repeat((first|clear zz|with_reducible first|refine A3 ?_|refine A5 fun _=>?_|refine A4 fun _=>?_);try simp(disch:=first|omega|assumption|((repeat(first|exact A1|exact uH|apply A2|apply uT));first|done|fail)|(simp;first|done|omega|fail))[hlt, hp]))
  refine A3w (f := G2) (i := i) (by (repeat' constructor)) hm ?_
  simp only [G2, E4, W8, List.cons_append, List.nil_append]
  refine D8 (Hc := [.pt t.b (.cells #[.int .i32 0, .int .u32 0, t.tv, .int .i64 (t.nx : Nat)] 103 (0, 0))]) A5d (fun w' _ hs => C0U w' t.b _ _ _ _ hs) (by (repeat' constructor)) ?_
  rintro _ _ rfl
  refine A6a (f := G2) (y := E4 1 t) (ls := r9 (E4 1) (E4 0) i ts) (i := i) (by simp only [G2, E4, W8, List.cons_append, List.nil_append]; (repeat' constructor)) (by omega) ?_
  rw [hms]
  (have zz:=trivial;repeat((first|clear zz|with_reducible first|refine A3 ?_|refine A5 fun _=>?_|refine A4 fun _=>?_);try simp(disch:=first|omega|assumption|((repeat(first|exact A1|exact uH|apply A2|apply uT));first|done|fail)|(simp;first|done|omega|fail))[]))
  refine Sels.tw ?_ (hL hlt)
  try simp only [J0]
  (repeat' constructor)
 ·obtain rfl : i = ts.length := by omega
  rw [B9a]
  (have zz:=trivial;repeat((first|clear zz|with_reducible first|refine A3 ?_|refine A5 fun _=>?_|refine A4 fun _=>?_);try simp(disch:=first|omega|assumption|((repeat(first|exact A1|exact uH|apply A2|apply uT));first|done|fail)|(simp;first|done|omega|fail))[]))
  refine D4 bx rfl ?_
  try simp only [J0]
  (repeat' constructor)
abbrev B9Y (b : Nat) : Value := .func (.func 136) #[] #[.pointer (some ⟨b, 0, none⟩)]
def A4v (bs : List Value) : List (List Value) := (List.range bs.length).map fun j => [.int .i64 ((bs.length - 1 - j : Nat) : Int), bs.getD (bs.length - 1 - j) (.tuple #[])]
theorem A07 (bs : List Value) : (A4v bs).length = bs.length := by simp [A4v]
theorem B2k {bs : List Value} {m : Nat} {v : Value} (h : bs[m]? = some v) (hi : bs.length - (m + 1) < (A4v bs).length) : (A4v bs)[bs.length - (m + 1)] = [.int .i64 (m : Int), v] := by
 obtain ⟨hm, rfl⟩ := List.getElem?_eq_some_iff.1 h
 simp only [A4v, List.getElem_map, List.getElem_range]
 rw [show bs.length - 1 - (bs.length - (m + 1)) = m by omega]
 simp [List.getD_eq_getElem?_getD, List.getElem?_eq_getElem hm]
theorem B3Q (w : World) (v : Value) (hv : ∃ a n c, v = .slice a n c) : Fn PR B5 88 #[v] w (Rn [] w (fun b u => u = B9Y b) fun b => [.pt b (.cells #[v] 86)]) := by
 obtain ⟨a, n, c, rfl⟩ := hv
 refine V4 (TW.go (κ := false) (S := []) ?_)
 unfold L5
 (have zz:=trivial;repeat((first|clear zz|with_reducible first|refine A3 ?_|refine A5 fun _=>?_|refine A4 fun _=>?_);try simp(disch:=first|omega|assumption|((repeat(first|exact A1|exact uH|apply A2|apply uT));first|done|fail)|(simp;first|done|omega|fail))[]))
 rename_i b
 exact W9 b rfl (by simp)
theorem C0k (b : Nat) (v : Value) (bs : List Value) (hn : bs.length ≤ 1000) : A1u (B9Y b) [.pt b (.cells #[v] 86)] (RqS v bs.length bs) (A4v bs) := by
 refine ⟨_, _, _, rfl, fun y J E hJ hE stJ stE hy w0 h0 => ?_⟩
 obtain ⟨a, c, hv, hr⟩ := (hJ _ _ _ h0).2
 subst hv
 refine T8 (T4 (TW.at (κ := true) ?_ (hJ _ _ _ h0).1))
 unfold K6
 (have zz:=trivial;repeat((first|clear zz|with_reducible first|refine A3 ?_|refine A5 fun _=>?_|refine A4 fun _=>?_);try simp(disch:=first|omega|assumption|((repeat(first|exact A1|exact uH|apply A2|apply uT));first|done|fail)|(simp;first|done|omega|fail))[]))
 refine B54 (α := Nat) (fun m => bs.length - m) (fun _ => _) (· ≤ bs.length) (fun m => m) (fun m => .int .i64 ((m : Int) - 1)) bs.length hJ stJ (by simpa using h0) (Nat.le_refl _) fun m a' hm hJm hRm L hL => ?_
 cases m with
 | zero =>
  (have zz:=trivial;repeat((first|clear zz|with_reducible first|refine A3 ?_|refine A5 fun _=>?_|refine A4 fun _=>?_);try simp(disch:=first|omega|assumption|((repeat(first|exact A1|exact uH|apply A2|apply uT));first|done|fail)|(simp;first|done|omega|fail))[]))
  exact A1N stJ (by rw [A07]; simpa using hJm)
 | succ m =>
  obtain ⟨_, _, hv, hr⟩ := hRm
  obtain ⟨b', o, hb, hrow, hnb⟩ := hr (by omega)
  cases hv
  subst hb
  have hlt : m < bs.length := by omega
  have hx := List.getElem?_eq_getElem hlt
  have h1 := hrow.get hx
  have hat := fun hi => B2k hx hi
  generalize bs[m] = x at *
  have e : (((m + 1 : Nat) : Int) - 1) = (m : Int) := by omega
  rw [e]
  have hlen : bs.length - m = bs.length - (m + 1) + 1 := by omega
  have hL' := hL m
  simp only [hlen] at hL'
  (have zz:=trivial;repeat((first|clear zz|with_reducible first|refine A3 ?_|refine A5 fun _=>?_|refine A4 fun _=>?_);try simp(disch:=first|omega|assumption|((repeat(first|exact A1|exact uH|apply A2|apply uT));first|done|fail)|(simp;first|done|omega|fail))[hlt, h1]))
  refine A3H hJ hE stJ hy hJm (by rw [A07]; omega) (hat _) (fun w3 h => ?_) (fun w3 h => ?_)
  ·(have zz:=trivial;repeat((first|clear zz|with_reducible first|refine A3 ?_|refine A5 fun _=>?_|refine A4 fun _=>?_);try simp(disch:=first|omega|assumption|((repeat(first|exact A1|exact uH|apply A2|apply uT));first|done|fail)|(simp;first|done|omega|fail))[]))
   exact fun w' hw' => hL' w' (by omega) (by omega) (stJ _ _ _ _ _ h (hw'.sub (by simp)))
  ·(have zz:=trivial;repeat((first|clear zz|with_reducible first|refine A3 ?_|refine A5 fun _=>?_|refine A4 fun _=>?_);try simp(disch:=first|omega|assumption|((repeat(first|exact A1|exact uH|apply A2|apply uT));first|done|fail)|(simp;first|done|omega|fail))[]))
   exact A1B stE h
theorem RqS.own {e : TypeId} {v : Value} {n : Nat} {xs : List Value} {S : List Nat} {w0 w : World} {A F : List Res} (hm : Res.own e 1 v n xs ∈ A) (hw : LW false S w0 (A ++ F) w) : RqS v n xs F w := by
 have ho : M8 w e 1 v n xs := hw.hold _ (List.mem_append_left _ hm)
 obtain ⟨a, c, rfl, hr⟩ := (M8.rd ho).form
 refine ⟨a, c, rfl, fun hn => ?_⟩
 obtain ⟨b, o, rfl, hrow⟩ := hr hn
 exact ⟨b, o, rfl, hrow, hw.notin hm (by simp [Res.foot, G4])⟩
theorem A6F (w : World) (bx : Nat) (sv : Value) (ts : List ShB) (hn : ts.length ≤ 1000) (hw : LW false (B3 [.pt bx (.cells #[sv] 86), J0 sv ts, F4 G2 (ts.map (E4 1))]) w [.pt bx (.cells #[sv] 86), J0 sv ts, F4 G2 (ts.map (E4 1))] w) :
  FnD PR B5 87 #[.pointer (some ⟨bx, 0, none⟩)] w (Rn (B3 [.pt bx (.cells #[sv] 86), J0 sv ts, F4 G2 (ts.map (E4 1))]) w (fun (_ : Unit) u => u = .tuple #[]) fun _ => [.pt bx (.cells #[sv] 86), J0 sv ts, F4 G2 (ts.map (E4 0))]) := by
 refine B7k (args := [.pointer (some ⟨bx, 0, none⟩)]) mixed Tryz.func87 ?_
 rw [A2Z]
 refine TW.goH (κ := false) ?_ hw
 unfold w9
 generalize B3 [.pt bx (.cells #[sv] 86), J0 sv ts, F4 G2 (ts.map (E4 1))] = S at *
 simp only [J0]
 refine k9 (e := 93) (k := 1) (v := sv) (q := ts.length) (xs := U2 ts) (by (repeat constructor)) ?_
 rintro sa sc rfl
 (have zz:=trivial;repeat((first|clear zz|with_reducible first|refine A3 ?_|refine A5 fun _=>?_|refine A4 fun _=>?_);try simp(disch:=first|omega|assumption|((repeat(first|exact A1|exact uH|apply A2|apply uT));first|done|fail)|(simp;first|done|omega|fail))[]))
 refine N7 U8 (fun w' _ => B3Q w' (.slice sa ts.length sc) ⟨_, _, _, rfl⟩) ?_
 rintro b _ rfl
 rw [← B9a (E4 1) (E4 0) ts]
 have hpl := B9B ts
 refine TW.eqH (H' := [.pt b (.cells #[.slice sa ts.length sc] 86)] ++ [.pt bx (.cells #[.slice sa ts.length sc] 86), J0 (.slice sa ts.length sc) ts, F4 G2 (r9 (E4 1) (E4 0) (ts.length - 0) ts)]) (by simp [J0]) ?_
 have hit := C0k b (.slice sa ts.length sc) (U2 ts) (by omega)
 rw [hpl] at hit
 refine y4 hit (by simp [A4v]) (fun i (_ : Unit) => i ≤ ts.length) (fun i _ => [.pt bx (.cells #[.slice sa ts.length sc] 86), J0 (.slice sa ts.length sc) ts, F4 G2 (r9 (E4 1) (E4 0) (ts.length - i) ts)])
  (fun c (y : Unit) => False) (fun y => []) () (Nat.zero_le _) ?_ ?_ ?_ ?_ (by rfl)
 ·intro i _ F w1 _ hw1
  exact RqS.own (e := 93) (by simp only [J0]; (repeat constructor)) hw1
 ·rintro i hi _ F _ K' hK _
  have hi' : i < ts.length := by rw [A07, hpl] at hi; exact hi
  obtain ⟨m, hm⟩ : ∃ m, ts.length - i = m + 1 := ⟨ts.length - i - 1, by omega⟩
  have hmlt : m < ts.length := by omega
  have hx := List.getElem?_eq_getElem hmlt
  have hp := A32 hx
  have hg := B2U (f := E4 1) (g := E4 0) hx
  have hms := B8Y (f := E4 1) (g := E4 0) hx
  have hml := A96 (E4 1) (E4 0) (m + 1) ts
  have hat := B2k hp (by rw [A07, hpl]; omega)
  have hidx : (U2 ts).length - (m + 1) = i := by omega
  simp only [hidx] at hat
  rw [hat]
  have hK' := hK () (by omega)
  rw [show ts.length - (i + 1) = m by omega] at hK'
  rw [hm]
  generalize ts[m] = t at *
  simp only [VF.app, List.cons_append, List.nil_append]
  (have zz:=trivial;repeat((first|clear zz|with_reducible first|refine A3 ?_|refine A5 fun _=>?_|refine A4 fun _=>?_);try simp(disch:=first|omega|assumption|((repeat(first|exact A1|exact uH|apply A2|apply uT));first|done|fail)|(simp;first|done|omega|fail))[]))
  refine A3w (f := G2) (i := m) (ls := r9 (E4 1) (E4 0) (m + 1) ts) (by (repeat' constructor)) hg ?_
  simp only [G2, E4, W8, List.cons_append, List.nil_append]
  refine D8 (Hc := [.pt t.b (.cells #[.int .i32 1, .int .u32 0, t.tv, .int .i64 (t.nx : Nat)] 103 (0, 0))]) A3q (fun w' _ hs => B6n w' t.b _ _ _ _ hs) (by (repeat' constructor)) ?_
  rintro _ _ rfl
  refine A6a (f := G2) (y := E4 0 t) (ls := r9 (E4 1) (E4 0) (m + 1) ts) (i := m) (by simp only [G2, E4, W8, List.cons_append, List.nil_append]; (repeat' constructor)) (by omega) ?_
  rw [hms]
  exact TW.perm hK' ((List.Perm.swap ..).trans (List.Perm.cons _ (List.Perm.swap ..)))
 ·rintro _ _
  rw [A07, hpl, Nat.sub_self, B9T]
  (have zz:=trivial;repeat((first|clear zz|with_reducible first|refine A3 ?_|refine A5 fun _=>?_|refine A4 fun _=>?_);try simp(disch:=first|omega|assumption|((repeat(first|exact A1|exact uH|apply A2|apply uT));first|done|fail)|(simp;first|done|omega|fail))[]))
  refine D4 () rfl ?_
  try simp only [J0]
  (repeat' constructor)
 ·rintro _ _ h; exact h.elim
theorem FnD.use {P : Program} {X : Nat → Prop} {f : FuncId} {args : Array Value} {w : World} {R K : Value → WP} (h : FnD P B5 f args w R) (hk : ∀ v w', R v w' → Sk B5 w w' → K v w') : FnD P X f args w K :=
 CallsD.mono h fun _ _ w' ⟨v, he, hu, hr, hs⟩ => ⟨v, he, hu, hk v w' hr hs, hs.mono fun _ h => h.elim⟩
theorem B5y {κ : Bool} {X : Nat → Prop} {S : List Nat} {w0 : World} {H Hk Hc : List Res} {A : WP} {f : FuncId} {first cap : Array Value} {α : Type} {φ : α → Value → Prop} {Hn : α → List Res} (he : A9 PR f)
  (hf : ∀ w, LW κ S w0 H w → LW false (B3 Hc) w Hc w → FnD PR B5 f (first.toList ++ cap.toList).toArray w (Rn (B3 Hc) w φ Hn)) (hp : Part Hc H Hk) (hK : ∀ a v, φ a v → TW κ S w0 (Hn a ++ Hk) A) : TW κ S w0 H (dfr PR X (.func (.func f) first cap) A) := fun w hw =>
 ⟨he, (hf w hw ((hw.perm hp.perm).sub (List.sublist_append_left _ _)).self).use fun v w' ⟨a, h1, h2⟩ hsk => hK a v h1 w' ((hw.perm hp.perm).part (h2.high fun _ => hsk))⟩
theorem B4l {κ : Bool} {S : List Nat} {w0 : World} {H : List Res} {A : WP} {f : FuncId} {first cap : Array Value} (h : TW κ S w0 H A) : TW κ S w0 H (isf (.func (.func f) first cap) A) := fun w hw => ⟨⟨_, _, _, rfl⟩, h w hw⟩
end Go.Proofs.YtpbmephflllolaaGreat
namespace Go.Proofs.YtpbmephflllolaaGreat
open Go
structure BaH where
 b : Nat
 k : Nat
 pv : Value
 rv : Value
 sv : Value
 c : CfgV
 pool : List F9
 ts : List ShB
def BaH.st (m : BaH) : MoS := ⟨m.c, m.pool, m.ts.map fun t => (t.l, t.nx)⟩
def M1 (b k : Nat) (c : CfgV) (sv : Value) : Res := .pt b (.cells #[.int .i64 c.wk, .int .i64 c.sh, .int .i64 c.cp, .int .i64 c.idle, .int .i64 c.sl, .pointer (some ⟨k, 0, none⟩), sv] 88 (0, 0))
def A4e (k : Nat) (pv rv : Value) (p : List F9) : List Res := [.pt k (.cells #[pv, rv] 92 (0, 0)), .own 75 2 pv p.length (p.flatMap F7), .own 217 2 rv (G0 (E5 p)).length ((G0 (E5 p)).flatMap F2)]
def B9 (m : BaH) : List Res := [M1 m.b m.k m.c m.sv, .pt m.k (.cells #[m.pv, m.rv] 92 (0, 0)), .own 75 2 m.pv m.pool.length (m.pool.flatMap F7), .own 217 2 m.rv (G0 (E5 m.pool)).length ((G0 (E5 m.pool)).flatMap F2), J0 m.sv m.ts, F4 G2 (m.ts.map (E4 0))]
abbrev BDo (w : World) (m : BaH) (r : MoS × AnsV) : Value → WP := Rn (B3 (B9 m)) w (fun (m' : BaH) u => u = r.2.val ∧ m'.b = m.b ∧ m'.st = r.1) B9
section
variable {κ : Bool} {S : List Nat} {w0 w : World} {H Hk Hc : List Res} {K : Value → WP}
theorem B8n {k : Nat} {pv rv : Value} {p : List F9} (hw : LW κ S w0 H w) (hp : Part (Hc ++ A4e k pv rv p) H Hk) (hl : p.length ≤ 1000) : ∀ w', KS false (B3 Hc) w w' → BakAt w' k pv rv p := fun w' hk => by
 have h1 := hw.perm hp.perm
 rw [List.append_assoc] at h1
 have hd := (List.pairwise_append.1 h1.dis).2.2
 have st : ∀ r ∈ A4e k pv rv p, r.holds w' := fun r hr =>
  Res.stable (fun b hb o ho e => hk.2.1 b o (fun hf => by
   obtain ⟨s, hs, hbs⟩ := N1.1 hf
   exact hd s hs r (List.mem_append_left _ hr) b hbs hb) ho e) (h1.hold r (List.mem_append_right _ (List.mem_append_left _ hr)))
 exact ⟨(st _ (List.mem_cons_self ..)).1, M8.rd (st (.own 75 2 pv p.length (p.flatMap F7)) (by simp [A4e])), M8.rd (st (.own 217 2 rv (G0 (E5 p)).length ((G0 (E5 p)).flatMap F2)) (by simp [A4e])), hl⟩
end
theorem C0p {X : Nat → Prop} {κ : Bool} {S : List Nat} {w0 : World} {H Hk : List Res} {K : Value → WP} {b k k' : Nat} {c : CfgV} {sv : Value} {d : Array Value} {T2 : TypeId} (hp : Part [M1 b k c sv, .pt k' (.cells d T2 (0, 0))] H Hk) (hd : 0 < d.size)
  (hK : TW κ S w0 (M1 b k' c sv :: .pt k' (.cells d T2 (0, 0)) :: Hk) (K (.tuple #[]))) : TW κ S w0 H (B2 PR X 36 [.pointer (some ⟨b, 5, none⟩), .pointer (some ⟨k', 0, none⟩)] K) := by
 refine TW.perm ?_ hp.perm
 refine D8 (Hc := [M1 b k c sv]) (Hk := .pt k' (.cells d T2 (0, 0)) :: Hk) M0 (fun w' hw' hs => B0p w' b k' _ _ _ _ _ _ _ _ d T2 hd hs (hw'.hold (.pt k' (.cells d T2 (0, 0))) (by simp)).1 (fun e => ?_)) (Part.cons Sel.here Part.nil) ?_
 ·have := (List.pairwise_cons.1 hw'.dis).1 (.pt k' (.cells d T2 (0, 0))) (by simp) b (by simp [M1, Res.foot])
  exact this (by simp [Res.foot, e])
 ·rintro _ _ rfl
  exact hK
theorem B73 (w : World) (m : BaH) (hl : m.pool.length ≤ 1000) (hw : LW false (B3 (B9 m)) w (B9 m) w) :
  Fn PR B5 19 #[.pointer (some ⟨m.b, 0, none⟩)] w (Rn (B3 (B9 m)) w (fun r u => u = r) fun r => .own 75 2 r m.pool.length (m.pool.flatMap F7) :: B9 m) := by
 refine A1r (TW.goH (κ := false) ?_ hw)
 unfold k7
 generalize B3 (B9 m) = S at *
 simp only [B9, M1]
 (have zz:=trivial;repeat((first|clear zz|with_reducible first|refine A3 ?_|refine A5 fun _=>?_|refine A4 fun _=>?_);try simp(disch:=first|omega|assumption|((repeat(first|exact A1|exact uH|apply A2|apply uT));first|done|fail)|(simp;first|done|omega|fail))[]))
 refine D2 M5 (fun w' hw' => B2v w' m.b m.k _ _ _ (hw'.pt (by (repeat constructor))) rfl (hw'.pt (o := .cells #[m.pv, m.rv] 92 (0, 0)) (by (repeat constructor))) rfl) ?_
 refine k9 (e := 75) (k := 2) (v := m.pv) (q := m.pool.length) (xs := m.pool.flatMap F7) (by (repeat constructor)) ?_
 intro pa pc hpv
 rw [hpv]
 (have zz:=trivial;repeat((first|clear zz|with_reducible first|refine A3 ?_|refine A5 fun _=>?_|refine A4 fun _=>?_);try simp(disch:=first|omega|assumption|((repeat(first|exact A1|exact uH|apply A2|apply uT));first|done|fail)|(simp;first|done|omega|fail))[]))
 refine N7 P6 (fun w' hw' => B0f w' (.slice pa m.pool.length pc) m.pool.length (m.pool.flatMap F7) (by omega) (Q6 (k := 2) (fun _ => rfl) _) (A8z _) (P2.own (e := 75) (k := 2) (by (repeat constructor)) w' hw')) ?_
 rintro _ r rfl
 refine D4 r rfl ?_
 try simp only [B9, M1, hpv]
 (repeat' constructor)
structure PoolBt (w : World) (m : BaH) (v : Value) (p : List F9) : Prop where
 rd : G1 w v p.length (p.flatMap F7)
 off : 0 < p.length → ∀ g ∈ G4 v, g ∉ B3 (B9 m)
 len : p.length ≤ 1000
 form : v.cells = #[v] ∧ plain v = true
theorem PoolBt.at {w w' : World} {m : BaH} {v : Value} {p : List F9} {κ : Bool} (h : PoolBt w m v p) (hk : KS κ (B3 (B9 m)) w w') : G1 w' v p.length (p.flatMap F7) :=
 h.rd.ks0 (fun e => by rw [List.length_eq_zero_iff.1 e]; rfl) hk h.off
theorem A9B (w : World) (m : BaH) (p : List F9) (v : Value) (hv : PoolBt w m v p) (hw : LW false (B3 (B9 m)) w (B9 m) w) :
  Fn PR B5 26 #[.pointer (some ⟨m.b, 0, none⟩), v] w (BDo w m (A6f m.st p)) := by
 refine A1M (TW.goH (κ := false) ?_ hw)
 unfold e7
 obtain ⟨a, c, hvf, _⟩ := hv.rd.form
 have hv2 := hv
 subst hvf
 have hlen := hv.len
 unfold BDo
 generalize hS : B3 (B9 m) = S at *
 simp only [B9, M1]
 (have zz:=trivial;repeat((first|clear zz|with_reducible first|refine A3 ?_|refine A5 fun _=>?_|refine A4 fun _=>?_);try simp(disch:=first|omega|assumption|((repeat(first|exact A1|exact uH|apply A2|apply uT));first|done|fail)|(simp;first|done|omega|fail))[]))
 refine D2 A9p (fun w' hw' => B2N w' (.slice a p.length c) p (by omega) (hv.at (by rw [hS]; exact hw'.ks))) ?_
 by_cases c1 : b9 p = 0
 ·have e : A6f m.st p = ({ m.st with pool := p }, ⟨0, 0, false, 0⟩) := if_pos c1
  rw [e]
  (have zz:=trivial;repeat((first|clear zz|with_reducible first|refine A3 ?_|refine A5 fun _=>?_|refine A4 fun _=>?_);try simp(disch:=first|omega|assumption|((repeat(first|exact A1|exact uH|apply A2|apply uT));first|done|fail)|(simp;first|done|omega|fail))[c1]))
  refine N7 P6 (fun w' hw' => B0f w' (.slice a p.length c) p.length (p.flatMap F7) (by omega) (Q6 (k := 2) (fun _ => rfl) _) (A8z _) (hv.at (by rw [hS]; exact hw'.ks))) ?_
  rintro _ r rfl
  refine k9 (e := 75) (k := 2) (v := r) (q := p.length) (xs := p.flatMap F7) (by (repeat constructor)) ?_
  rintro ra rc rfl
  (have zz:=trivial;repeat((first|clear zz|with_reducible first|refine A3 ?_|refine A5 fun _=>?_|refine A4 fun _=>?_);try simp(disch:=first|omega|assumption|((repeat(first|exact A1|exact uH|apply A2|apply uT));first|done|fail)|(simp;first|done|omega|fail))[]))
  refine N7 B1L (fun w' hw' => C2e w' (.slice a p.length c) p hlen (hv.at (by rw [hS]; exact hw'.ks))) ?_
  rintro _ r rfl
  refine k9 (e := 217) (k := 2) (v := r) (q := (G0 (E5 p)).length) (xs := (G0 (E5 p)).flatMap F2) (by (repeat constructor)) ?_
  rintro qa qc rfl
  (have zz:=trivial;repeat((first|clear zz|with_reducible first|refine A3 ?_|refine A5 fun _=>?_|refine A4 fun _=>?_);try simp(disch:=first|omega|assumption|((repeat(first|exact A1|exact uH|apply A2|apply uT));first|done|fail)|(simp;first|done|omega|fail))[]))
  rename_i bk
  refine C0p (b := m.b) (k := m.k) (c := m.c) (sv := m.sv) (d := #[.slice ra p.length rc, .slice qa (G0 (E5 p)).length qc]) (T2 := 92) (by simp only [M1]; (repeat' constructor)) (by simp) ?_
  simp only [M1]
  (have zz:=trivial;repeat((first|clear zz|with_reducible first|refine A3 ?_|refine A5 fun _=>?_|refine A4 fun _=>?_);try simp(disch:=first|omega|assumption|((repeat(first|exact A1|exact uH|apply A2|apply uT));first|done|fail)|(simp;first|done|omega|fail))[]))
  refine D4 { m with k := bk, pv := .slice ra p.length rc, rv := .slice qa (G0 (E5 p)).length qc, pool := p } ⟨by simp [AnsV.val], rfl, rfl⟩ ?_
  try simp only [B9, M1]
  (repeat' constructor)
 ·have e : A6f m.st p = (m.st, ⟨b9 p, 0, false, 0⟩) := if_neg c1
  rw [e]
  (have zz:=trivial;repeat((first|clear zz|with_reducible first|refine A3 ?_|refine A5 fun _=>?_|refine A4 fun _=>?_);try simp(disch:=first|omega|assumption|((repeat(first|exact A1|exact uH|apply A2|apply uT));first|done|fail)|(simp;first|done|omega|fail))[c1]))
  refine D4 m ⟨by simp [AnsV.val], rfl, rfl⟩ ?_
  try simp only [B9, M1]
  (repeat' constructor)
end Go.Proofs.YtpbmephflllolaaGreat
namespace Go.Proofs.YtpbmephflllolaaGreat
open Go
theorem B2M {ts : List ShB} {i : Nat} {t u : ShB} (h : ts[i]? = some t) (hb : u.b = t.b) : U2 (ts.set i u) = U2 ts := by
 obtain ⟨hi, rfl⟩ := List.getElem?_eq_some_iff.1 h
 simp only [U2, List.map_set, hb]
 apply List.ext_getElem?
 intro j
 by_cases hj : i = j
 ·subst hj; simp [hi]
 ·rw [List.getElem?_set_ne hj]
theorem B9p {ts : List ShB} {i : Nat} {t : ShB} (h : ts[i]? = some t) : (ts.map (E4 0))[i]? = some (E4 0 t) := by simp [h]
theorem A6p (v : Value) (t : ShB) : J0 v [t] = .own 93 1 v 1 [.pointer (some ⟨t.b, 0, none⟩)] := rfl
structure BaOk (c : CfgV) (m : BaH) : Prop where
 few : m.ts.length ≤ 16
 pos : 0 < m.ts.length
 sh : m.c.sh = m.ts.length
 cfg : m.c = c
 len : ∀ t ∈ m.ts, t.l.length ≤ 64
 keys : ∀ t ∈ m.ts, L8 t.l
 pool : m.pool.length ≤ 1000
theorem BaOk.of {c : CfgV} {m : BaH} (h : Inv c m.st) : BaOk c m := by
 have hb := m0 h.ok
 have hl : m.st.tabs.length = m.ts.length := by simp [BaH.st]
 have hsh := h.sh
 have hc : m.c = c := h.cfg
 have e : (MoH.mk 0 .nilIface .nilIface m.c m.pool (m.ts.map fun t : ShB => ((.nilIface, t.l), t.nx))).st = m.st := by simp [MoH.st, BaH.st]
 have h2 : Inv c (MoH.mk 0 .nilIface .nilIface m.c m.pool (m.ts.map fun t : ShB => ((.nilIface, t.l), t.nx))).st := by rw [e]; exact h
 have hp : m.pool.length ≤ 1000 := h2.ok2.pool
 refine ⟨by omega, by omega, by rw [hc]; omega, hc, fun t ht => ?_, fun t ht => ?_, hp⟩
 ·have := h.tab (t.l, t.nx) (List.mem_map.2 ⟨t, ht, rfl⟩); have h1 := this.len; have h2 := this.few; simp only at h1; omega
 ·exact (h.tab (t.l, t.nx) (List.mem_map.2 ⟨t, ht, rfl⟩)).keys
theorem B71 {X : Nat → Prop} {S : List Nat} {w0 : World} {H Hk : List Res} {K : Value → WP} {b k : Nat} {lk nx : Int} {tv pv rv : Value} {l : List EnV} {p : List F9} {key : ByteArray} {cl : Bool} {now idle : Int} (hk : key.size < 2 ^ 60) (hks : L8 l) (hn : l.length ≤ 1000000) (hl : p.length ≤ 1000)
  (hp : Part ([W8 b lk tv nx, E7 tv l] ++ A4e k pv rv p) H Hk) (hK : ∀ r, TW false S w0 ([W8 b lk r nx, E7 r (E9 l p key cl now idle).1] ++ (A4e k pv rv p ++ Hk)) (K (E9 l p key cl now idle).2.1.val)) :
  TW false S w0 H (B2 PR X 58 [.pointer (some ⟨b, 0, none⟩), .pointer (some ⟨k, 0, none⟩), .string key, .bool cl, .int .i64 now, .int .i64 idle] K) := by
 refine TW.perm (H' := [W8 b lk tv nx, E7 tv l] ++ (A4e k pv rv p ++ Hk)) ?_ (by rw [← List.append_assoc]; exact hp.perm)
 refine D8 (Hc := [W8 b lk tv nx, E7 tv l]) A1y (fun w' hw' hs => B5d w' b k lk nx tv pv rv l p key cl now idle hk hks hn
  (B8n (Hc := [W8 b lk tv nx, E7 tv l]) (Hk := Hk) hw' (by rw [← List.append_assoc]; exact V0) hl) hs) V0 ?_
 rintro r _ rfl
 exact hK r
set_option maxHeartbeats 1000000 in
theorem A5j (w : World) (m : BaH) (pk : ByteArray) (now : Int) (c : CfgV) (hpk : pk.size < 2 ^ 40) (hm : BaOk c m) (hw : LW false (B3 (B9 m)) w (B9 m) w) :
  Fn PR B5 24 #[.pointer (some ⟨m.b, 0, none⟩), .string pk, .int .i64 now] w (BDo w m (K7 m.st pk now)) := by
 refine A0L (TW.goH (κ := false) ?_ hw)
 unfold Q1
 unfold BDo
 have hlen := hm.few
 generalize hS : B3 (B9 m) = S at *
 simp only [B9, M1, J0]
 refine k9 (e := 93) (k := 1) (v := m.sv) (q := m.ts.length) (xs := U2 m.ts) (by (repeat constructor)) ?_
 intro sa sc hsv
 rw [hsv]
 (have zz:=trivial;repeat((first|clear zz|with_reducible first|refine A3 ?_|refine A5 fun _=>?_|refine A4 fun _=>?_);try simp(disch:=first|omega|assumption|((repeat(first|exact A1|exact uH|apply A2|apply uT));first|done|fail)|(simp;first|done|omega|fail))[]))
 refine D2 A72 (fun w' hw' => A9c w' pk hpk) ?_
 by_cases c1 : (F1 pk).2.2 = 0
 case neg =>
  have e : K7 m.st pk now = (m.st, ⟨9, 0, false, 0⟩) := by unfold K7; simp only; rw [if_pos c1]
  rw [e]
  (have zz:=trivial;repeat((first|clear zz|with_reducible first|refine A3 ?_|refine A5 fun _=>?_|refine A4 fun _=>?_);try simp(disch:=first|omega|assumption|((repeat(first|exact A1|exact uH|apply A2|apply uT));first|done|fail)|(simp;first|done|omega|fail))[packet.val, P8, c1]))
  refine D4 m ⟨by simp [AnsV.val], rfl, rfl⟩ ?_
  try simp only [B9, M1, J0, hsv]
  (repeat' constructor)
 have hk := B0Q (F1 pk).1
 (have zz:=trivial;repeat((first|clear zz|with_reducible first|refine A3 ?_|refine A5 fun _=>?_|refine A4 fun _=>?_);try simp(disch:=first|omega|assumption|((repeat(first|exact A1|exact uH|apply A2|apply uT));first|done|fail)|(simp;first|done|omega|fail))[packet.val, P8, c1]))
 refine D2 (u := A1P (F1 pk).1) A2Q (fun w' hw' => B1f w' (F1 pk).1) ?_
 (have zz:=trivial;repeat((first|clear zz|with_reducible first|refine A3 ?_|refine A5 fun _=>?_|refine A4 fun _=>?_);try simp(disch:=first|omega|assumption|((repeat(first|exact A1|exact uH|apply A2|apply uT));first|done|fail)|(simp;first|done|omega|fail))[A1P]))
 rename_i b4 b6
 have hsh := hm.sh
 have hpos := hm.pos
 rw [show (if U7 (F1 pk).1 = true then A09 (F1 pk).1 else P4) = N3 (F1 pk).1 from rfl]
 generalize hkey : N3 (F1 pk).1 = key at *
 have e : K7 m.st pk now = ({ m.st with tabs := m.st.tabs.set (N9 key m.c.sh) ((E9 (m.st.tabs.getD (N9 key m.c.sh) ([], 0)).1 m.pool key (H6 (F1 pk).1 (F1 pk).2.1) now m.c.idle).1, (m.st.tabs.getD (N9 key m.c.sh) ([], 0)).2) },
   (E9 (m.st.tabs.getD (N9 key m.c.sh) ([], 0)).1 m.pool key (H6 (F1 pk).1 (F1 pk).2.1) now m.c.idle).2.1) := by
  unfold K7; simp only; rw [if_neg (by rw [c1]; simp), hkey]; rfl
 rw [e]
 refine D2 A8P (fun w' hw' => B77 w' key (m.ts.length : Nat) hk (by omega)) ?_
 rw [← hsh]
 have hlt : N9 key m.c.sh < m.ts.length := by
  unfold N9; rw [if_neg (by omega), hsh, Int.toNat_natCast]; exact Nat.mod_lt _ hpos
 generalize N9 key m.c.sh = i at *
 obtain ⟨t, hx⟩ : ∃ x, m.ts[i]? = some x := ⟨_, List.getElem?_eq_getElem hlt⟩
 have hxm := List.mem_of_getElem? hx
 have hgd : m.st.tabs.getD i ([], 0) = (t.l, t.nx) := by simp [BaH.st, List.getD_eq_getElem?_getD, hx]
 rw [hgd]
 simp only
 have hp := A32 hx
 refine x9 (e := 93) (k := 1) (v := .slice sa m.ts.length sc) (q := m.ts.length) (xs := U2 m.ts) (by (repeat constructor)) (by omega) ?_
 rintro g gc hg
 cases hg
 (have zz:=trivial;repeat((first|clear zz|with_reducible first|refine A3 ?_|refine A5 fun _=>?_|refine A4 fun _=>?_|refine D0 fun _=>?_|refine C7 (hK:=fun _=>?_)|refine C9 (hK:=fun _=>?_)|refine D1 (hK:=fun _=>?_)|refine C8 (hK:=fun _=>?_)|refine C6 (hK:=fun _=>?_));try simp(disch:=first|omega|assumption|((repeat(first|exact A1|exact uH|apply A2|apply uT));first|done|fail)|(simp;first|done|omega|fail))[hlt, hp]))
 rename_i gs
 refine A3w (f := G2) (i := i) (by (repeat' constructor)) (B9p hx) ?_
 simp only [G2, List.cons_append, List.nil_append]
 refine A6z (f := G2) (x := E4 0 t) (by simp only [G2]; (repeat' constructor)) ?_
 refine D8 (Hc := [.own 93 1 (.slice (some ⟨gs, 0, none⟩) 1 1) 1 [.pointer (some ⟨t.b, 0, none⟩)], F4 G2 [E4 0 t]]) j8 (fun w' _ hs => A6T w' _ [t] (by simp) hs) (by (repeat' constructor)) ?_
 rintro bx _ rfl
 simp only [A6p, List.map_cons, List.map_nil, List.cons_append, List.nil_append]
 refine B4l ?_
 (have zz:=trivial;repeat((first|clear zz|with_reducible first|refine A3 ?_|refine A5 fun _=>?_|refine A4 fun _=>?_);try simp(disch:=first|omega|assumption|((repeat(first|exact A1|exact uH|apply A2|apply uT));first|done|fail)|(simp;first|done|omega|fail))[]))
 refine D2 M5 (fun w' hw' => B2v w' m.b m.k _ _ _ (hw'.pt (by (repeat constructor))) rfl (hw'.pt (o := .cells #[m.pv, m.rv] 92 (0, 0)) (by (repeat constructor))) rfl) ?_
 (have zz:=trivial;repeat((first|clear zz|with_reducible first|refine A3 ?_|refine A5 fun _=>?_|refine A4 fun _=>?_);try simp(disch:=first|omega|assumption|((repeat(first|exact A1|exact uH|apply A2|apply uT));first|done|fail)|(simp;first|done|omega|fail))[]))
 rw [B81 (by (repeat constructor)) (by rfl)]
 (have zz:=trivial;repeat((first|clear zz|with_reducible first|refine A3 ?_|refine A5 fun _=>?_|refine A4 fun _=>?_);try simp(disch:=first|omega|assumption|((repeat(first|exact A1|exact uH|apply A2|apply uT));first|done|fail)|(simp;first|done|omega|fail))[]))
 refine D2 A00 (fun w' _ => A8G w' (F1 pk).1 (F1 pk).2.1) ?_
 (have zz:=trivial;repeat((first|clear zz|with_reducible first|refine A3 ?_|refine A5 fun _=>?_|refine A4 fun _=>?_);try simp(disch:=first|omega|assumption|((repeat(first|exact A1|exact uH|apply A2|apply uT));first|done|fail)|(simp;first|done|omega|fail))[]))
 generalize H6 (F1 pk).1 (F1 pk).2.1 = cl at *
 refine A4m (f := G2) (x := E4 1 t) (by (repeat' constructor)) ?_
 simp only [G2, E4, List.cons_append, List.nil_append]
 have hkey2 := hm.keys _ hxm
 have hlen2 := hm.len _ hxm
 refine B71 (nx := (t.nx : Nat)) (tv := t.tv) (pv := m.pv) (rv := m.rv) (l := t.l) (p := m.pool) hk hkey2 (by omega) hm.pool (by simp only [A4e, List.cons_append, List.nil_append]; (repeat' constructor)) fun r => ?_
 simp only [A4e, List.cons_append, List.nil_append]
 (have zz:=trivial;repeat((first|clear zz|with_reducible first|refine A3 ?_|refine A5 fun _=>?_|refine A4 fun _=>?_);try simp(disch:=first|omega|assumption|((repeat(first|exact A1|exact uH|apply A2|apply uT));first|done|fail)|(simp;first|done|omega|fail))[AnsV.val]))
 refine A6z (f := G2) (x := E4 1 ⟨t.b, 1, r, (E9 t.l m.pool key cl now m.c.idle).1, t.nx⟩) (by simp only [G2, E4]; (repeat' constructor)) ?_
 refine B5y (Hc := [.pt bx (.cells #[.slice (some ⟨gs, 0, none⟩) 1 1] 86), .own 93 1 (.slice (some ⟨gs, 0, none⟩) 1 1) 1 [.pointer (some ⟨t.b, 0, none⟩)], F4 G2 [E4 1 ⟨t.b, 1, r, (E9 t.l m.pool key cl now m.c.idle).1, t.nx⟩]]) Z4
  (fun w' _ hs => A6F w' bx _ [⟨t.b, 1, r, (E9 t.l m.pool key cl now m.c.idle).1, t.nx⟩] (by simp) hs) (by (repeat' constructor)) ?_
 rintro _ _ rfl
 simp only [A6p, List.map_cons, List.map_nil, List.cons_append, List.nil_append]
 refine A4m (f := G2) (x := E4 0 ⟨t.b, 1, r, (E9 t.l m.pool key cl now m.c.idle).1, t.nx⟩) (by (repeat' constructor)) ?_
 simp only [G2, List.cons_append, List.nil_append]
 refine A6a (f := G2) (y := E4 0 ⟨t.b, 1, r, (E9 t.l m.pool key cl now m.c.idle).1, t.nx⟩) (ls := m.ts.map (E4 0)) (i := i) (by simp only [G2, List.cons_append, List.nil_append]; (repeat' constructor)) (by simpa using hlt) ?_
 (have zz:=trivial;repeat((first|clear zz|with_reducible first|refine A3 ?_|refine A5 fun _=>?_|refine A4 fun _=>?_);try simp(disch:=first|omega|assumption|((repeat(first|exact A1|exact uH|apply A2|apply uT));first|done|fail)|(simp;first|done|omega|fail))[]))
 refine D4 { m with sv := .slice (some ⟨g, 0, none⟩) m.ts.length sc, ts := m.ts.set i ⟨t.b, 1, r, (E9 t.l m.pool key cl now m.c.idle).1, t.nx⟩ } ⟨by simp [AnsV.val], rfl, by simp [BaH.st, List.map_set]⟩ ?_
 simp only [B9, M1, J0, B2M hx, List.length_set, List.map_set]
 (repeat' constructor)
set_option maxHeartbeats 1000000 in
theorem A9H (w : World) (m : BaH) (j now : Int) (c : CfgV) (hm : BaOk c m) (hw : LW false (B3 (B9 m)) w (B9 m) w) :
  Fn PR B5 27 #[.pointer (some ⟨m.b, 0, none⟩), .int .i64 j, .int .i64 now] w (BDo w m (A2d m.st j now)) := by
 refine A08 (TW.goH (κ := false) ?_ hw)
 unfold S0
 unfold BDo
 have hlen := hm.few
 have hstl : m.st.tabs.length = m.ts.length := by simp [BaH.st]
 generalize hS : B3 (B9 m) = S at *
 simp only [B9, M1, J0]
 refine k9 (e := 93) (k := 1) (v := m.sv) (q := m.ts.length) (xs := U2 m.ts) (by (repeat constructor)) ?_
 intro sa sc hsv
 rw [hsv]
 by_cases c1 : j < 0
 ·have e : A2d m.st j now = (m.st, ⟨1, 0, false, 0⟩) := if_pos (Or.inl c1)
  rw [e]
  (have zz:=trivial;repeat((first|clear zz|with_reducible first|refine A3 ?_|refine A5 fun _=>?_|refine A4 fun _=>?_);try simp(disch:=first|omega|assumption|((repeat(first|exact A1|exact uH|apply A2|apply uT));first|done|fail)|(simp;first|done|omega|fail))[c1]))
  refine D4 m ⟨by simp [AnsV.val], rfl, rfl⟩ ?_
  simp only [B9, M1, J0, hsv]
  (repeat' constructor)
 by_cases c2 : (m.ts.length : Int) ≤ j
 ·have e : A2d m.st j now = (m.st, ⟨1, 0, false, 0⟩) := if_pos (Or.inr (by rw [hstl]; exact c2))
  rw [e]
  (have zz:=trivial;repeat((first|clear zz|with_reducible first|refine A3 ?_|refine A5 fun _=>?_|refine A4 fun _=>?_);try simp(disch:=first|omega|assumption|((repeat(first|exact A1|exact uH|apply A2|apply uT));first|done|fail)|(simp;first|done|omega|fail))[c1, c2]))
  refine D4 m ⟨by simp [AnsV.val], rfl, rfl⟩ ?_
  simp only [B9, M1, J0, hsv]
  (repeat' constructor)
 obtain ⟨i, hi⟩ : ∃ i : Nat, j = i := ⟨j.toNat, by omega⟩
 rw [hi] at c1 c2 ⊢
 have hlt : i < m.ts.length := by omega
 obtain ⟨t, hx⟩ : ∃ x, m.ts[i]? = some x := ⟨_, List.getElem?_eq_getElem hlt⟩
 have hxm := List.mem_of_getElem? hx
 have hgd : m.st.tabs.getD i ([], 0) = (t.l, t.nx) := by simp [BaH.st, List.getD_eq_getElem?_getD, hx]
 have e : A2d m.st i now = ({ m.st with tabs := m.st.tabs.set i ((H2 t.l t.nx 4 now).1, (H2 t.l t.nx 4 now).2.1) }, ⟨0, 0, false, ((H2 t.l t.nx 4 now).2.2 : Nat)⟩) := by
  unfold A2d
  rw [if_neg (by rw [hstl]; omega)]
  simp only [Int.toNat_natCast, hgd]
 rw [e]
 have hp := A32 hx
 refine x9 (e := 93) (k := 1) (v := .slice sa m.ts.length sc) (q := m.ts.length) (xs := U2 m.ts) (by (repeat constructor)) (by omega) ?_
 rintro g gc hg
 cases hg
 have hi0 : ¬ ((i : Nat) : Int) < 0 := by omega
 (have zz:=trivial;repeat((first|clear zz|with_reducible first|refine A3 ?_|refine A5 fun _=>?_|refine A4 fun _=>?_|refine D0 fun _=>?_|refine C7 (hK:=fun _=>?_)|refine C9 (hK:=fun _=>?_)|refine D1 (hK:=fun _=>?_)|refine C8 (hK:=fun _=>?_)|refine C6 (hK:=fun _=>?_));try simp(disch:=first|omega|assumption|((repeat(first|exact A1|exact uH|apply A2|apply uT));first|done|fail)|(simp;first|done|omega|fail))[hi0, c2, hlt, hp]))
 rename_i gs
 refine A3w (f := G2) (i := i) (by (repeat' constructor)) (B9p hx) ?_
 simp only [G2, List.cons_append, List.nil_append]
 refine A6z (f := G2) (x := E4 0 t) (by simp only [G2]; (repeat' constructor)) ?_
 refine D8 (Hc := [.own 93 1 (.slice (some ⟨gs, 0, none⟩) 1 1) 1 [.pointer (some ⟨t.b, 0, none⟩)], F4 G2 [E4 0 t]]) j8 (fun w' _ hs => A6T w' _ [t] (by simp) hs) (by (repeat' constructor)) ?_
 rintro bx _ rfl
 simp only [A6p, List.map_cons, List.map_nil, List.cons_append, List.nil_append]
 refine B4l ?_
 refine A4m (f := G2) (x := E4 1 t) (by (repeat' constructor)) ?_
 simp only [G2, E4, W8, List.cons_append, List.nil_append]
 have hkey2 := hm.keys _ hxm
 have hlen2 := hm.len _ hxm
 (have zz:=trivial;repeat((first|clear zz|with_reducible first|refine A3 ?_|refine A5 fun _=>?_|refine A4 fun _=>?_);try simp(disch:=first|omega|assumption|((repeat(first|exact A1|exact uH|apply A2|apply uT));first|done|fail)|(simp;first|done|omega|fail))[]))
 refine N7 A9j (fun w' hw' => C0L w' t.tv t.l t.nx 4 now hkey2 (by omega) (P2.own (e := 160) (k := 4) (by (repeat constructor)) w' hw')) ?_
 rintro r _ rfl
 refine A1D (e := 160) (k := 4) (v := r) (q := (H2 t.l t.nx 4 now).1.length) (xs := (H2 t.l t.nx 4 now).1.flatMap F3) (by (repeat constructor)) fun hr1 hr2 hr3 => ?_
 (have zz:=trivial;repeat((first|clear zz|with_reducible first|refine A3 ?_|refine A5 fun _=>?_|refine A4 fun _=>?_);try simp(disch:=first|omega|assumption|((repeat(first|exact A1|exact uH|apply A2|apply uT));first|done|fail)|(simp;first|done|omega|fail))[hr1]))
 refine A6z (f := G2) (x := E4 1 ⟨t.b, 1, r, (H2 t.l t.nx 4 now).1, (H2 t.l t.nx 4 now).2.1⟩) (by simp only [G2, E4, W8]; (repeat' constructor)) ?_
 refine B5y (Hc := [.pt bx (.cells #[.slice (some ⟨gs, 0, none⟩) 1 1] 86), .own 93 1 (.slice (some ⟨gs, 0, none⟩) 1 1) 1 [.pointer (some ⟨t.b, 0, none⟩)], F4 G2 [E4 1 ⟨t.b, 1, r, (H2 t.l t.nx 4 now).1, (H2 t.l t.nx 4 now).2.1⟩]]) Z4
  (fun w' _ hs => A6F w' bx _ [⟨t.b, 1, r, (H2 t.l t.nx 4 now).1, (H2 t.l t.nx 4 now).2.1⟩] (by simp) hs) (by (repeat' constructor)) ?_
 rintro _ _ rfl
 simp only [A6p, List.map_cons, List.map_nil, List.cons_append, List.nil_append]
 refine A4m (f := G2) (x := E4 0 ⟨t.b, 1, r, (H2 t.l t.nx 4 now).1, (H2 t.l t.nx 4 now).2.1⟩) (by (repeat' constructor)) ?_
 simp only [G2, List.cons_append, List.nil_append]
 refine A6a (f := G2) (y := E4 0 ⟨t.b, 1, r, (H2 t.l t.nx 4 now).1, (H2 t.l t.nx 4 now).2.1⟩) (ls := m.ts.map (E4 0)) (i := i) (by simp only [G2, List.cons_append, List.nil_append]; (repeat' constructor)) (by simpa using hlt) ?_
 (have zz:=trivial;repeat((first|clear zz|with_reducible first|refine A3 ?_|refine A5 fun _=>?_|refine A4 fun _=>?_);try simp(disch:=first|omega|assumption|((repeat(first|exact A1|exact uH|apply A2|apply uT));first|done|fail)|(simp;first|done|omega|fail))[]))
 refine D4 { m with sv := .slice (some ⟨g, 0, none⟩) m.ts.length sc, ts := m.ts.set i ⟨t.b, 1, r, (H2 t.l t.nx 4 now).1, (H2 t.l t.nx 4 now).2.1⟩ } ⟨by simp [AnsV.val], rfl, by simp [BaH.st, List.map_set]⟩ ?_
 simp only [B9, M1, J0, B2M hx, List.length_set, List.map_set]
 (repeat' constructor)
end Go.Proofs.YtpbmephflllolaaGreat
namespace Go.Proofs.YtpbmephflllolaaGreat
open Go
theorem A5z (l : List EnV) : (s0 l).length = L6 l 1 := by
 have : ∀ (m : List EnV) (i : Nat), (M2 i m).length = L6 m 1 := by
  intro m
  induction m with
  | nil => intro i; simp [M2, L6]
  | cons x m ih =>
   intro i
   have h := ih (i + 1)
   by_cases c : x.st = 1
   ·simp [M2, L6, c, h]
   ·simp [M2, L6, c, h]
 simp only [s0, List.length_map, F8, this]
def H4 (tabs : List (List EnV × Nat)) : List ByteArray := tabs.flatMap fun t => s0 t.1
theorem A55 (tabs : List (List EnV × Nat)) : (H4 tabs).length = A3E tabs := by
 unfold H4 A3E
 induction tabs with
 | nil => rfl
 | cons t tabs ih => rw [List.flatMap_cons, List.length_append, ih, A5z]; simp
theorem liveK_le {tabs : List (List EnV × Nat)} (h : ∀ t ∈ tabs, t.1.length ≤ 64) : (H4 tabs).length ≤ tabs.length * 64 := by
 unfold H4
 induction tabs with
 | nil => simp
 | cons t tabs ih =>
  have h1 := ih fun t ht => h t (by simp [ht])
  have h2 := h t (by simp)
  have h3 : (s0 t.1).length ≤ t.1.length := by rw [A5z]; exact List.countP_le_length
  rw [List.flatMap_cons, List.length_append, List.length_cons]; omega
set_option maxHeartbeats 1000000 in
theorem B1x (w : World) (m : BaH) (c : CfgV) (hm : BaOk c m) (hw : LW false (B3 (B9 m)) w (B9 m) w) :
  Fn PR B5 16 #[.pointer (some ⟨m.b, 0, none⟩)] w (Rn (B3 (B9 m)) w (fun (r : Value) u => u = r) fun r => .own 9 1 r (H4 m.st.tabs).length ((H4 m.st.tabs).map Value.string) :: B9 m) := by
 refine A1p (TW.goH (κ := false) ?_ hw)
 unfold U3
 have hlen := hm.few
 obtain ⟨tb, htb⟩ : ∃ tb, tb = m.st.tabs := ⟨_, rfl⟩
 have htl : tb.length = m.ts.length := by rw [htb]; simp [BaH.st]
 have hall : ∀ t ∈ tb, t.1.length ≤ 64 := fun t ht => by
  rw [htb] at ht
  obtain ⟨x, hx, rfl⟩ := List.mem_map.1 ht; exact hm.len x hx
 rw [← htb]
 generalize hS : B3 (B9 m) = S at *
 simp only [B9, M1, J0]
 refine k9 (e := 93) (k := 1) (v := m.sv) (q := m.ts.length) (xs := U2 m.ts) (by (repeat constructor)) ?_
 intro sa sc hsv
 rw [hsv]
 (have zz:=trivial;repeat((first|clear zz|with_reducible first|refine A3 ?_|refine A5 fun _=>?_|refine A4 fun _=>?_);try simp(disch:=first|omega|assumption|((repeat(first|exact A1|exact uH|apply A2|apply uT));first|done|fail)|(simp;first|done|omega|fail))[]))
 refine D8 (Hc := [J0 (.slice sa m.ts.length sc) m.ts, F4 G2 (m.ts.map (E4 0))]) j8 (fun w' _ hs => A6T w' _ m.ts (by omega) hs) (by simp only [J0]; (repeat' constructor)) ?_
 rintro bx _ rfl
 simp only [J0, List.cons_append, List.nil_append]
 refine B4l ?_
 refine s6 9 1 ?_
 (have zz:=trivial;repeat((first|clear zz|with_reducible first|refine A3 ?_|refine A5 fun _=>?_|refine A4 fun _=>?_);try simp(disch:=first|omega|assumption|((repeat(first|exact A1|exact uH|apply A2|apply uT));first|done|fail)|(simp;first|done|omega|fail))[]))
 refine Sels.tw (rs := [.own 9 1 (.slice none 0 0) 0 [], .pt bx (.cells #[.slice sa m.ts.length sc] 86), .own 93 1 (.slice sa m.ts.length sc) m.ts.length (U2 m.ts), F4 G2 (m.ts.map (E4 1)), .pt m.b (.cells #[.int .i64 m.c.wk, .int .i64 m.c.sh, .int .i64 m.c.cp, .int .i64 m.c.idle, .int .i64 m.c.sl, .pointer (some ⟨m.k, 0, none⟩), .slice sa m.ts.length sc] 88 (0, 0)),
  .pt m.k (.cells #[m.pv, m.rv] 92 (0, 0)), .own 75 2 m.pv m.pool.length (m.pool.flatMap F7), .own 217 2 m.rv (G0 (E5 m.pool)).length ((G0 (E5 m.pool)).flatMap F2)]) (by (repeat' constructor)) ?_
 refine r8 (α := Option Addr × Nat) m.ts.length (fun i x => .slice x.1 (H4 (tb.take i)).length x.2) (fun i x => [.own 9 1 (.slice x.1 (H4 (tb.take i)).length x.2) (H4 (tb.take i)).length ((H4 (tb.take i)).map Value.string), .pt bx (.cells #[.slice sa m.ts.length sc] 86), .own 93 1 (.slice sa m.ts.length sc) m.ts.length (U2 m.ts), F4 G2 (m.ts.map (E4 1)), .pt m.b (.cells #[.int .i64 m.c.wk, .int .i64 m.c.sh, .int .i64 m.c.cp, .int .i64 m.c.idle, .int .i64 m.c.sl, .pointer (some ⟨m.k, 0, none⟩), .slice sa m.ts.length sc] 88 (0, 0)),
  .pt m.k (.cells #[m.pv, m.rv] 92 (0, 0)), .own 75 2 m.pv m.pool.length (m.pool.flatMap F7), .own 217 2 m.rv (G0 (E5 m.pool)).length ((G0 (E5 m.pool)).flatMap F2)]) (fun _ _ => True) (none, 0) trivial ?_
 rintro i ⟨xa, xc⟩ hi _ L hL
 have hsum : (H4 (tb.take i)).length ≤ 1024 := by
  have h1 := liveK_le (tabs := tb.take i) fun t ht => hall t (List.mem_of_mem_take ht)
  have h2 : (tb.take i).length ≤ 16 := by rw [List.length_take]; omega
  omega
 by_cases hlt : i < m.ts.length
 ·have hx := List.getElem?_eq_getElem hlt
  have hp := A32 hx
  have hxm := List.getElem_mem hlt
  have hlk : (m.ts.map (E4 1))[i]? = some (E4 1 m.ts[i]) := by simp [hlt]
  have hst : H4 (tb.take (i + 1)) = H4 (tb.take i) ++ s0 (m.ts[i]).l := by
   have hx2 : tb[i]? = some ((m.ts[i]).l, (m.ts[i]).nx) := by rw [htb]; simp [BaH.st, hlt]
   rw [List.take_add_one, hx2]; simp [H4, List.flatMap_append]
  simp only [hst] at hL
  have hl64 := hm.len _ hxm
  have hkl : (s0 (m.ts[i]).l).length ≤ 64 := by rw [A5z]; exact Nat.le_trans List.countP_le_length hl64
  generalize m.ts[i] = t at *
  refine x9 (e := 93) (k := 1) (v := .slice sa m.ts.length sc) (q := m.ts.length) (xs := U2 m.ts) (by (repeat constructor)) (by omega) ?_
  rintro g gc hg
  cases hg
  refine A3w (f := G2) (i := i) (ls := m.ts.map (E4 1)) (by (repeat' constructor)) hlk ?_
  simp only [G2, E4, W8, List.cons_append, List.nil_append]
  (have zz:=trivial;repeat((first|clear zz|with_reducible first|refine A3 ?_|refine A5 fun _=>?_|refine A4 fun _=>?_);try simp(disch:=first|omega|assumption|((repeat(first|exact A1|exact uH|apply A2|apply uT));first|done|fail)|(simp;first|done|omega|fail))[hlt, hp]))
  refine N7 A9u (fun w' hw' => B90 w' t.tv t.l (by omega) (P2.own (e := 160) (k := 4) (by (repeat constructor)) w' hw')) ?_
  rintro _ r rfl
  refine A0v (e := 9) (k := 1) (q := (H4 (tb.take i)).length) (r := (s0 t.l).length) (xs := (H4 (tb.take i)).map Value.string) (news := (s0 t.l).map Value.string) (by (repeat constructor)) (P2.own (by (repeat constructor))) (by decide) (by simp) (by simp [List.all_map, Function.comp_def]) (by simp only [maxLen]; omega) (by omega) fun a' c' => ?_
  refine A6a (f := G2) (y := E4 1 t) (ls := m.ts.map (E4 1)) (i := i) (by simp only [G2, E4, W8, List.cons_append, List.nil_append]; (repeat' constructor)) (by simpa using hlt) ?_
  have hsame : (m.ts.map (E4 1)).set i (E4 1 t) = m.ts.map (E4 1) := by
   obtain ⟨h1, h2⟩ := List.getElem?_eq_some_iff.1 hlk
   rw [← h2]; exact List.set_getElem_self h1
  rw [hsame]
  (have zz:=trivial;repeat((first|clear zz|with_reducible first|refine A3 ?_|refine A5 fun _=>?_|refine A4 fun _=>?_);try simp(disch:=first|omega|assumption|((repeat(first|exact A1|exact uH|apply A2|apply uT));first|done|fail)|(simp;first|done|omega|fail))[]))
  have h := hL hlt (a', c') trivial
  simp only [List.length_append, List.map_append] at h
  exact Sels.tw (by (repeat' constructor)) h
 ·obtain rfl : i = m.ts.length := by omega
  rw [← htl, List.take_length]
  (have zz:=trivial;repeat((first|clear zz|with_reducible first|refine A3 ?_|refine A5 fun _=>?_|refine A4 fun _=>?_);try simp(disch:=first|omega|assumption|((repeat(first|exact A1|exact uH|apply A2|apply uT));first|done|fail)|(simp;first|done|omega|fail))[]))
  rw [htl]
  refine B5y (Hc := [.pt bx (.cells #[.slice sa m.ts.length sc] 86), J0 (.slice sa m.ts.length sc) m.ts, F4 G2 (m.ts.map (E4 1))]) Z4
   (fun w' _ hs => A6F w' bx _ m.ts (by omega) hs) (by simp only [J0]; (repeat' constructor)) ?_
  rintro _ _ rfl
  simp only [J0, List.cons_append, List.nil_append]
  refine D4 (.slice xa (H4 tb).length xc) rfl ?_
  try simp only [B9, M1, J0, hsv]
  (repeat' constructor)
end Go.Proofs.YtpbmephflllolaaGreat
namespace Go.Proofs.YtpbmephflllolaaGreat
open Go
end Go.Proofs.YtpbmephflllolaaGreat
namespace Go.Proofs.YtpbmephflllolaaGreat
open Go
end Go.Proofs.YtpbmephflllolaaGreat
namespace Go.Proofs.YtpbmephflllolaaGreat
open Go
end Go.Proofs.YtpbmephflllolaaGreat
namespace Go.Proofs.YtpbmephflllolaaGreat
open Go
end Go.Proofs.YtpbmephflllolaaGreat
namespace Go.Proofs.YtpbmephflllolaaGreat
open Go
end Go.Proofs.YtpbmephflllolaaGreat
namespace Go.Proofs.YtpbmephflllolaaGreat
open Go
end Go.Proofs.YtpbmephflllolaaGreat
namespace Go.Proofs.YtpbmephflllolaaGreat
open Go
end Go.Proofs.YtpbmephflllolaaGreat
namespace Go.Proofs.YtpbmephflllolaaGreat
open Go
end Go.Proofs.YtpbmephflllolaaGreat
namespace Go.Proofs.YtpbmephflllolaaGreat
open Go
end Go.Proofs.YtpbmephflllolaaGreat
namespace Go.Proofs.YtpbmephflllolaaGreat
open Go
end Go.Proofs.YtpbmephflllolaaGreat
namespace Go.Proofs.YtpbmephflllolaaGreat
open Go
end Go.Proofs.YtpbmephflllolaaGreat
namespace Go.Proofs.YtpbmephflllolaaGreat
open Go
section
variable {κ : Bool} {X : Nat → Prop} {S : List Nat} {w0 : World} {H H' Hk : List Res} {K : Value → WP} {K0 : WP}
end
end Go.Proofs.YtpbmephflllolaaGreat
namespace Go.Proofs.YtpbmephflllolaaGreat
open Go
theorem P2.mono {κ : Bool} {S : List Nat} {w0 : World} {H H' : List Res} {v : Value} {n : Nat} {xs : List Value} (h : P2 κ S w0 H v n xs) (hs : H.Sublist H') : P2 κ S w0 H' v n xs := fun w hw => h w (hw.sub hs)
def RdC (w : World) (v : Value) (l : List (Nat × Int)) : Prop := G1 w v l.length (l.flatMap F2) ∧ ∃ a c, v = .slice a l.length c ∧ l.length ≤ c
theorem RdC.ks {w w' : World} {v : Value} {l : List (Nat × Int)} (h : RdC w v l) (hk : KS false [] w w') : RdC w' v l := ⟨h.1.ks hk (by simp), h.2⟩
end Go.Proofs.YtpbmephflllolaaGreat
namespace Go.Proofs.YtpbmephflllolaaGreat
open Go
theorem B55 {l : List EnV} {p : List F9} {key : ByteArray} {now : Int} (h : (G6 l p key now).2 = true) : 0 ≤ D6 l key ∧ now ≤ (u9 l key).dl ∧ 0 ≤ A1s p (u9 l key).bk ∧ (G6 l p key now).1 = (u9 l key).bk := by
 unfold G6 at *
 split at h
 ·cases h
 ·rename_i c
  rw [if_neg c]
  refine ⟨by omega, by omega, by omega, rfl⟩
theorem A52 (l : List EnV) (p : List F9) (key : ByteArray) (closing : Bool) (now idle : Int) :
  ((G6 l p key now).2 = false ∧ p = [] ∧ E9 l p key closing now idle = (l, ⟨11, 0, false, 0⟩, false)) ∨
  (¬ ((G6 l p key now).2 = false ∧ p = []) ∧ closing = true ∧ E9 l p key closing now idle = (T1 l key, ⟨0, Y6 l p key now, false, 0⟩, (V7 l key).isSome)) ∨
  (¬ ((G6 l p key now).2 = false ∧ p = []) ∧ closing = false ∧ D6 l key < 0 ∧ E9 l p key closing now idle = (l, ⟨12, 0, false, 0⟩, false)) ∨
  (¬ ((G6 l p key now).2 = false ∧ p = []) ∧ closing = false ∧ ∃ u, G5 l (A6B l p key now idle) = some u ∧ E9 l p key closing now idle = (u, ⟨0, Y6 l p key now, !(G6 l p key now).2, 0⟩, true)) := by
 unfold E9
 by_cases h : (G6 l p key now).2 = false ∧ p = []
 ·left; exact ⟨h.1, h.2, if_pos h⟩
 right
 rw [if_neg h]
 cases closing with
 | true => left; exact ⟨h, rfl, rfl⟩
 | false =>
  right
  cases hp : G5 l (A6B l p key now idle) with
  | none => left; exact ⟨h, rfl, B7H hp, rfl⟩
  | some u => right; exact ⟨h, rfl, u, rfl, rfl⟩
end Go.Proofs.YtpbmephflllolaaGreat
namespace Go.Proofs.YtpbmephflllolaaGreat
open Go
end Go.Proofs.YtpbmephflllolaaGreat
namespace Go.Proofs.YtpbmephflllolaaGreat
open Go
end Go.Proofs.YtpbmephflllolaaGreat
namespace Go.Proofs.YtpbmephflllolaaGreat
open Go
end Go.Proofs.YtpbmephflllolaaGreat
namespace Go.Proofs.YtpbmephflllolaaGreat
open Go
end Go.Proofs.YtpbmephflllolaaGreat
namespace Go.Proofs.YtpbmephflllolaaGreat
open Go
end Go.Proofs.YtpbmephflllolaaGreat
namespace Go.Proofs.YtpbmephflllolaaGreat
open Go
end Go.Proofs.YtpbmephflllolaaGreat
namespace Go.Proofs.YtpbmephflllolaaGreat
open Go
end Go.Proofs.YtpbmephflllolaaGreat
namespace Go.Proofs.YtpbmephflllolaaGreat
open Go
end Go.Proofs.YtpbmephflllolaaGreat
namespace Go.Proofs.YtpbmephflllolaaGreat
open Go
end Go.Proofs.YtpbmephflllolaaGreat
namespace Go.Proofs.YtpbmephflllolaaGreat
open Go
end Go.Proofs.YtpbmephflllolaaGreat
namespace Go.Proofs.YtpbmephflllolaaGreat
open Go
end Go.Proofs.YtpbmephflllolaaGreat
namespace Go.Proofs.YtpbmephflllolaaGreat
open Go
theorem P2.slice {κ : Bool} {S : List Nat} {w0 : World} {H : List Res} {v : Value} {n : Nat} {xs : List Value} {K0 : WP} (h : P2 κ S w0 H v n xs) (hK : ∀ a c, v = .slice a n c → TW κ S w0 H K0) : TW κ S w0 H K0 := fun w hw => by
 obtain ⟨a, c, e, _⟩ := (h w hw).form
 exact hK a c e w hw
end Go.Proofs.YtpbmephflllolaaGreat
namespace Go.Proofs.YtpbmephflllolaaGreat
open Go
structure RmH where
 pv : Value
 tv : Value
 lv : Value
 c : CfgV
 pool : List F9
 ts : List (Value × List EnV)
 pl : List Nat
def RmH.cs (r : RmH) : Array Value := #[.int .i64 r.c.wk, .int .i64 r.c.sh, .int .i64 r.c.cp, .int .i64 r.c.idle, .int .i64 r.c.sl, r.pv, r.tv, r.lv]
end Go.Proofs.YtpbmephflllolaaGreat
namespace Go.Proofs.YtpbmephflllolaaGreat
open Go
def RmH.val (r : RmH) : Value := .agg r.cs
def RmH.st (r : RmH) : MoS := ⟨r.c, r.pool, (r.ts.map (·.2)).zip r.pl⟩
section
variable (w : World) (r : RmH) (o : OpV) (v : Value) (now : Int)
end
end Go.Proofs.YtpbmephflllolaaGreat
namespace Go.Proofs.YtpbmephflllolaaGreat
open Go
end Go.Proofs.YtpbmephflllolaaGreat
namespace Go.Proofs.YtpbmephflllolaaGreat
open Go
section
variable {w0 : World} {H Hk : List Res} {K : Value → WP} {K0 : WP}
end
structure RmS where
 pa : Option Addr
 pc : Nat
 ta : Option Addr
 tc : Nat
 la : Option Addr
 lc : Nat
 pool : List F9
 ts : List (Value × List EnV)
 pl : List Nat
def RmS.cs (c : CfgV) (x : RmS) : Array Value := #[.int .i64 c.wk, .int .i64 c.sh, .int .i64 c.cp, .int .i64 c.idle, .int .i64 c.sl, .slice x.pa x.pool.length x.pc, .slice x.ta x.ts.length x.tc, .slice x.la x.pl.length x.lc]
end Go.Proofs.YtpbmephflllolaaGreat
namespace Go.Proofs.YtpbmephflllolaaGreat
open Go
def A6n (l : List EnV) : List ByteArray := (l.filter fun x => decide (x.st = 1)).map (·.key)
theorem B1z (l : List EnV) : A6n l = s0 l := by
 have : ∀ (m : List EnV) (i : Nat), (M2 i m).map (·.2.key) = A6n m := by
  intro m
  induction m with
  | nil => intro i; rfl
  | cons x m ih =>
   intro i
   have h := ih (i + 1)
   by_cases c : x.st = 1
   ·simp [M2, A6n, c] at h ⊢; exact h
   ·simp [M2, A6n, c] at h ⊢; exact h
 exact (this l 0).symm
end Go.Proofs.YtpbmephflllolaaGreat
namespace Go.Proofs.YtpbmephflllolaaGreat
open Go
theorem B0G (w : World) (m : BaH) (c : CfgV) (hm : BaOk c m) (hw : LW false (B3 (B9 m)) w (B9 m) w) :
  Fn PR B5 20 #[.pointer (some ⟨m.b, 0, none⟩)] w (BDo w m (A65 m.st)) := by
 refine A1Y (TW.goH (κ := false) ?_ hw)
 unfold j3
 unfold BDo
 generalize hS : B3 (B9 m) = S at *
 (have zz:=trivial;repeat((first|clear zz|with_reducible first|refine A3 ?_|refine A5 fun _=>?_|refine A4 fun _=>?_);try simp(disch:=first|omega|assumption|((repeat(first|exact A1|exact uH|apply A2|apply uT));first|done|fail)|(simp;first|done|omega|fail))[]))
 refine D8 (Hc := B9 m) j6 (fun w' _ hs => B1x w' m c hm hs) (by simp only [B9]; (repeat' constructor)) ?_
 rintro _ r rfl
 simp only [B9, M1, J0, List.cons_append, List.nil_append]
 refine k9 (e := 9) (k := 1) (v := r) (q := (H4 m.st.tabs).length) (xs := (H4 m.st.tabs).map Value.string) (by (repeat constructor)) ?_
 rintro ra rc rfl
 (have zz:=trivial;repeat((first|clear zz|with_reducible first|refine A3 ?_|refine A5 fun _=>?_|refine A4 fun _=>?_);try simp(disch:=first|omega|assumption|((repeat(first|exact A1|exact uH|apply A2|apply uT));first|done|fail)|(simp;first|done|omega|fail))[]))
 refine D4 m ⟨by simp [AnsV.val, A65, A55], rfl, rfl⟩ ?_
 try simp only [B9, M1, J0]
 (repeat' constructor)
theorem B9L {X : Nat → Prop} {κ : Bool} {S : List Nat} {w0 : World} {H Hk : List Res} {K : Value → WP} {b k' : Nat} {c0 c1 c2 c3 c4 c5 c6 : Value} {T : TypeId} {d : Array Value} {T2 : TypeId} (hp : Part [.pt b (.cells #[c0, c1, c2, c3, c4, c5, c6] T (0, 0)), .pt k' (.cells d T2 (0, 0))] H Hk) (hd : 0 < d.size)
  (hK : TW κ S w0 (.pt b (.cells #[c0, c1, c2, c3, c4, .pointer (some ⟨k', 0, none⟩), c6] T (0, 0)) :: .pt k' (.cells d T2 (0, 0)) :: Hk) (K (.tuple #[]))) : TW κ S w0 H (B2 PR X 36 [.pointer (some ⟨b, 5, none⟩), .pointer (some ⟨k', 0, none⟩)] K) := by
 refine TW.perm ?_ hp.perm
 refine D8 (Hc := [.pt b (.cells #[c0, c1, c2, c3, c4, c5, c6] T (0, 0))]) (Hk := .pt k' (.cells d T2 (0, 0)) :: Hk) M0 (fun w' hw' hs => B0p w' b k' _ _ _ _ _ _ _ _ d T2 hd hs (hw'.hold (.pt k' (.cells d T2 (0, 0))) (by simp)).1 (fun e => ?_)) (Part.cons Sel.here Part.nil) ?_
 ·have := (List.pairwise_cons.1 hw'.dis).1 (.pt k' (.cells d T2 (0, 0))) (by simp) b (by simp [Res.foot])
  exact this (by simp [Res.foot, e])
 ·rintro _ _ rfl
  exact hK
set_option maxHeartbeats 1000000 in
theorem C0v (w : World) (c : CfgV) : Fn PR B5 10 #[c.val] w (Rn [] w (fun (m : BaH) u => if Z0 c then u = .tuple #[.pointer (some ⟨m.b, 0, none⟩), .int .i64 0] ∧ m.st = ⟨c, [], A4d c⟩ else u = .tuple #[.pointer none, .int .i64 1])
  fun m => if Z0 c then B9 m else []) := by
 refine A86 (TW.go (κ := false) (S := []) ?_)
 unfold A3F
 simp only [CfgV.val]
 (have zz:=trivial;repeat((first|clear zz|with_reducible first|refine A3 ?_|refine A5 fun _=>?_|refine A4 fun _=>?_);try simp(disch:=first|omega|assumption|((repeat(first|exact A1|exact uH|apply A2|apply uT));first|done|fail)|(simp;first|done|omega|fail))[]))
 rename_i bc
 refine D2 A8e (fun w' _ => B64 w' c) ?_
 cases hok : Z0 c with
 | false =>
  (have zz:=trivial;repeat((first|clear zz|with_reducible first|refine A3 ?_|refine A5 fun _=>?_|refine A4 fun _=>?_);try simp(disch:=first|omega|assumption|((repeat(first|exact A1|exact uH|apply A2|apply uT));first|done|fail)|(simp;first|done|omega|fail))[]))
  exact D4 ⟨0, 0, .nilIface, .nilIface, .nilIface, c, [], []⟩ (by simp) Sels.nil
 | true =>
  have hb : 1 ≤ c.sh ∧ c.sh ≤ 16 ∧ 1 ≤ c.cp ∧ c.cp ≤ 64 := by
   simp [Z0, k6] at hok; omega
  obtain ⟨n, hn⟩ : ∃ n : Nat, c.sh = n := ⟨c.sh.toNat, by omega⟩
  obtain ⟨k, hk⟩ : ∃ k : Nat, c.cp = k := ⟨c.cp.toNat, by omega⟩
  rw [hn] at hb
  rw [hk] at hb
  (have zz:=trivial;repeat((first|clear zz|with_reducible first|refine A3 ?_|refine A5 fun _=>?_|refine A4 fun _=>?_);try simp(disch:=first|omega|assumption|((repeat(first|exact A1|exact uH|apply A2|apply uT));first|done|fail)|(simp;first|done|omega|fail))[hn, hk]))
  rename_i bb bk
  refine B9L (b := bb) (k' := bk) (d := #[.slice none 0 0, .slice none 0 0]) (by (repeat' constructor)) (by simp) ?_
  refine s6 93 1 ?_
  refine C14 (f := G2) ?_
  (have zz:=trivial;repeat((first|clear zz|with_reducible first|refine A3 ?_|refine A5 fun _=>?_|refine A4 fun _=>?_);try simp(disch:=first|omega|assumption|((repeat(first|exact A1|exact uH|apply A2|apply uT));first|done|fail)|(simp;first|done|omega|fail))[hn, hk]))
  refine Sels.tw (rs := [.own 93 1 (.slice none 0 0) 0 [], .pt bb (.cells #[.int .i64 c.wk, .int .i64 n, .int .i64 k, .int .i64 c.idle, .int .i64 c.sl, .pointer (some ⟨bk, 0, none⟩), .slice none 0 0] 88), F4 G2 [], .pt bk (.cells #[.slice none 0 0, .slice none 0 0] 92),
   .pt bc (.cells #[.int .i64 c.wk, .int .i64 n, .int .i64 k, .int .i64 c.idle, .int .i64 c.sl] 23)]) (by (repeat' constructor)) ?_
  refine B0D n (fun i (x : List ShB × Option Addr × Nat) => [.own 93 1 (.slice x.2.1 i x.2.2) i (U2 x.1), .pt bb (.cells #[.int .i64 c.wk, .int .i64 n, .int .i64 k, .int .i64 c.idle, .int .i64 c.sl, .pointer (some ⟨bk, 0, none⟩), .slice x.2.1 i x.2.2] 88), F4 G2 x.1, .pt bk (.cells #[.slice none 0 0, .slice none 0 0] 92),
   .pt bc (.cells #[.int .i64 c.wk, .int .i64 n, .int .i64 k, .int .i64 c.idle, .int .i64 c.sl] 23)]) (fun i x => x.1.length = i ∧ x.1.map (E4 0) = x.1 ∧ x.1.map (fun t => (t.l, t.nx)) = List.replicate i (newE k, 0)) ([], none, 0) ⟨rfl, rfl, rfl⟩ ?_
  rintro i ⟨ts, xa, xc⟩ hi ⟨hlen, hlk, hmap⟩ L hL
  simp only at hlen hlk hmap hL ⊢
  by_cases hlt : i < n
  ·(have zz:=trivial;repeat((first|clear zz|with_reducible first|refine A3 ?_|refine A5 fun _=>?_|refine A4 fun _=>?_);try simp(disch:=first|omega|assumption|((repeat(first|exact A1|exact uH|apply A2|apply uT));first|done|fail)|(simp;first|done|omega|fail))[hlt]))
   refine N7 A46 (fun w' _ => A7Y w' k (by omega)) ?_
   rintro _ r rfl
   refine A1D (e := 160) (k := 4) (v := r) (q := (newE k).length) (xs := (newE k).flatMap F3) (by (repeat constructor)) fun hr1 hr2 hr3 => ?_
   have hr4 : r.cells.toList = [r] := by rw [hr1]
   (have zz:=trivial;repeat((first|clear zz|with_reducible first|refine A3 ?_|refine A5 fun _=>?_|refine A4 fun _=>?_|refine D0 fun _=>?_|refine C7 (hK:=fun _=>?_)|refine C9 (hK:=fun _=>?_)|refine D1 (hK:=fun _=>?_)|refine C8 (hK:=fun _=>?_)|refine C6 (hK:=fun _=>?_));try simp(disch:=first|omega|assumption|((repeat(first|exact A1|exact uH|apply A2|apply uT));first|done|fail)|(simp;first|done|omega|fail))[hlt, hr1]))
   rename_i bs gs
   refine A0v (e := 93) (k := 1) (q := i) (r := 1) (xs := U2 ts) (news := [.pointer (some ⟨bs, 0, none⟩)]) (by (repeat constructor)) (P2.own (by (repeat constructor))) (by decide) (by simp) (by simp) (by simp only [maxLen]; omega) (by omega) fun a' c' => ?_
   (have zz:=trivial;repeat((first|clear zz|with_reducible first|refine A3 ?_|refine A5 fun _=>?_|refine A4 fun _=>?_);try simp(disch:=first|omega|assumption|((repeat(first|exact A1|exact uH|apply A2|apply uT));first|done|fail)|(simp;first|done|omega|fail))[hlt]))
   refine C0b (f := G2) (y := ⟨bs, 0, r, newE k, 0⟩) (ls := ts) (by simp only [G2, W8, List.cons_append, List.nil_append]; (repeat' constructor)) ?_
   refine Sels.tw ?_ (hL hlt (ts ++ [⟨bs, 0, r, newE k, 0⟩], a', c') ⟨by simp [hlen], by rw [List.map_append, hlk]; rfl, by rw [List.map_append, hmap, List.replicate_succ']; rfl⟩)
   simp only [U2, List.map_append, List.map_cons, List.map_nil, B8z]
   (repeat' constructor)
  ·obtain rfl : i = n := by omega
   (have zz:=trivial;repeat((first|clear zz|with_reducible first|refine A3 ?_|refine A5 fun _=>?_|refine A4 fun _=>?_);try simp(disch:=first|omega|assumption|((repeat(first|exact A1|exact uH|apply A2|apply uT));first|done|fail)|(simp;first|done|omega|fail))[]))
   refine s6 75 2 ?_
   refine s6 217 2 ?_
   refine D4 ⟨bb, bk, .slice none 0 0, .slice none 0 0, .slice xa i xc, c, [], ts⟩ ⟨rfl, ?_⟩ ?_
   ·simp only [BaH.st, hmap, A4d, hn, hk, Int.toNat_natCast]
   ·have hs0 : G0 (E5 []) = [] := List.length_eq_zero_iff.1 (by rw [e8]; rfl)
    simp only [B9, M1, J0, hn, hk, hlen, hlk, hs0, List.length_nil, List.flatMap_nil]
    (repeat' constructor)
theorem C1c (w : World) (m : BaH) (o : OpV) (v : Value) (now : Int) (c : CfgV) (hv : PoolBt w m v o.pool) (hpk : o.packet.size < 2 ^ 40) (hm : BaOk c m) (hw : LW false (B3 (B9 m)) w (B9 m) w) :
  Fn PR B5 13 #[.pointer (some ⟨m.b, 0, none⟩), o.val v, .int .i64 now] w (BDo w m (doV m.st o now)) := by
 refine A2k (TW.goH (κ := false) (S := B3 (B9 m)) ?_ hw)
 unfold p6
 simp only [OpV.val]
 unfold BDo
 generalize hS : B3 (B9 m) = S at *
 have hc1 : v.cells.size = 1 := by rw [hv.form.1]; rfl
 by_cases k0 : o.kind = 0
 ·rw [B4A _ _ _ k0]
  (have zz:=trivial;repeat((first|clear zz|with_reducible first|refine A3 ?_|refine A5 fun _=>?_|refine A4 fun _=>?_);try simp(disch:=first|omega|assumption|((repeat(first|exact A1|exact uH|apply A2|apply uT));first|done|fail)|(simp;first|done|omega|fail))[k0]))
  refine D8 (Hc := B9 m) Y9 (fun w' hw' hs => A5j w' m o.packet now c hpk hm hs) (by simp only [B9]; (repeat' constructor)) ?_
  rintro m' _ ⟨rfl, hb, hst⟩
  simp only [B9, M1, J0, List.cons_append, List.nil_append]
  (have zz:=trivial;repeat((first|clear zz|with_reducible first|refine A3 ?_|refine A5 fun _=>?_|refine A4 fun _=>?_);try simp(disch:=first|omega|assumption|((repeat(first|exact A1|exact uH|apply A2|apply uT));first|done|fail)|(simp;first|done|omega|fail))[AnsV.val]))
  refine D4 m' ⟨by simp [AnsV.val], hb, hst⟩ ?_
  simp only [B9, M1, J0]
  (repeat' constructor)
 by_cases k1 : o.kind = 1
 ·rw [B7C _ _ _ k1]
  (have zz:=trivial;repeat((first|clear zz|with_reducible first|refine A3 ?_|refine A5 fun _=>?_|refine A4 fun _=>?_);try simp(disch:=first|omega|assumption|((repeat(first|exact A1|exact uH|apply A2|apply uT));first|done|fail)|(simp;first|done|omega|fail))[k0, k1]))
  refine D8 (Hc := B9 m) c7 (fun w' hw' hs => A9B w' m o.pool v ⟨hv.at (by rw [hS]; exact hw'.ks), hv.off, hv.len, hv.form⟩ hs) (by simp only [B9]; (repeat' constructor)) ?_
  rintro m' _ ⟨rfl, hb, hst⟩
  simp only [B9, M1, J0, List.cons_append, List.nil_append]
  (have zz:=trivial;repeat((first|clear zz|with_reducible first|refine A3 ?_|refine A5 fun _=>?_|refine A4 fun _=>?_);try simp(disch:=first|omega|assumption|((repeat(first|exact A1|exact uH|apply A2|apply uT));first|done|fail)|(simp;first|done|omega|fail))[AnsV.val]))
  refine D4 m' ⟨by simp [AnsV.val], hb, hst⟩ ?_
  simp only [B9, M1, J0]
  (repeat' constructor)
 by_cases k2 : o.kind = 2
 ·rw [B7K _ _ _ k2]
  (have zz:=trivial;repeat((first|clear zz|with_reducible first|refine A3 ?_|refine A5 fun _=>?_|refine A4 fun _=>?_);try simp(disch:=first|omega|assumption|((repeat(first|exact A1|exact uH|apply A2|apply uT));first|done|fail)|(simp;first|done|omega|fail))[k0, k1, k2]))
  refine D8 (Hc := B9 m) d7 (fun w' hw' hs => A9H w' m o.shard now c hm hs) (by simp only [B9]; (repeat' constructor)) ?_
  rintro m' _ ⟨rfl, hb, hst⟩
  simp only [B9, M1, J0, List.cons_append, List.nil_append]
  (have zz:=trivial;repeat((first|clear zz|with_reducible first|refine A3 ?_|refine A5 fun _=>?_|refine A4 fun _=>?_);try simp(disch:=first|omega|assumption|((repeat(first|exact A1|exact uH|apply A2|apply uT));first|done|fail)|(simp;first|done|omega|fail))[AnsV.val]))
  refine D4 m' ⟨by simp [AnsV.val], hb, hst⟩ ?_
  simp only [B9, M1, J0]
  (repeat' constructor)
 by_cases k3 : o.kind = 3
 ·rw [C0P _ _ _ k3]
  (have zz:=trivial;repeat((first|clear zz|with_reducible first|refine A3 ?_|refine A5 fun _=>?_|refine A4 fun _=>?_);try simp(disch:=first|omega|assumption|((repeat(first|exact A1|exact uH|apply A2|apply uT));first|done|fail)|(simp;first|done|omega|fail))[k0, k1, k2, k3]))
  refine D8 (Hc := B9 m) f7 (fun w' hw' hs => B0G w' m c hm hs) (by simp only [B9]; (repeat' constructor)) ?_
  rintro m' _ ⟨rfl, hb, hst⟩
  simp only [B9, M1, J0, List.cons_append, List.nil_append]
  (have zz:=trivial;repeat((first|clear zz|with_reducible first|refine A3 ?_|refine A5 fun _=>?_|refine A4 fun _=>?_);try simp(disch:=first|omega|assumption|((repeat(first|exact A1|exact uH|apply A2|apply uT));first|done|fail)|(simp;first|done|omega|fail))[AnsV.val]))
  refine D4 m' ⟨by simp [AnsV.val], hb, hst⟩ ?_
  simp only [B9, M1, J0]
  (repeat' constructor)
 ·rw [B36 _ _ _ (by omega)]
  simp only [B9, M1, J0]
  (have zz:=trivial;repeat((first|clear zz|with_reducible first|refine A3 ?_|refine A5 fun _=>?_|refine A4 fun _=>?_);try simp(disch:=first|omega|assumption|((repeat(first|exact A1|exact uH|apply A2|apply uT));first|done|fail)|(simp;first|done|omega|fail))[k0, k1, k2, k3]))
  refine D4 m ⟨by simp [AnsV.val], rfl, rfl⟩ ?_
  try simp only [B9, M1, J0]
  (repeat' constructor)
end Go.Proofs.YtpbmephflllolaaGreat
namespace Go.Proofs.YtpbmephflllolaaGreat
open Go
section
variable {S : List Nat} {w0 w : World} {H Hk : List Res} {K : Value → WP}
theorem B4w {m : BaH} : PoolBt w m (.slice none 0 0) [] := ⟨Or.inl ⟨rfl, rfl, none, 0, rfl⟩, fun h => by simp at h, by simp, rfl, rfl⟩
theorem B4v {κ : Bool} {m : BaH} {v : Value} {p : List F9} {e : TypeId} (hw : LW κ S w0 (B9 m ++ Hk) w) (hm : Res.own e 2 v p.length (p.flatMap F7) ∈ Hk) (hl : p.length ≤ 1000) : PoolBt w m v p := by
 have h := hw.hold _ (List.mem_append_right _ hm)
 obtain ⟨a, c, e⟩ := M8.form h
 refine ⟨M8.rd h, fun _ g hg hf => ?_, hl, by rw [e]; rfl, by rw [e]; rfl⟩
 obtain ⟨s, hs, hbs⟩ := N1.1 hf
 exact (List.pairwise_append.1 hw.dis).2.2 s hs _ hm g hbs hg
theorem B48 {κ : Bool} {m : BaH} {v : Value} {p : List F9} (hw : LW κ [] w0 (B9 m ++ Hk) w) (h : G1 w0 v p.length (p.flatMap F7)) (hl : p.length ≤ 1000) : PoolBt w m v p := by
 refine ⟨h.ks hw.ks (by simp), fun h0 g hg hf => ?_, hl, by obtain ⟨a, c, e, _⟩ := h.form; rw [e]; exact ⟨rfl, rfl⟩⟩
 have h1 := B8s h (by rw [Q6 (k := 2) fun _ => rfl]; omega) h0 g hg
 obtain ⟨s, hs, hbs⟩ := N1.1 hf
 rcases (hw.own s (List.mem_append_left _ hs) g hbs).1 with h2 | h2
 ·cases h2
 ·omega
theorem B9w {m : BaH} {o : OpV} {v : Value} {now : Int} {c : CfgV} (r : MoS × AnsV) (hi : Inv c m.st) (hp : Part (B9 m) H Hk) (hpa : ∀ w, LW false S w0 (B9 m ++ Hk) w → PoolBt w m v o.pool) (hpk : o.packet.size < 2 ^ 40) (hr : doV m.st o now = r)
  (hK : ∀ m' : BaH, m'.b = m.b → m'.st = r.1 → Inv c m'.st → TW false S w0 (B9 m' ++ Hk) (K r.2.val)) : TW false S w0 H (B2 PR B5 13 [.pointer (some ⟨m.b, 0, none⟩), o.val v, .int .i64 now] K) := by
 subst hr
 refine TW.perm ?_ hp.perm
 refine D8 (Hc := B9 m) A2V (fun w' hw hs => C1c w' m o v now c (hpa w' hw) hpk (BaOk.of hi) hs) V0 ?_
 rintro m' _ ⟨rfl, hb, hst⟩
 exact hK m' hb hst (by rw [hst]; exact hi.do' o now)
theorem A6u {m : BaH} {pk : ByteArray} {now : Int} {c : CfgV} (r : MoS × AnsV) (hi : Inv c m.st) (hp : Part (B9 m) H Hk) (hpk : pk.size < 2 ^ 40) (hr : K7 m.st pk now = r)
  (hK : ∀ m' : BaH, m'.b = m.b → m'.st = r.1 → Inv c m'.st → TW false S w0 (B9 m' ++ Hk) (K r.2.val)) : TW false S w0 H (B2 PR B5 24 [.pointer (some ⟨m.b, 0, none⟩), .string pk, .int .i64 now] K) := by
 subst hr
 refine D8 (Hc := B9 m) Y9 (fun w' hw hs => A5j w' m pk now c hpk (BaOk.of hi) hs) hp ?_
 rintro m' _ ⟨rfl, hb, hst⟩
 exact hK m' hb hst (by rw [hst, ← B4A m.st ⟨0, pk, [], 0⟩ now rfl]; exact hi.do' _ now)
theorem C1x {m : BaH} {p : List F9} {v : Value} {c : CfgV} (r : MoS × AnsV) (hi : Inv c m.st) (hp : Part (B9 m) H Hk) (hpa : ∀ w, LW false S w0 (B9 m ++ Hk) w → PoolBt w m v p) (hr : A6f m.st p = r)
  (hK : ∀ m' : BaH, m'.b = m.b → m'.st = r.1 → Inv c m'.st → TW false S w0 (B9 m' ++ Hk) (K r.2.val)) : TW false S w0 H (B2 PR B5 26 [.pointer (some ⟨m.b, 0, none⟩), v] K) := by
 subst hr
 refine TW.perm ?_ hp.perm
 refine D8 (Hc := B9 m) c7 (fun w' hw hs => A9B w' m p v (hpa w' hw) hs) V0 ?_
 rintro m' _ ⟨rfl, hb, hst⟩
 exact hK m' hb hst (by rw [hst, ← B7C m.st ⟨1, P4, p, 0⟩ 0 rfl]; exact hi.do' _ 0)
theorem B6W {m : BaH} {j now : Int} {c : CfgV} (r : MoS × AnsV) (hi : Inv c m.st) (hp : Part (B9 m) H Hk) (hr : A2d m.st j now = r)
  (hK : ∀ m' : BaH, m'.b = m.b → m'.st = r.1 → Inv c m'.st → TW false S w0 (B9 m' ++ Hk) (K r.2.val)) : TW false S w0 H (B2 PR B5 27 [.pointer (some ⟨m.b, 0, none⟩), .int .i64 j, .int .i64 now] K) := by
 subst hr
 refine D8 (Hc := B9 m) d7 (fun w' hw hs => A9H w' m j now c (BaOk.of hi) hs) hp ?_
 rintro m' _ ⟨rfl, hb, hst⟩
 exact hK m' hb hst (by rw [hst, ← B7K m.st ⟨2, P4, [], j⟩ now rfl]; exact hi.do' _ now)
theorem C0f {m : BaH} {c : CfgV} (hi : Inv c m.st) (hp : Part (B9 m) H Hk)
  (hK : ∀ m' : BaH, m'.b = m.b → m'.st = m.st → TW false S w0 (B9 m' ++ Hk) (K (A65 m.st).2.val)) : TW false S w0 H (B2 PR B5 20 [.pointer (some ⟨m.b, 0, none⟩)] K) := by
 refine D8 (Hc := B9 m) f7 (fun w' hw hs => B0G w' m c (BaOk.of hi) hs) hp ?_
 rintro m' _ ⟨rfl, hb, hst⟩
 exact hK m' hb hst
theorem A6s {m : BaH} {c : CfgV} (hi : Inv c m.st) (hp : Part (B9 m) H Hk)
  (hK : ∀ a b, TW false S w0 (.own 9 1 (.slice a (H4 m.st.tabs).length b) (H4 m.st.tabs).length ((H4 m.st.tabs).map Value.string) :: (B9 m ++ Hk)) (K (.slice a (H4 m.st.tabs).length b))) : TW false S w0 H (B2 PR B5 16 [.pointer (some ⟨m.b, 0, none⟩)] K) := by
 refine D8 (Hc := B9 m) j6 (fun w' hw hs => B1x w' m c (BaOk.of hi) hs) hp ?_
 rintro _ r rfl
 refine k9 (e := 9) (k := 1) (v := r) (q := (H4 m.st.tabs).length) (xs := (H4 m.st.tabs).map Value.string) (by simp) ?_
 rintro a b rfl
 exact hK a b
theorem B38 {m : BaH} {c : CfgV} (hi : Inv c m.st) (hp : Part (B9 m) H Hk) (hK : ∀ a b, TW false S w0 (.own 75 2 (.slice a m.pool.length b) m.pool.length (m.pool.flatMap F7) :: (B9 m ++ Hk)) (K (.slice a m.pool.length b))) : TW false S w0 H (B2 PR B5 19 [.pointer (some ⟨m.b, 0, none⟩)] K) := by
 refine D8 (Hc := B9 m) A1U (fun w' hw hs => B73 w' m (BaOk.of hi).pool hs) hp ?_
 rintro _ r rfl
 refine k9 (e := 75) (k := 2) (v := r) (q := m.pool.length) (xs := m.pool.flatMap F7) (by simp) ?_
 rintro a b rfl
 exact hK a b
theorem A8H {c : CfgV} (h0 : Z0 c = false → TW false S w0 H (K (.tuple #[.pointer none, .int .i64 1])))
  (h1 : ∀ m : BaH, Z0 c = true → m.st = ⟨c, [], A4d c⟩ → Inv c m.st → TW false S w0 (B9 m ++ H) (K (.tuple #[.pointer (some ⟨m.b, 0, none⟩), .int .i64 0]))) : TW false S w0 H (B2 PR B5 10 [c.val] K) := by
 refine N7 A7r (fun w' _ => C0v w' c) ?_
 rintro m u hm
 cases hc : Z0 c with
 | false =>
  simp only [hc, Bool.false_eq_true, if_false] at hm ⊢
  subst hm
  exact h0 hc
 | true =>
  simp only [hc, if_true] at hm ⊢
  obtain ⟨rfl, e⟩ := hm
  exact h1 m hc e (by rw [e]; exact Inv.new hc)
end
end Go.Proofs.YtpbmephflllolaaGreat
namespace Go.Proofs.YtpbmephflllolaaGreat
open Go
theorem C1D : A2d (wk2 0) 0 6 = (wk1, ⟨0, 0, false, 1⟩) := by kernel_rfl
theorem C2B : A2d wk1 1 6 = (wk1, ⟨1, 0, false, 0⟩) := by kernel_rfl
theorem B4x (w : World) : Fn PR B5 8 #[] w (fun v w' => v = .bool true ∧ C4 [] w w') := by
 refine Fn.pure (A2l (TW.go (κ := false) (S := []) ?_))
 unfold p4
 (have zz:=trivial;repeat((first|clear zz|with_reducible first|refine A3 ?_|refine A5 fun _=>?_|refine A4 fun _=>?_);try simp(disch:=first|omega|assumption|((repeat(first|exact A1|exact uH|apply A2|apply uT));first|done|fail)|(simp;first|done|omega|fail))[]))
 refine A8H (c := wkC) (fun h => by rw [C1S] at h; cases h) fun m _ hst hi => ?_
 (have zz:=trivial;repeat((first|clear zz|with_reducible first|refine A3 ?_|refine A5 fun _=>?_|refine A4 fun _=>?_);try simp(disch:=first|omega|assumption|((repeat(first|exact A1|exact uH|apply A2|apply uT));first|done|fail)|(simp;first|done|omega|fail))[]))
 refine A8H (c := ⟨0, 0, 0, 0, 0⟩) (fun _ => ?_) (fun _ h => by rw [B92] at h; cases h)
 (have zz:=trivial;repeat((first|clear zz|with_reducible first|refine A3 ?_|refine A5 fun _=>?_|refine A4 fun _=>?_);try simp(disch:=first|omega|assumption|((repeat(first|exact A1|exact uH|apply A2|apply uT));first|done|fail)|(simp;first|done|omega|fail))[]))
 refine D2 A0n (fun w' _ => A2T w' wkK 0) ?_
 rw [C2K]
 (have zz:=trivial;repeat((first|clear zz|with_reducible first|refine A3 ?_|refine A5 fun _=>?_|refine A4 fun _=>?_);try simp(disch:=first|omega|assumption|((repeat(first|exact A1|exact uH|apply A2|apply uT));first|done|fail)|(simp;first|done|omega|fail))[]))
 refine A6u (wk0, ⟨11, 0, false, 0⟩) hi (by ((repeat (first | exact V0 | apply Part.skip)); first | done | fail)) B4D (by rw [hst]; exact C5y) fun m1 hb1 hst1 hi1 => ?_
 rw [← hb1]
 clear hst hi hb1
 (have zz:=trivial;repeat((first|clear zz|with_reducible first|refine A3 ?_|refine A5 fun _=>?_|refine A4 fun _=>?_|refine D0 fun _=>?_|refine C7 (hK:=fun _=>?_)|refine C9 (hK:=fun _=>?_)|refine D1 (hK:=fun _=>?_)|refine C8 (hK:=fun _=>?_)|refine C6 (hK:=fun _=>?_));try simp(disch:=first|omega|assumption|((repeat(first|exact A1|exact uH|apply A2|apply uT));first|done|fail)|(simp;first|done|omega|fail))[AnsV.val]))
 refine C1x (p := [(7, 1)]) (wk1, ⟨0, 0, false, 0⟩) hi1 (by ((repeat (first | exact V0 | apply Part.skip)); first | done | fail)) (fun _ h => B4v (p := [(7, 1)]) h A1 (by decide)) (by rw [hst1]; exact C58) fun m2 hb2 hst2 hi2 => ?_
 rw [← hb2]
 clear hst1 hi1 hb2
 (have zz:=trivial;repeat((first|clear zz|with_reducible first|refine A3 ?_|refine A5 fun _=>?_|refine A4 fun _=>?_);try simp(disch:=first|omega|assumption|((repeat(first|exact A1|exact uH|apply A2|apply uT));first|done|fail)|(simp;first|done|omega|fail))[AnsV.val]))
 refine A6u (wk2 0, ⟨0, 7, true, 0⟩) hi2 (by ((repeat (first | exact V0 | apply Part.skip)); first | done | fail)) B4D (by rw [hst2]; exact C5Z) fun m1 hb1 hst1 hi1 => ?_
 rw [← hb1]
 clear hst2 hi2 hb1
 (have zz:=trivial;repeat((first|clear zz|with_reducible first|refine A3 ?_|refine A5 fun _=>?_|refine A4 fun _=>?_);try simp(disch:=first|omega|assumption|((repeat(first|exact A1|exact uH|apply A2|apply uT));first|done|fail)|(simp;first|done|omega|fail))[AnsV.val]))
 refine C0f hi1 (by ((repeat (first | exact V0 | apply Part.skip)); first | done | fail)) fun m2 hb2 hst2 => ?_
 have hi2 : Inv wkC m2.st := by rw [hst2]; exact hi1
 rw [hst1] at hst2
 rw [← hb2, hst1, show (A65 (wk2 0)).2 = ⟨0, 0, false, 1⟩ from rfl]
 clear hst1 hi1 hb2
 (have zz:=trivial;repeat((first|clear zz|with_reducible first|refine A3 ?_|refine A5 fun _=>?_|refine A4 fun _=>?_);try simp(disch:=first|omega|assumption|((repeat(first|exact A1|exact uH|apply A2|apply uT));first|done|fail)|(simp;first|done|omega|fail))[AnsV.val]))
 refine B6W (wk1, ⟨0, 0, false, 1⟩) hi2 (by ((repeat (first | exact V0 | apply Part.skip)); first | done | fail)) (by rw [hst2]; exact C1D) fun m1 hb1 hst1 hi1 => ?_
 rw [← hb1]
 clear hst2 hi2 hb1
 (have zz:=trivial;repeat((first|clear zz|with_reducible first|refine A3 ?_|refine A5 fun _=>?_|refine A4 fun _=>?_);try simp(disch:=first|omega|assumption|((repeat(first|exact A1|exact uH|apply A2|apply uT));first|done|fail)|(simp;first|done|omega|fail))[AnsV.val]))
 refine B6W (wk1, ⟨1, 0, false, 0⟩) hi1 (by ((repeat (first | exact V0 | apply Part.skip)); first | done | fail)) (by rw [hst1]; exact C2B) fun m2 hb2 hst2 hi2 => ?_
 rw [← hb2]
 clear hst1 hi1 hb2
 simp only [B9, List.cons_append, List.nil_append]
 (have zz:=trivial;repeat((first|clear zz|with_reducible first|refine A3 ?_|refine A5 fun _=>?_|refine A4 fun _=>?_);try simp(disch:=first|omega|assumption|((repeat(first|exact A1|exact uH|apply A2|apply uT));first|done|fail)|(simp;first|done|omega|fail))[AnsV.val]))
 refine A6s hi2 (by simp only [B9]; (repeat' constructor)) fun a b => ?_
 have hlv : H4 m2.st.tabs = [] := by rw [hst2]; rfl
 simp only [hlv, B9, List.cons_append, List.nil_append]
 (have zz:=trivial;repeat((first|clear zz|with_reducible first|refine A3 ?_|refine A5 fun _=>?_|refine A4 fun _=>?_);try simp(disch:=first|omega|assumption|((repeat(first|exact A1|exact uH|apply A2|apply uT));first|done|fail)|(simp;first|done|omega|fail))[AnsV.val]))
 have hp2 : m2.pool = [(7, 1)] := congrArg MoS.pool hst2
 refine B38 hi2 (by simp only [B9]; (repeat' constructor)) fun a b => ?_
 rw [hp2]
 simp only [B9, List.cons_append, List.nil_append]
 (have zz:=trivial;repeat((first|clear zz|with_reducible first|refine A3 ?_|refine A5 fun _=>?_|refine A4 fun _=>?_);try simp(disch:=first|omega|assumption|((repeat(first|exact A1|exact uH|apply A2|apply uT));first|done|fail)|(simp;first|done|omega|fail))[AnsV.val]))
 refine B9w (o := ⟨9, P4, [], 0⟩) (wk1, ⟨1, 0, false, 0⟩) hi2 (by simp only [B9, hp2]; (repeat' constructor)) (fun _ _ => B4w) (by simp) (by rw [hst2, B36 _ _ _ (Or.inr (by decide))]) fun m1 hb1 hst1 hi1 => ?_
 (have zz:=trivial;repeat((first|clear zz|with_reducible first|refine A3 ?_|refine A5 fun _=>?_|refine A4 fun _=>?_);try simp(disch:=first|omega|assumption|((repeat(first|exact A1|exact uH|apply A2|apply uT));first|done|fail)|(simp;first|done|omega|fail))[AnsV.val]))
 exact B0 rfl
end Go.Proofs.YtpbmephflllolaaGreat
namespace Go.Proofs.YtpbmephflllolaaGreat
open Go
theorem B89 (w : World) (c : CfgV) (v : Value) (l : List ((OpV × Value) × Int)) (hn : l.length ≤ 9223372036854775807) (hv : G1 w v l.length (l.flatMap A2E)) (hp : ∀ s ∈ l, B2f s.1) :
  Fn PR B5 9 #[c.val, v] w (fun r w' => r = .bool (A4y c (l.map (·.1.1))) ∧ C4 [] w w') := by
 refine Fn.pure (A39 (TW.go (κ := false) (S := []) ?_))
 unfold x4
 obtain ⟨a, cc, rfl, hr⟩ := hv.form
 obtain ⟨n, hnn⟩ : ∃ n, n = min l.length 13 := ⟨_, rfl⟩
 simp only [CfgV.val]
 (have zz:=trivial;repeat((first|clear zz|with_reducible first|refine A3 ?_|refine A5 fun _=>?_|refine A4 fun _=>?_);try simp(disch:=first|omega|assumption|((repeat(first|exact A1|exact uH|apply A2|apply uT));first|done|fail)|(simp;first|done|omega|fail))[]))
 rename_i bc
 refine s6 42 4 ?_
 refine r8 n (fun i (x : Option Addr × Nat) => .slice x.1 i x.2) (fun i x => [.own 42 4 (.slice x.1 i x.2) i (((l.map (·.1)).take i).flatMap l8), .pt bc (.cells #[.int .i64 c.wk, .int .i64 c.sh, .int .i64 c.cp, .int .i64 c.idle, .int .i64 c.sl] 23)]) (fun i x => True) (none, 0) trivial ?_ (by simp)
 rintro i ⟨xa, xc⟩ hi _ L hL
 by_cases hlt : i < n
 ·have hil : i < l.length := by omega
  have hx := List.getElem?_eq_getElem hil
  obtain ⟨b, o, rfl, hrow⟩ := hr (by omega)
  have h1 := hrow.partAt (f := A2E) (k := 5) (fun _ => rfl) hx 0 4 (by omega)
  rw [show ((A2E l[i]).drop 0).take 4 = l8 l[i].1 from rfl, Nat.add_zero] at h1
  have c1 : (i : Int) ≤ 12 := by omega
  have hst : ((l.map (·.1)).take (i + 1)).flatMap l8 = ((l.map (·.1)).take i).flatMap l8 ++ l8 l[i].1 := by
   rw [List.take_add_one, List.getElem?_map, hx]; simp [List.flatMap_append]
  (have zz:=trivial;repeat((first|clear zz|with_reducible first|refine A3 ?_|refine A5 fun _=>?_|refine A4 fun _=>?_|refine D0 fun _=>?_|refine C7 (hK:=fun _=>?_)|refine C9 (hK:=fun _=>?_)|refine D1 (hK:=fun _=>?_)|refine C8 (hK:=fun _=>?_)|refine C6 (hK:=fun _=>?_));try simp(disch:=first|omega|assumption|((repeat(first|exact A1|exact uH|apply A2|apply uT));first|done|fail)|(simp;first|done|omega|fail))[hil, h1, c1, l8]))
  obtain ⟨pa, pc, hpl⟩ := hp l[i] (List.getElem_mem hil)
  refine A0v (e := 42) (k := 4) (q := i) (r := 1) (xs := ((l.map (·.1)).take i).flatMap l8) (news := l8 l[i].1) (by (repeat constructor)) (P2.own (by (repeat constructor))) (by decide) rfl (by simp [l8, hpl]) (by simp only [maxLen]; omega) (by omega) fun a' c' => ?_
  (have zz:=trivial;repeat((first|clear zz|with_reducible first|refine A3 ?_|refine A5 fun _=>?_|refine A4 fun _=>?_);try simp(disch:=first|omega|assumption|((repeat(first|exact A1|exact uH|apply A2|apply uT));first|done|fail)|(simp;first|done|omega|fail))[]))
  have h2 := hL hlt (a', c') trivial
  rw [hst] at h2
  exact Sels.tw (by (repeat' constructor)) h2
 ·have hin : i = n := by omega
  have hce : (c.val : Value) = .agg #[.int .i64 c.wk, .int .i64 c.sh, .int .i64 c.cp, .int .i64 c.idle, .int .i64 c.sl] := rfl
  have hlen : (((l.map (·.1)).take i)).length = i := by simp; omega
  have hm : ((l.map (·.1)).take i).map (·.1) = (l.map (·.1.1)).take 13 := by
   rw [List.map_take, List.map_map, hin, hnn]
   by_cases h : l.length ≤ 13
   ·rw [Nat.min_eq_left h, List.take_of_length_le (by simp), List.take_of_length_le (by simp; omega)]; rfl
   ·rw [Nat.min_eq_right (by omega)]; rfl
  have hfin : n4 c = true → ∀ K : Value → WP, (∀ H : List Res, TW false [] w H (K (.bool (A4y c (l.map (·.1.1)))))) → TW false [] w [.own 42 4 (.slice xa i xc) i (((l.map (·.1)).take i).flatMap l8), .pt bc (.cells #[.int .i64 c.wk, .int .i64 c.sh, .int .i64 c.cp, .int .i64 c.idle, .int .i64 c.sl] 23)]
    (B2 PR B5 34 [.slice xa i xc, .int .i64 12] K) := fun hs K hK => by
   refine D2 A3U (fun w' hw' => by
    have := B78 w' (.slice xa i xc) ((l.map (·.1)).take i) 12 (by omega) (by rw [hlen]; exact P2.own (by (repeat constructor)) w' hw') fun o ho => by
     obtain ⟨s, hs, rfl⟩ := List.mem_map.1 (List.mem_of_mem_take ho)
     exact hp s hs
    exact this) ?_
   have e : A4y c (l.map (·.1.1)) = A0A (((l.map (·.1)).take i).map (·.1)) 12 := by rw [hm, A4y, hs]; simp
   rw [← e]; exact hK _
  by_cases hil : i < l.length
  ·have c1 : ¬ (i : Int) ≤ 12 := by omega
   (have zz:=trivial;repeat((first|clear zz|with_reducible first|refine A3 ?_|refine A5 fun _=>?_|refine A4 fun _=>?_);try simp(disch:=first|omega|assumption|((repeat(first|exact A1|exact uH|apply A2|apply uT));first|done|fail)|(simp;first|done|omega|fail))[hil, c1]))
   refine D2 l9 (fun w' _ => B18 w' c) ?_
   cases hs : n4 c with
   | true =>
    (have zz:=trivial;repeat((first|clear zz|with_reducible first|refine A3 ?_|refine A5 fun _=>?_|refine A4 fun _=>?_);try simp(disch:=first|omega|assumption|((repeat(first|exact A1|exact uH|apply A2|apply uT));first|done|fail)|(simp;first|done|omega|fail))[]))
    refine hfin hs _ fun H => ?_
    (have zz:=trivial;repeat((first|clear zz|with_reducible first|refine A3 ?_|refine A5 fun _=>?_|refine A4 fun _=>?_);try simp(disch:=first|omega|assumption|((repeat(first|exact A1|exact uH|apply A2|apply uT));first|done|fail)|(simp;first|done|omega|fail))[]))
    exact B0 rfl
   | false => (have zz:=trivial;repeat((first|clear zz|with_reducible first|refine A3 ?_|refine A5 fun _=>?_|refine A4 fun _=>?_);try simp(disch:=first|omega|assumption|((repeat(first|exact A1|exact uH|apply A2|apply uT));first|done|fail)|(simp;first|done|omega|fail))[])); exact B0 (by simp [A4y, hs])
  ·(have zz:=trivial;repeat((first|clear zz|with_reducible first|refine A3 ?_|refine A5 fun _=>?_|refine A4 fun _=>?_);try simp(disch:=first|omega|assumption|((repeat(first|exact A1|exact uH|apply A2|apply uT));first|done|fail)|(simp;first|done|omega|fail))[hil]))
   refine D2 l9 (fun w' _ => B18 w' c) ?_
   cases hs : n4 c with
   | true =>
    (have zz:=trivial;repeat((first|clear zz|with_reducible first|refine A3 ?_|refine A5 fun _=>?_|refine A4 fun _=>?_);try simp(disch:=first|omega|assumption|((repeat(first|exact A1|exact uH|apply A2|apply uT));first|done|fail)|(simp;first|done|omega|fail))[]))
    refine hfin hs _ fun H => ?_
    (have zz:=trivial;repeat((first|clear zz|with_reducible first|refine A3 ?_|refine A5 fun _=>?_|refine A4 fun _=>?_);try simp(disch:=first|omega|assumption|((repeat(first|exact A1|exact uH|apply A2|apply uT));first|done|fail)|(simp;first|done|omega|fail))[]))
    exact B0 rfl
   | false => (have zz:=trivial;repeat((first|clear zz|with_reducible first|refine A3 ?_|refine A5 fun _=>?_|refine A4 fun _=>?_);try simp(disch:=first|omega|assumption|((repeat(first|exact A1|exact uH|apply A2|apply uT));first|done|fail)|(simp;first|done|omega|fail))[])); exact B0 (by simp [A4y, hs])
end Go.Proofs.YtpbmephflllolaaGreat
namespace Go.Proofs.YtpbmephflllolaaGreat
open Go
theorem H5 (A B : ByteArray) (i : Nat) : B6 (A ++ B) i = if i < A.size then B6 A i else B6 B (i - A.size) := by
 unfold B6
 rw [ByteArray.data_append, Array.getD_eq_getD_getElem?, Array.getD_eq_getD_getElem?, Array.getD_eq_getD_getElem?]
 have hs : A.data.size = A.size := rfl
 by_cases h : i < A.size
 ·rw [if_pos h, Array.getElem?_append_left (by rw [hs]; exact h)]
 ·rw [if_neg h, Array.getElem?_append_right (by rw [hs]; omega), hs]
theorem A10 (A B C : ByteArray) : (A ++ B ++ C).extract A.size (A.size + B.size) = B := by
 apply ByteArray.ext
 rw [ByteArray.data_extract, ByteArray.data_append, ByteArray.data_append]
 have h1 : A.data.size = A.size := rfl
 have h2 : B.data.size = B.size := rfl
 apply Array.ext_getElem?
 intro i
 rw [Array.getElem?_extract]
 by_cases h : i < B.size
 ·rw [if_pos (by simp; omega), Array.getElem?_append_left (by simp; omega), Array.getElem?_append_right (by omega)]
  congr 1; omega
 ·rw [if_neg (by simp; omega), Array.getElem?_eq_none (by omega)]
theorem B3y (A B : ByteArray) : (A ++ B).extract A.size (A.size + B.size) = B := by
 have := A10 A B (ByteArray.mk #[])
 rwa [show A ++ B ++ ByteArray.mk #[] = A ++ B from ByteArray.append_empty] at this
theorem B82 (A B : ByteArray) : (A ++ B).extract 0 A.size = A := by
 have := A10 (ByteArray.mk #[]) A B
 rw [show ByteArray.mk #[] ++ A = A from ByteArray.empty_append, show (ByteArray.mk #[]).size = 0 from rfl, Nat.zero_add] at this
 exact this
theorem B5b (v : Int) : IntKind.u8.wrap v = v % 256 := by simp [IntKind.wrap, IntKind.signed, IntKind.bits]
theorem C6G {x : Int} (h0 : 0 ≤ x) (h1 : x ≤ 255) : B6 (B7 x 1) 0 = x.toNat := by
 obtain ⟨n, rfl⟩ : ∃ n : Nat, x = n := ⟨x.toNat, by omega⟩
 have e : B7 (n : Int) 1 = x3 [m9 n 1 0] := rfl
 have e1 : m9 n 1 0 = ((n % 256 : Nat) : Int) := by
  unfold m9
  rw [B5b, show (2 : Int) ^ min (8 * (((1 : Nat) : Int) - 1 - ((0 : Nat) : Int))).toNat IntKind.u64.bits = 1 from rfl, Int.fdiv_one]; omega
 rw [e, e1]
 show (UInt8.ofNat ((n % 256 : Nat) : Int).toNat).toNat = _
 rw [UInt8.toNat_ofNat']; omega
theorem B57 {x : Int} (h0 : 0 ≤ x) (h1 : x ≤ 65535) : B6 (B7 x 2) 0 = x.toNat / 256 ∧ B6 (B7 x 2) 1 = x.toNat % 256 := by
 obtain ⟨n, rfl⟩ : ∃ n : Nat, x = n := ⟨x.toNat, by omega⟩
 have e : B7 (n : Int) 2 = x3 [m9 n 2 0, m9 n 2 1] := rfl
 have e1 : m9 n 2 1 = ((n % 256 : Nat) : Int) := by
  unfold m9
  rw [B5b, show (2 : Int) ^ min (8 * (((2 : Nat) : Int) - 1 - ((1 : Nat) : Int))).toNat IntKind.u64.bits = 1 from rfl, Int.fdiv_one]; omega
 have e2 : m9 n 2 0 = ((n / 256 % 256 : Nat) : Int) := by
  unfold m9
  rw [B5b, show (2 : Int) ^ min (8 * (((2 : Nat) : Int) - 1 - ((0 : Nat) : Int))).toNat IntKind.u64.bits = 256 from rfl, Int.fdiv_eq_ediv_of_nonneg _ (by omega)]; omega
 rw [e, e1, e2]
 refine ⟨?_, ?_⟩
 ·show (UInt8.ofNat ((n / 256 % 256 : Nat) : Int).toNat).toNat = _
  rw [UInt8.toNat_ofNat']; omega
 ·show (UInt8.ofNat ((n % 256 : Nat) : Int).toNat).toNat = _
  rw [UInt8.toNat_ofNat']; omega
theorem B9r (x : Int) : (B7 x 1).size = 1 := by simp
theorem A1m (x : Int) : (B7 x 2).size = 2 := by simp
theorem be2 (s : ByteArray) (a : Nat) : Q8 s a 2 = B6 s a * 256 + B6 s (a + 1) := by simp [Q8]
def S2 (k : KeyV) (f : Int) : ByteArray := B7 k.fr 2 ++ B7 k.tp 2 ++ (A0p z1 8 ++ ByteArray.mk #[80] ++ B7 f 1 ++ A0p z1 6)
theorem A0e : (A0p z1 8).size = 8 := Y5 8
theorem A0Y : (A0p z1 6).size = 6 := Y5 6
theorem A24 (k : KeyV) (f : Int) : (S2 k f).size = 20 := by
 simp only [S2, ByteArray.size_append, B9r, A1m, A0e, A0Y]; rfl
theorem B8P (k : KeyV) (f : Int) (h1 : K3 k.fr k.tp = true) (h2 : 0 ≤ f ∧ f ≤ 255) : U5 6 (S2 k f) = (k.fr.toNat, k.tp.toNat, f.toNat, 0) := by
 simp only [K3, decide_eq_true_eq] at h1
 obtain ⟨a1, a2⟩ := B57 (x := k.fr) (by omega) (by omega)
 obtain ⟨a3, a4⟩ := B57 (x := k.tp) (by omega) (by omega)
 have a5 := C6G (x := f) h2.1 h2.2
 have hs := A24 k f
 have b0 : B6 (S2 k f) 0 = k.fr.toNat / 256 := by rw [← a1]; simp [S2, H5, A0e, A0Y]
 have b1 : B6 (S2 k f) 1 = k.fr.toNat % 256 := by rw [← a2]; simp [S2, H5, A0e, A0Y]
 have b2 : B6 (S2 k f) 2 = k.tp.toNat / 256 := by rw [← a3]; simp [S2, H5, A0e, A0Y]
 have b3 : B6 (S2 k f) 3 = k.tp.toNat % 256 := by rw [← a4]; simp [S2, H5, A0e, A0Y]
 have b12 : B6 (S2 k f) 12 = 80 := by simp [S2, H5, A0e, A0Y]; rfl
 have b13 : B6 (S2 k f) 13 = f.toNat := by rw [← a5]; simp [S2, H5, A0e, A0Y]
 have hp : r4 6 (S2 k f) = (f.toNat, 0) := by
  simp [r4, A4V, hs, b12, b13]
 simp only [U5, hp, gv, hs, be2, b0, b1, b2, b3]
 simp
 omega
theorem B4N (k : KeyV) (f : Int) (hp : k.proto = 6) (h : (N5 k.proto k.fr k.tp f).2 = 0) : K3 k.fr k.tp = true ∧ (0 ≤ f ∧ f ≤ 255) ∧ (N5 k.proto k.fr k.tp f).1 = S2 k f := by
 rw [hp] at h ⊢
 unfold N5 at *
 simp only [ne_eq, not_true_eq_false, false_and, if_false] at h ⊢
 split at h
 ·cases h
 ·rename_i c
  rw [if_neg c]
  have c2 : (l6 6 f).2 = 0 := Classical.byContradiction fun e => c (Or.inr e)
  have c1 : K3 k.fr k.tp = true := by cases e : K3 k.fr k.tp with | true => rfl | false => exact absurd (Or.inl e) c
  simp only [l6, if_true, A0g] at c2 ⊢
  split at c2
  ·cases c2
  ·rename_i c3
   rw [if_neg c3]
   exact ⟨c1, by omega, rfl⟩
theorem gv1 {s : ByteArray} {a : Nat} (h : a + 1 ≤ s.size) : gv s a 1 = B6 s a := by simp [gv, h, Q8]
theorem gv2 {s : ByteArray} {a : Nat} (h : a + 2 ≤ s.size) : gv s a 2 = B6 s a * 256 + B6 s (a + 1) := by simp [gv, h, be2]
theorem C22 {src dst rest : ByteArray} (hs : src.size = 16) (hd : dst.size = 16) (hr : rest.size = 20) : j0 (A0G src dst rest 6) = ⟨src, dst, 6, rest, 0⟩ ∧ B6 (A0G src dst rest 6) 0 = 96 ∧ (A0G src dst rest 6).size = 60 := by
 obtain ⟨A, hA⟩ : ∃ A, A = B7 1610612736 4 ++ B7 20 2 ++ B7 6 1 ++ B7 64 1 := ⟨_, rfl⟩
 have hsz : A.size = 8 := by rw [hA]; simp
 have hW : A0G src dst rest 6 = A ++ src ++ dst ++ rest := by rw [hA]; unfold A0G; rw [hr]; rfl
 have a0 : B6 A 0 = 96 := by rw [hA]; kernel_rfl
 have a4 : B6 A 4 = 0 := by rw [hA]; kernel_rfl
 have a5 : B6 A 5 = 20 := by rw [hA]; kernel_rfl
 have a6 : B6 A 6 = 6 := by rw [hA]; kernel_rfl
 have hws : (A ++ src ++ dst ++ rest).size = 60 := by simp only [ByteArray.size_append, hsz, hs, hd, hr]
 have hb : ∀ i, i < 8 → B6 (A ++ src ++ dst ++ rest) i = B6 A i := fun i hi => by
  rw [H5, if_pos (by simp only [ByteArray.size_append]; omega), H5, if_pos (by simp only [ByteArray.size_append]; omega), H5, if_pos (by omega)]
 rw [hW]
 have g0 : gv (A ++ src ++ dst ++ rest) 0 1 = 96 := by rw [gv1 (by omega), hb 0 (by omega), a0]
 have g4 : gv (A ++ src ++ dst ++ rest) 4 2 = 20 := by rw [gv2 (by omega), hb 4 (by omega), hb 5 (by omega), a4, a5]
 have g6 : gv (A ++ src ++ dst ++ rest) 6 1 = 6 := by rw [gv1 (by omega), hb 6 (by omega), a6]
 have he : A5w (A ++ src ++ dst ++ rest) = 0 := by simp [A5w, hws, g0, g4]
 have e1 : (A ++ src ++ dst ++ rest).extract 8 24 = src := by
  have := A10 A src (dst ++ rest)
  rw [hsz, hs] at this
  rw [show A ++ src ++ dst ++ rest = A ++ src ++ (dst ++ rest) from ByteArray.append_assoc]; exact this
 have e2 : (A ++ src ++ dst ++ rest).extract 24 40 = dst := by
  have := A10 (A ++ src) dst rest
  rw [ByteArray.size_append, hsz, hs, hd] at this; exact this
 have e3 : (A ++ src ++ dst ++ rest).extract 40 60 = rest := by
  have := B3y (A ++ src ++ dst) rest
  rw [ByteArray.size_append, ByteArray.size_append, hsz, hs, hd, hr] at this; exact this
 refine ⟨?_, by rw [hb 0 (by omega), a0], hws⟩
 simp only [j0, he, if_true, g4, g6, e1, e2, e3]
theorem B4m (s : ByteArray) : q6 s 10 = Q8 s 0 2 + Q8 s 2 2 + Q8 s 4 2 + Q8 s 6 2 + Q8 s 8 2 + Q8 s 10 2 + Q8 s 12 2 + Q8 s 14 2 + Q8 s 16 2 + Q8 s 18 2 := by
 simp only [q6, Nat.zero_add]
theorem C3N {src dst rest : ByteArray} (hs : src.size = 4) (hd : dst.size = 4) (hr : rest.size = 20) {s : ByteArray} (hS : s = u3 src dst 6 rest.size (A3Q (u3 src dst 6 rest.size 0)) ++ rest) : l4 s = ⟨src, dst, 6, rest, 0⟩ ∧ B6 s 0 = 69 ∧ s.size = 40 := by
 obtain ⟨A, hA⟩ : ∃ A, A = ByteArray.mk #[69, 0] ++ B7 40 2 ++ ByteArray.mk #[0, 0, 64, 0, 64] ++ B7 6 1 := ⟨_, rfl⟩
 have hsz : A.size = 10 := by rw [hA]; simp only [ByteArray.size_append, B9r, A1m]; rfl
 obtain ⟨T, hT⟩ : ∃ T, T = src ++ dst := ⟨_, rfl⟩
 have hTs : T.size = 8 := by rw [hT, ByteArray.size_append, hs, hd]
 have hW : ∀ own, u3 src dst 6 rest.size own = A ++ B7 own 2 ++ T := fun own => by
  rw [hT, show A ++ B7 own 2 ++ (src ++ dst) = A ++ B7 own 2 ++ src ++ dst from ByteArray.append_assoc.symm, hA]; unfold u3; rw [hr]; rfl
 have bA : ∀ own i, i < 10 → B6 (A ++ B7 own 2 ++ T) i = B6 A i := fun own i hi => by
  rw [H5, if_pos (by rw [ByteArray.size_append, A1m]; omega), H5, if_pos (by omega)]
 have bT : ∀ own i, 12 ≤ i → B6 (A ++ B7 own 2 ++ T) i = B6 T (i - 12) := fun own i hi => by
  rw [H5, if_neg (by rw [ByteArray.size_append, A1m]; omega), ByteArray.size_append, A1m, hsz]
 have bO : ∀ own j, j < 2 → B6 (A ++ B7 own 2 ++ T) (10 + j) = B6 (B7 own 2) j := fun own j hj => by
  rw [H5, if_pos (by rw [ByteArray.size_append, A1m]; omega), H5, if_neg (by omega), hsz, Nat.add_sub_cancel_left]
 have a0 : B6 A 0 = 69 := by rw [hA]; kernel_rfl
 have a2 : B6 A 2 = 0 := by rw [hA]; kernel_rfl
 have a3 : B6 A 3 = 40 := by rw [hA]; kernel_rfl
 have a6 : B6 A 6 = 64 := by rw [hA]; kernel_rfl
 have a7 : B6 A 7 = 0 := by rw [hA]; kernel_rfl
 have a9 : B6 A 9 = 6 := by rw [hA]; kernel_rfl
 have sz20 : ∀ own, (A ++ B7 own 2 ++ T).size = 20 := fun own => by rw [ByteArray.size_append, ByteArray.size_append, A1m, hsz, hTs]
 have sumO : ∀ own : Int, 0 ≤ own → own ≤ 65535 → q6 (A ++ B7 own 2 ++ T) 10 = q6 (A ++ B7 0 2 ++ T) 10 + own.toNat := fun own h0 h1 => by
  obtain ⟨c1, c2⟩ := B57 h0 h1
  obtain ⟨c3, c4⟩ := B57 (x := 0) (by omega) (by omega)
  have o0 := bO own 0 (by omega)
  have o1 := bO own 1 (by omega)
  have z0 := bO 0 0 (by omega)
  have z1' := bO 0 1 (by omega)
  simp only [Nat.add_zero] at o0 z0
  rw [B4m, B4m]
  simp only [be2]
  rw [show 10 + 1 = 11 from rfl] at *
  simp only [bA own 0 (by omega), bA own 1 (by omega), bA own 2 (by omega), bA own 3 (by omega), bA own 4 (by omega), bA own 5 (by omega), bA own 6 (by omega), bA own 7 (by omega), bA own 8 (by omega), bA own 9 (by omega), Nat.zero_add, Nat.reduceAdd,
   bA 0 0 (by omega), bA 0 1 (by omega), bA 0 2 (by omega), bA 0 3 (by omega), bA 0 4 (by omega), bA 0 5 (by omega), bA 0 6 (by omega), bA 0 7 (by omega), bA 0 8 (by omega), bA 0 9 (by omega), o0, o1, z0, z1', c1, c2, c3, c4,
   bT own 12 (by omega), bT own 13 (by omega), bT own 14 (by omega), bT own 15 (by omega), bT own 16 (by omega), bT own 17 (by omega), bT own 18 (by omega), bT own 19 (by omega),
   bT 0 12 (by omega), bT 0 13 (by omega), bT 0 14 (by omega), bT 0 15 (by omega), bT 0 16 (by omega), bT 0 17 (by omega), bT 0 18 (by omega), bT 0 19 (by omega), Int.toNat_zero]
  omega
 have hpos : 0 < q6 (A ++ B7 0 2 ++ T) 10 := by
  rw [B4m, be2 _ 0, bA 0 0 (by omega), a0]; omega
 have hn : ∀ own, Q5 (A ++ B7 own 2 ++ T) = 10 := fun own => by rw [Q5, sz20]
 obtain ⟨own, hown⟩ : ∃ own, own = A3Q (A ++ B7 0 2 ++ T) := ⟨_, rfl⟩
 have hol := B4H (A ++ B7 0 2 ++ T)
 rw [← hown] at hol
 have hgood : f9 (A ++ B7 own 2 ++ T) = 65535 := by
  have h1 : own = 65535 - (fld (q6 (A ++ B7 0 2 ++ T) 10) : Nat) := by rw [hown, A3Q, f9, hn]
  rw [f9, hn, sumO own hol.1 hol.2]
  generalize q6 (A ++ B7 0 2 ++ T) 10 = n at *
  unfold fld at *
  rw [if_neg (by omega)] at h1 ⊢
  omega
 have hs' : s = A ++ B7 own 2 ++ T ++ rest := by rw [hS, hW, hW, ← hown]
 clear hS
 subst hs'
 have hws : (A ++ B7 own 2 ++ T ++ rest).size = 40 := by rw [ByteArray.size_append, sz20, hr]
 have hb : ∀ i, i < 10 → B6 (A ++ B7 own 2 ++ T ++ rest) i = B6 A i := fun i hi => by
  rw [H5, if_pos (by rw [sz20]; omega), bA own i hi]
 have g0 : gv (A ++ B7 own 2 ++ T ++ rest) 0 1 = 69 := by rw [gv1 (by omega), hb 0 (by omega), a0]
 have g2 : gv (A ++ B7 own 2 ++ T ++ rest) 2 2 = 40 := by rw [gv2 (by omega), hb 2 (by omega), hb 3 (by omega), a2, a3]
 have g6 : gv (A ++ B7 own 2 ++ T ++ rest) 6 2 = 16384 := by rw [gv2 (by omega), hb 6 (by omega), hb 7 (by omega), a6, a7]
 have g9 : gv (A ++ B7 own 2 ++ T ++ rest) 9 1 = 6 := by rw [gv1 (by omega), hb 9 (by omega), a9]
 have hl : H8 (A ++ B7 own 2 ++ T ++ rest) = 20 := by rw [H8, g0]
 have ex : (A ++ B7 own 2 ++ T ++ rest).extract 0 20 = A ++ B7 own 2 ++ T := by
  have := B82 (A ++ B7 own 2 ++ T) rest
  rw [sz20] at this; exact this
 have he : A4s (A ++ B7 own 2 ++ T ++ rest) = 0 := by simp [A4s, hws, g0, g2, g6, hl, ex, hgood]
 have e1 : (A ++ B7 own 2 ++ T ++ rest).extract 12 16 = src := by
  have := A10 (A ++ B7 own 2) src (dst ++ rest)
  rw [ByteArray.size_append, A1m, hsz, hs] at this
  rw [hT, show A ++ B7 own 2 ++ (src ++ dst) ++ rest = A ++ B7 own 2 ++ src ++ (dst ++ rest) by simp only [ByteArray.append_assoc]]; exact this
 have e2 : (A ++ B7 own 2 ++ T ++ rest).extract 16 20 = dst := by
  have := A10 (A ++ B7 own 2 ++ src) dst rest
  rw [ByteArray.size_append, ByteArray.size_append, A1m, hsz, hs, hd] at this
  rw [hT, show A ++ B7 own 2 ++ (src ++ dst) ++ rest = A ++ B7 own 2 ++ src ++ dst ++ rest by simp only [ByteArray.append_assoc]]; exact this
 have e3 : (A ++ B7 own 2 ++ T ++ rest).extract 20 40 = rest := by
  have := B3y (A ++ B7 own 2 ++ T) rest
  rw [sz20, hr] at this; exact this
 refine ⟨?_, by rw [hb 0 (by omega), a0], hws⟩
 simp only [l4, he, if_true, g9, hl, g2, e1, e2, e3]
theorem B0q (k : KeyV) (f : Int) (hp : k.proto = 6) (h : (D7 k f).2 = 0) : F1 (D7 k f).1 = (k, f.toNat, 0) ∧ 0 ≤ f ∧ f ≤ 255 := by
 unfold D7 at h ⊢
 split at h
 ·cases h
 rename_i hv
 rw [if_neg hv]
 simp only at h ⊢
 split at h
 ·rename_i c; exact absurd h c
 rename_i c
 rw [if_neg c]
 have c0 : (N5 k.proto k.fr k.tp f).2 = 0 := Classical.byContradiction c
 obtain ⟨t1, t2, t3⟩ := B4N k f hp c0
 have hr := A24 k f
 have htr := B8P k f t1 t2
 simp only [K3, decide_eq_true_eq] at t1
 rw [t3, hp] at h ⊢
 refine ⟨?_, t2⟩
 have S7 : (⟨k.v, k.src, k.dst, ((k.fr.toNat : Nat) : Int), ((k.tp.toNat : Nat) : Int), 6⟩ : KeyV) = k := by
  obtain ⟨v, s, d, fr, tp, pr⟩ := k
  simp only at hp t1 ⊢
  subst hp
  congr 1 <;> omega
 by_cases h6 : k.v = 6
 ·rw [if_pos h6] at h ⊢
  unfold A1T at h ⊢
  split at h
  ·cases h
  rename_i d1
  rw [if_neg d1]
  split at h
  ·cases h
  rename_i d2
  rw [if_neg d2]
  obtain ⟨r1, r2, r3⟩ := C22 (src := k.src) (dst := k.dst) (rest := S2 k f) (by omega) (by omega) hr
  have hk : V9 (A0G k.src k.dst (S2 k f) 6) = (⟨6, k.src, k.dst, 0, 0, 6⟩, S2 k f, 0) := by
   unfold V9
   rw [r2, r3, r1]
   rfl
  simp only [F1, hk, htr]
  rw [h6] at S7
  simp only [ne_eq, not_true_eq_false, if_false]
  exact Prod.ext S7 rfl
 ·rw [if_neg h6] at h ⊢
  have h4 : k.v = 4 := by omega
  unfold A1Z at h ⊢
  split at h
  ·cases h
  rename_i d1
  rw [if_neg d1]
  split at h
  ·cases h
  rename_i d2
  rw [if_neg d2]
  obtain ⟨r1, r2, r3⟩ := C3N (src := k.src) (dst := k.dst) (rest := S2 k f) (by omega) (by omega) hr (s := _) rfl
  generalize u3 k.src k.dst 6 (S2 k f).size (A3Q (u3 k.src k.dst 6 (S2 k f).size 0)) ++ S2 k f = s at *
  have hk : V9 s = (⟨4, k.src, k.dst, 0, 0, 6⟩, S2 k f, 0) := by
   unfold V9
   rw [r2, r3, r1]
   rfl
  simp only [F1, hk, htr]
  rw [h4] at S7
  simp only [ne_eq, not_true_eq_false, if_false]
  exact Prod.ext S7 rfl
end Go.Proofs.YtpbmephflllolaaGreat
namespace Go.Proofs.YtpbmephflllolaaGreat
open Go
theorem B94 {l : List EnV} {n : Nat} (h : TabOk n l) (key : ByteArray) : L6 l 1 ≤ L6 (T1 l key) 1 + 1 := by
 unfold T1
 cases hd : V7 l key with
 | none => simp
 | some u =>
  simp only
  unfold V7 at hd
  split at hd
  ·cases hd
  rename_i c
  cases hd
  have hj : (D6 l key).toNat < l.length := u5 (by omega)
  have ht := h.tomb hj
  have h1 := (ht.perm).length_eq
  have h2 := (r5 (x := Q4) (List.getElem?_eq_getElem hj)).length_eq
  rw [A4E, A4E, h1]
  have h3 : (A2L l[(D6 l key).toNat]).length ≤ 1 := by unfold A2L; split <;> simp
  simp only [List.length_append] at h2
  omega
theorem B4j {tabs : List (List EnV × Nat)} {i : Nat} {t u : List EnV × Nat} (h : tabs[i]? = some t) (hc : L6 t.1 1 ≤ L6 u.1 1 + 1) : A3E tabs ≤ A3E (tabs.set i u) + 1 := by
 unfold A3E
 induction tabs generalizing i with
 | nil => cases h
 | cons x tabs ih =>
  cases i with
  | zero => cases h; simp; omega
  | succ i =>
   have := ih (i := i) h
   simp at this ⊢; omega
theorem B6e {tabs : List (List EnV × Nat)} {key : ByteArray} : key ∈ H4 tabs ↔ ∃ (i : Nat) (t : List EnV × Nat), tabs[i]? = some t ∧ ∃ x ∈ C0 t.1, x.key = key := by
 unfold H4
 rw [List.mem_flatMap]
 constructor
 ·rintro ⟨t, ht, hk⟩
  obtain ⟨i, hi⟩ := List.mem_iff_getElem?.1 ht
  rw [← B1z, A6n, List.mem_map] at hk
  exact ⟨i, t, hi, hk⟩
 ·rintro ⟨i, t, hi, hk⟩
  refine ⟨t, List.mem_of_getElem? hi, ?_⟩
  rw [← B1z, A6n, List.mem_map]
  exact hk
theorem B5J {c : CfgV} {s : MoS} {k : KeyV} {f : Int} (hi : Inv c s) (hp : k.proto = 6) (hput : (D7 k f).2 = 0) (hc : H6 k f = true) (now : Int) :
  ((K7 s (D7 k f).1 now).2 = ⟨11, 0, false, 0⟩ ∧ s.pool = [] ∧ (K7 s (D7 k f).1 now).1 = s) ∨
  (∃ bk, (K7 s (D7 k f).1 now).2 = ⟨0, bk, false, 0⟩ ∧ N3 k ∉ H4 (K7 s (D7 k f).1 now).1.tabs ∧ A3E s.tabs ≤ A3E (K7 s (D7 k f).1 now).1.tabs + 1 ∧
   ∀ g, (D7 k g).2 = 0 → H6 k g = false → (K7 (K7 s (D7 k f).1 now).1 (D7 k g).1 now).2.err = 12 ∨ (K7 (K7 s (D7 k f).1 now).1 (D7 k g).1 now).2.made = true) := by
 obtain ⟨hr, hf0, hf1⟩ := B0q k f hp hput
 have hcf : H6 k (f.toNat : Nat) = true := by rw [show ((f.toNat : Nat) : Int) = f by omega]; exact hc
 have hb := m0 hi.ok
 have hsl := hi.sh
 have hcfg := hi.cfg
 obtain ⟨i, hidef⟩ : ∃ i, i = N9 (N3 k) s.c.sh := ⟨_, rfl⟩
 have hlt : i < s.tabs.length := by
  rw [hidef]; unfold N9; rw [if_neg (by rw [hcfg]; omega)]
  have : s.c.sh.toNat = s.tabs.length := by rw [hcfg]; omega
  rw [this]; exact Nat.mod_lt _ (by omega)
 have hx := List.getElem?_eq_getElem hlt
 have hgd : s.tabs.getD i ([], 0) = s.tabs[i] := by simp [List.getD_eq_getElem?_getD, hx]
 have hok := hi.tab _ (List.getElem_mem hlt)
 obtain ⟨t, htd⟩ : ∃ t, t = s.tabs[i] := ⟨_, rfl⟩
 rw [← htd] at hx hgd hok
 have e : ∀ (g : Int) (cl : Bool) (s1 : MoS) (t1 : List EnV × Nat), F1 (D7 k g).1 = (k, g.toNat, 0) → H6 k (g.toNat : Nat) = cl → s1.c = s.c → s1.tabs.getD i ([], 0) = t1 → K7 s1 (D7 k g).1 now = ({ s1 with tabs := s1.tabs.set i ((E9 t1.1 s1.pool (N3 k) cl now s1.c.idle).1, t1.2) }, (E9 t1.1 s1.pool (N3 k) cl now s1.c.idle).2.1) := by
  intro g cl s1 t1 h1 h2 h3 h4
  unfold K7
  rw [h1]
  simp only [ne_eq, not_true_eq_false, if_false, h2, h3, ← hidef, h4]
 have e0 := e f true s t hr hcf rfl hgd
 rcases A52 t.1 s.pool (N3 k) true now s.c.idle with ⟨_, hp0, hd⟩ | ⟨hne, _, hd⟩ | ⟨_, h, _⟩ | ⟨_, h, _⟩
 ·left
  rw [e0, hd]
  refine ⟨rfl, hp0, ?_⟩
  obtain ⟨sc, sp, st⟩ := s
  simp only at hx ⊢
  congr 1
  obtain ⟨h1, h2⟩ := List.getElem?_eq_some_iff.1 hx
  rw [← h2]; exact List.set_getElem_self h1
 ·right
  have hnk := B4c (key := N3 k) hok.right
  rw [e0, hd]
  refine ⟨_, rfl, ?_, B4j hx (B94 hok _), ?_⟩
  ·intro hm
   obtain ⟨j, u, hj, x, hxu, hxk⟩ := B6e.1 hm
   simp only at hj
   by_cases hij : i = j
   ·subst hij
    rw [List.getElem?_set_self hlt] at hj
    cases hj
    exact A5L.1 hnk x hxu hxk
   ·rw [List.getElem?_set_ne hij] at hj
    have := hi.own j u hj x hxu
    rw [hxk, ← hcfg, ← hidef] at this
    exact hij this
  ·intro g hg hcg
   obtain ⟨hr2, g0, g1⟩ := B0q k g hp hg
   have hcg' : H6 k (g.toNat : Nat) = false := by rw [show ((g.toNat : Nat) : Int) = g by omega]; exact hcg
   show (K7 { s with tabs := s.tabs.set i (T1 t.1 (N3 k), t.2) } (D7 k g).1 now).2.err = 12 ∨ (K7 { s with tabs := s.tabs.set i (T1 t.1 (N3 k), t.2) } (D7 k g).1 now).2.made = true
   rw [e g false { s with tabs := s.tabs.set i (T1 t.1 (N3 k), t.2) } (T1 t.1 (N3 k), t.2) hr2 hcg' rfl (by simp [List.getD_eq_getElem?_getD, hlt])]
   have hkn : (G6 (T1 t.1 (N3 k)) s.pool (N3 k) now).2 = false := by
    unfold G6; rw [if_pos (Or.inl hnk.find)]
   have hpn : s.pool ≠ [] := fun e => by
    apply hne
    refine ⟨?_, e⟩
    cases hkt : (G6 t.1 s.pool (N3 k) now).2 with
    | false => rfl
    | true =>
     have := (B55 hkt).2.2.1
     rw [e] at this
     exact absurd this (by simp [A1s, A3c])
   simp only
   rcases A52 (T1 t.1 (N3 k)) s.pool (N3 k) false now s.c.idle with ⟨_, hp0, _⟩ | ⟨_, h, _⟩ | ⟨_, _, _, hd2⟩ | ⟨_, _, u, _, hd2⟩
   ·exact absurd hp0 hpn
   ·cases h
   ·left; rw [hd2]
   ·right; rw [hd2, hkn]; rfl
 ·cases h
 ·cases h
theorem A5J (k : KeyV) (f : Int) : (D7 k f).1.size < 2 ^ 40 := by
 have h := A89 k.proto k.fr k.tp f
 unfold D7
 split
 ·simp
 simp only
 split
 ·simp
 split
 ·unfold A1T
  split
  ·simp
  split
  ·simp
  ·simp [A0G]; omega
 ·unfold A1Z
  split
  ·simp
  split
  ·simp
  ·rw [ByteArray.size_append, A5n (by omega) (by omega)]; omega
theorem B6z (k : KeyV) (g : Int) (hp : k.proto = 6) (h1 : K3 k.fr k.tp = true) (h2 : 0 ≤ g ∧ g ≤ 255) : N5 k.proto k.fr k.tp g = (S2 k g, 0) := by
 have hg : ¬ (g < 0 ∨ 255 < g) := by omega
 have ht : l6 6 g = (A0p z1 8 ++ ByteArray.mk #[80] ++ B7 g 1 ++ A0p z1 6, 0) := by
  unfold l6 A0g; rw [if_pos rfl, if_neg hg]
 rw [hp]
 unfold N5
 rw [if_neg (by simp), ht, if_neg (by simp [h1])]
 rfl
theorem B6N {k : KeyV} {f g : Int} (hp : k.proto = 6) (h : (D7 k f).2 = 0) (hg : 0 ≤ g ∧ g ≤ 255) : (D7 k g).2 = 0 := by
 have hv : ¬ (k.v ≠ 4 ∧ k.v ≠ 6) := fun c => by unfold D7 at h; rw [if_pos c] at h; cases h
 have c0 : (N5 k.proto k.fr k.tp f).2 = 0 := Classical.byContradiction fun c => by
  unfold D7 at h; rw [if_neg hv] at h; simp only at h; rw [if_pos c] at h; exact c h
 obtain ⟨t1, t2, t3⟩ := B4N k f hp c0
 have tf := B6z k f hp t1 t2
 have tg := B6z k g hp t1 hg
 have s1 := A24 k f
 have s2 := A24 k g
 unfold D7 at h ⊢
 rw [if_neg hv] at h ⊢
 simp only [tf] at h
 simp only [tg]
 simp only [ne_eq, not_true_eq_false, if_false] at h ⊢
 unfold A1T A1Z at *
 by_cases h6 : k.v = 6
 ·rw [if_pos h6] at h ⊢
  rw [s1] at h
  rw [s2]
  split at h
  ·cases h
  ·rename_i d; rw [if_neg d, if_neg (by omega)]
 ·rw [if_neg h6] at h ⊢
  rw [s1] at h
  rw [s2]
  split at h
  ·cases h
  ·rename_i d; rw [if_neg d, if_neg (by omega)]
theorem B40 (k : KeyV) : H6 k 16 = false := by
 have : IntKind.i64.wrap ((((16 : Int) % 2 ^ IntKind.i64.bits).toNat &&& 5 % 2 ^ IntKind.i64.bits : Nat) : Int) = 0 := by kernel_rfl
 unfold H6
 rw [this]; simp
theorem B3S {k : KeyV} {f : Int} (h : H6 k f = true) : k.proto = 6 := by
 unfold H6 at h
 rw [Bool.and_eq_true] at h
 simpa using h.1
end Go.Proofs.YtpbmephflllolaaGreat
namespace Go.Proofs.YtpbmephflllolaaGreat
open Go
end Go.Proofs.YtpbmephflllolaaGreat
namespace Go.Proofs.YtpbmephflllolaaGreat
open Go
theorem Inv.liveK_le {c : CfgV} {s : MoS} (hi : Inv c s) : (H4 s.tabs).length ≤ 1000000 := by
 have hb := m0 hi.ok
 have hsh := hi.sh
 have := Go.Proofs.YtpbmephflllolaaGreat.liveK_le (tabs := s.tabs) fun t ht => by have h := hi.tab t ht; have h1 := h.len; have h2 := h.few; omega
 omega
end Go.Proofs.YtpbmephflllolaaGreat
namespace Go.Proofs.YtpbmephflllolaaGreat
open Go
def W2 (X : Nat → Prop) (t0 t1 t2 t3 : Value) (R : Value → WP) : WP :=
 B1 PR X (Instr.box 23 t0) fun t4 =>
 B1 PR X (Instr.box 58 t2) fun t6 =>
 B2 PR X 8 [] fun t25 =>
 jn (n := 1) (fun t8 =>
 jn (n := 1) (fun t8_1 =>
 A6 PR (Instr.loadAt 58 t6) fun t47 =>
 B1 PR X (Instr.alloc 58 true (.tuple #[])) fun t10 =>
 C3 PR X (Instr.storeAt 58 t10 t47) <|
 A0 PR (Instr.fieldAt 58 t6 1) fun t48 =>
 A6 PR (Instr.loadAt 3 t48) fun t49 =>
 A0 PR (binOp .or 3 t49 (.int .i64 1)) fun t50 =>
 A0 PR (Instr.fieldAt 58 t10 1) fun t51 =>
 C3 PR X (Instr.storeAt 3 t51 t50) <|
 A6 PR (Instr.loadAt 58 t10) fun t53 =>
 B2 PR X 21 [t53] fun t54 =>
 A0 PR (Instr.extract t54 0) fun t55 =>
 A0 PR (Instr.extract t54 1) fun t56 =>
 A6 PR (Instr.loadAt 23 t4) fun t58 =>
 B2 PR X 10 [t58] fun t59 =>
 A0 PR (Instr.extract t59 0) fun t60 =>
 A0 PR (Instr.extract t59 1) fun t61 =>
 jn (n := 1) (fun t8_2 =>
 jn (n := 1) (fun t15 =>
 A0 PR (Instr.fieldAt 58 t6 0) fun t97 =>
 A6 PR (Instr.loadAt 56 t97) fun t98 =>
 B2 PR X 23 [t98] fun t99 =>
 A0 PR (Instr.extract t99 0) fun t100 =>
 A0 PR (Instr.extract t99 1) fun t101 =>
 B2 PR X 16 [t60] fun t103 =>
 A0 PR (A8 .len #[48] 0 [t103]) fun t104 =>
 B2 PR X 24 [t60, t55, t3] fun t108 =>
 B1 PR X (Instr.alloc 39 true (.tuple #[])) fun t19 =>
 C3 PR X (Instr.storeAt 39 t19 t108) <|
 B2 PR X 16 [t60] fun t110 =>
 jn (n := 1) (fun t8_3 =>
 jn (n := 2) (fun t8_4 t21 =>
 A0 PR (Instr.fieldAt 58 t10 1) fun t144 =>
 C3 PR X (Instr.storeAt 3 t144 (.int .i64 16)) <|
 A6 PR (Instr.loadAt 58 t10) fun t146 =>
 B2 PR X 21 [t146] fun t147 =>
 A0 PR (Instr.extract t147 0) fun t148 =>
 A0 PR (Instr.extract t147 1) fun t149 =>
 B2 PR X 24 [t60, t148, t3] fun t153 =>
 B1 PR X (Instr.alloc 39 true (.tuple #[])) fun t24 =>
 C3 PR X (Instr.storeAt 39 t24 t153) <|
 gj t25 true (fun J => A0 PR (Instr.fieldAt 39 t19 2) J) fun t156 =>
 gj t25 true (fun J => A6 PR (Instr.loadAt 4 t156) J) fun t157 =>
 gj t25 true (fun J => A0 PR (Op.unary .not t157) J) fun t158 =>
 A0 PR (do pure (if ← asBool t25 then t158 else (.bool false))) fun t159 =>
 gj t159 true (fun J => J t104) fun t161 =>
 gj t159 true (fun J => J t110) fun t162 =>
 gj t159 true (fun J => A0 PR (A8 .len #[48] 0 [t162]) J) fun t163 =>
 gj t159 true (fun J => A0 PR (binOp .sub 3 t161 t163) J) fun t164 =>
 gj t159 true (fun J => A0 PR (binOp .leq 3 t164 (.int .i64 1)) J) fun t165 =>
 A0 PR (do pure (if ← asBool t159 then t165 else (.bool false))) fun t166 =>
 gj t166 true (fun J => A0 PR (Instr.fieldAt 39 t24 0) J) fun t168 =>
 gj t166 true (fun J => A6 PR (Instr.loadAt 28 t168) J) fun t169 =>
 gj t166 true (fun J => A0 PR (binOp .eql 28 t169 (.int .i64 12)) J) fun t170 =>
 gj t166 true (fun J => J t170) fun t171 =>
 gj t171 false (fun J => A0 PR (Instr.fieldAt 39 t24 2) J) fun t172 =>
 gj t171 false (fun J => A6 PR (Instr.loadAt 4 t172) J) fun t173 =>
 gj t166 true (fun J => A0 PR (do pure (if ← asBool t171 then (.bool true) else t173)) J) fun t174 =>
 A0 PR (do pure (if ← asBool t166 then t174 else (.bool false))) fun t175 =>
 R t175) fun J1 =>
 lp (n := 2) (fun L2 t8_5 t21_1 =>
 jn (n := 0) (
 jn (n := 1) (fun t8_6 =>
 A0 PR (binOp .add 3 t21_1 (.int .i64 1)) fun t137 =>
 L2 t8_6 t137) fun J3 =>
 A0 PR (Instr.indexAt 48 t110 t21_1) fun t140 =>
 A6 PR (Instr.loadAt 9 t140) fun t141 =>
 A0 PR (binOp .eql 9 t141 t100) fun t143 =>
 C5 t143 (
 R (.bool false)) (
 J3 t8_5)) fun J4 =>
 A0 PR (A8 .len #[48] 0 [t110]) fun t134 =>
 A0 PR (binOp .lss 3 t21_1 t134) fun t135 =>
 C5 t135 (
 J4) (
 J1 t8_5 t21_1)) t8_3 (.int .i64 0)) fun J5 =>
 A0 PR (Instr.fieldAt 39 t19 0) fun t111 =>
 A6 PR (Instr.loadAt 28 t111) fun t112 =>
 A0 PR (binOp .neq 28 t112 (.int .i64 0)) fun t113 =>
 C5 t113 (
 gj t25 true (fun J => A6 PR (Instr.loadAt 39 t19) J) fun t116 =>
 gj t25 true (fun J => A0 PR (Instr.build 39 #[(0, (.int .i64 11))]) J) fun t117 =>
 gj t25 true (fun J => A6 PR (N4 .eql 39 (.tmp 116) (.tmp 117) t116 t117) J) fun t118 =>
 A0 PR (do pure (if ← asBool t25 then t118 else (.bool false))) fun t119 =>
 gj t119 true (fun J => J t60) fun t121 =>
 gj t119 true (fun J => B2 PR X 19 [t121] J) fun t122 =>
 gj t119 true (fun J => A0 PR (A8 .len #[32] 0 [t122]) J) fun t123 =>
 gj t119 true (fun J => A0 PR (binOp .eql 3 t123 (.int .i64 0)) J) fun t124 =>
 A0 PR (do pure (if ← asBool t119 then t124 else (.bool false))) fun t125 =>
 gj t125 true (fun J => J t110) fun t127 =>
 gj t125 true (fun J => A0 PR (A8 .len #[48] 0 [t127]) J) fun t128 =>
 gj t125 true (fun J => J t104) fun t129 =>
 gj t125 true (fun J => A0 PR (binOp .eql 3 t128 t129) J) fun t130 =>
 A0 PR (do pure (if ← asBool t125 then t130 else (.bool false))) fun t131 =>
 R t131) (
 J5 t8_2)) fun J6 =>
 lp (n := 1) (fun L7 t15_1 =>
 jn (n := 0) (
 jn (n := 0) (
 A0 PR (binOp .add 3 t15_1 (.int .i64 1)) fun t83 =>
 L7 t83) fun J8 =>
 drw <|
 A0 PR (Instr.indexAt 24 t1 t15_1) fun t87 =>
 A0 PR (Instr.fieldAt 44 t87 0) fun t88 =>
 A6 PR (Instr.loadAt 42 t88) fun t89 =>
 A0 PR (Instr.indexAt 24 t1 t15_1) fun t92 =>
 A0 PR (Instr.fieldAt 44 t92 1) fun t93 =>
 A6 PR (Instr.loadAt 3 t93) fun t94 =>
 B2 PR X 13 [t60, t89, t94] fun t95 =>
 J8) fun J9 =>
 A0 PR (A8 .len #[24] 0 [t1]) fun t80 =>
 A0 PR (binOp .lss 3 t15_1 t80) fun t81 =>
 C5 t81 (
 J9) (
 J6 t15_1)) (.int .i64 0)) fun J10 =>
 A0 PR (binOp .neq 28 t56 (.int .i64 0)) fun t63 =>
 gj t63 false (fun J => J t61) fun t65 =>
 gj t63 false (fun J => A0 PR (binOp .neq 28 t65 (.int .i64 0)) J) fun t66 =>
 A0 PR (do pure (if ← asBool t63 then (.bool true) else t66)) fun t67 =>
 gj t67 false (fun J => J t60) fun t69 =>
 gj t67 false (fun J => A6 PR (N4 .eql 27 (.tmp 69) (.const (.pointer none)) t69 (.pointer none)) J) fun t70 =>
 A0 PR (do pure (if ← asBool t67 then (.bool true) else t70)) fun t71 =>
 gj t71 false (fun J => A6 PR (Instr.loadAt 58 t10) J) fun t73 =>
 gj t71 false (fun J => B2 PR X 22 [t73] J) fun t74 =>
 gj t71 false (fun J => A0 PR (Op.unary .not t74) J) fun t75 =>
 A0 PR (do pure (if ← asBool t71 then (.bool true) else t75)) fun t76 =>
 C5 t76 (
 R t25) (
 J10 t8_1)) fun J11 =>
 A6 PR (Instr.loadAt 23 t4) fun t28 =>
 B2 PR X 9 [t28, t1] fun t30 =>
 A0 PR (Op.unary .not t30) fun t31 =>
 gj t31 false (fun J => A0 PR (Instr.fieldAt 58 t6 0) J) fun t33 =>
 gj t31 false (fun J => A0 PR (Instr.fieldAt 56 t33 1) J) fun t34 =>
 gj t31 false (fun J => A6 PR (Instr.loadAt 9 t34) J) fun t35 =>
 gj t31 false (fun J => A0 PR (A8 .len #[9] 0 [t35]) J) fun t36 =>
 gj t31 false (fun J => A0 PR (binOp .gtr 3 t36 (.int .i64 16)) J) fun t37 =>
 A0 PR (do pure (if ← asBool t31 then (.bool true) else t37)) fun t38 =>
 gj t38 false (fun J => A0 PR (Instr.fieldAt 58 t6 0) J) fun t40 =>
 gj t38 false (fun J => A0 PR (Instr.fieldAt 56 t40 2) J) fun t41 =>
 gj t38 false (fun J => A6 PR (Instr.loadAt 9 t41) J) fun t42 =>
 gj t38 false (fun J => A0 PR (A8 .len #[9] 0 [t42]) J) fun t43 =>
 gj t38 false (fun J => A0 PR (binOp .gtr 3 t43 (.int .i64 16)) J) fun t44 =>
 A0 PR (do pure (if ← asBool t38 then (.bool true) else t44)) fun t45 =>
 C5 t45 (
 R t25) (
 J11 t8)) fun J12 =>
 A0 PR (Op.unary .not t25) fun t27 =>
 C5 t27 (
 R (.bool false)) (
 J12 (.bool false))
theorem x5 {X : Nat → Prop} {t0 t1 t2 t3 : Value} {R : Value → WP} {w : World} (h : W2 X t0 t1 t2 t3 R w) : Fn PR X 5 #[t0, t1, t2, t3] w R := D5 (args := [t0, t1, t2, t3]) mixed Tryz.func5 (by kernel_rfl) h
end Go.Proofs.YtpbmephflllolaaGreat
namespace Go.Proofs.YtpbmephflllolaaGreat
open Go
set_option maxHeartbeats 1000000 in
set_option maxRecDepth 20000 in
theorem A7p (w : World) (c : CfgV) (lv : Value) (l : List StA) (k : KeyV) (f now : Int) (hn : l.length ≤ 9223372036854775807) (hv : G1 w lv l.length (l.flatMap A2E)) (hs : ∀ x ∈ l, A36 w x) (hks : k.src.size ≤ maxLen) (hkd : k.dst.size ≤ maxLen) :
  Fn PR B5 5 #[c.val, lv, P8 k f, .int .i64 now] w (fun v w' => v = .bool true ∧ C4 [] w w') := by
 refine Fn.pure (x5 (TW.go (κ := false) (S := []) ?_))
 unfold W2
 obtain ⟨la, lc, rfl, hr⟩ := hv.form
 simp only [maxLen] at hks hkd
 simp only [CfgV.val, P8]
 (have zz:=trivial;repeat((first|clear zz|with_reducible first|refine A3 ?_|refine A5 fun _=>?_|refine A4 fun _=>?_);try simp(disch:=first|omega|assumption|((repeat(first|exact A1|exact uH|apply A2|apply uT));first|done|fail)|(simp;first|done|omega|fail))[]))
 rename_i bc bp
 refine D2 A2b (fun w' _ => B4x w') ?_
 (have zz:=trivial;repeat((first|clear zz|with_reducible first|refine A3 ?_|refine A5 fun _=>?_|refine A4 fun _=>?_);try simp(disch:=first|omega|assumption|((repeat(first|exact A1|exact uH|apply A2|apply uT));first|done|fail)|(simp;first|done|omega|fail))[]))
 refine D2 A3n (fun w' hw' => B89 w' c _ l hn (hv.ks hw'.ks (by simp)) fun x hx => (hs x hx).sl) ?_
 cases hf : A4y c (l.map (·.1.1)) with
 | false => (have zz:=trivial;repeat((first|clear zz|with_reducible first|refine A3 ?_|refine A5 fun _=>?_|refine A4 fun _=>?_);try simp(disch:=first|omega|assumption|((repeat(first|exact A1|exact uH|apply A2|apply uT));first|done|fail)|(simp;first|done|omega|fail))[])); exact B0 rfl
 | true =>
 by_cases g1 : (16 : Int) < k.src.size
 ·(have zz:=trivial;repeat((first|clear zz|with_reducible first|refine A3 ?_|refine A5 fun _=>?_|refine A4 fun _=>?_);try simp(disch:=first|omega|assumption|((repeat(first|exact A1|exact uH|apply A2|apply uT));first|done|fail)|(simp;first|done|omega|fail))[g1])); exact B0 rfl
 by_cases g2 : (16 : Int) < k.dst.size
 ·(have zz:=trivial;repeat((first|clear zz|with_reducible first|refine A3 ?_|refine A5 fun _=>?_|refine A4 fun _=>?_);try simp(disch:=first|omega|assumption|((repeat(first|exact A1|exact uH|apply A2|apply uT));first|done|fail)|(simp;first|done|omega|fail))[g1, g2])); exact B0 rfl
 (have zz:=trivial;repeat((first|clear zz|with_reducible first|refine A3 ?_|refine A5 fun _=>?_|refine A4 fun _=>?_);try simp(disch:=first|omega|assumption|((repeat(first|exact A1|exact uH|apply A2|apply uT));first|done|fail)|(simp;first|done|omega|fail))[g1, g2]))
 obtain ⟨hc6, hl12, hfo⟩ := B8x hf
 have hl : l.length ≤ 12 := by simpa using hl12
 generalize hfx : IntKind.i64.wrap _ = fx
 rename_i bq
 refine D2 A0n (fun w' _ => A2T w' k fx) ?_
 (have zz:=trivial;repeat((first|clear zz|with_reducible first|refine A3 ?_|refine A5 fun _=>?_|refine A4 fun _=>?_);try simp(disch:=first|omega|assumption|((repeat(first|exact A1|exact uH|apply A2|apply uT));first|done|fail)|(simp;first|done|omega|fail))[]))
 cases hok : Z0 c with
 | false =>
  refine A8H (c := c) (fun _ => ?_) (fun _ h => by rw [hok] at h; cases h)
  by_cases hput : (D7 k fx).2 = 0
  ·(have zz:=trivial;repeat((first|clear zz|with_reducible first|refine A3 ?_|refine A5 fun _=>?_|refine A4 fun _=>?_);try simp(disch:=first|omega|assumption|((repeat(first|exact A1|exact uH|apply A2|apply uT));first|done|fail)|(simp;first|done|omega|fail))[hput])); exact B0 rfl
  ·(have zz:=trivial;repeat((first|clear zz|with_reducible first|refine A3 ?_|refine A5 fun _=>?_|refine A4 fun _=>?_);try simp(disch:=first|omega|assumption|((repeat(first|exact A1|exact uH|apply A2|apply uT));first|done|fail)|(simp;first|done|omega|fail))[hput])); exact B0 rfl
 | true =>
 refine A8H (c := c) (fun h => by rw [hok] at h; cases h) fun m _ hst hi => ?_
 simp only [B9, List.cons_append, List.nil_append]
 by_cases hput : (D7 k fx).2 = 0
 case neg => (have zz:=trivial;repeat((first|clear zz|with_reducible first|refine A3 ?_|refine A5 fun _=>?_|refine A4 fun _=>?_);try simp(disch:=first|omega|assumption|((repeat(first|exact A1|exact uH|apply A2|apply uT));first|done|fail)|(simp;first|done|omega|fail))[hput])); exact B0 rfl
 (have zz:=trivial;repeat((first|clear zz|with_reducible first|refine A3 ?_|refine A5 fun _=>?_|refine A4 fun _=>?_);try simp(disch:=first|omega|assumption|((repeat(first|exact A1|exact uH|apply A2|apply uT));first|done|fail)|(simp;first|done|omega|fail))[hput]))
 refine D2 A00 (fun w' _ => A8G w' k fx) ?_
 cases hcl : H6 k fx with
 | false => (have zz:=trivial;repeat((first|clear zz|with_reducible first|refine A3 ?_|refine A5 fun _=>?_|refine A4 fun _=>?_);try simp(disch:=first|omega|assumption|((repeat(first|exact A1|exact uH|apply A2|apply uT));first|done|fail)|(simp;first|done|omega|fail))[])); exact B0 rfl
 | true =>
 (have zz:=trivial;repeat((first|clear zz|with_reducible first|refine A3 ?_|refine A5 fun _=>?_|refine A4 fun _=>?_);try simp(disch:=first|omega|assumption|((repeat(first|exact A1|exact uH|apply A2|apply uT));first|done|fail)|(simp;first|done|omega|fail))[]))
 have hp6 := B3S hcl
 refine B0D l.length (fun i (x : BaH) => B9 x ++ [.pt bq (.cells #[.int .i64 k.v, .string k.src, .string k.dst, .int .i64 k.fr, .int .i64 k.tp, .int .i64 k.proto, .int .i64 fx] 58), .pt bp (.cells #[.int .i64 k.v, .string k.src, .string k.dst, .int .i64 k.fr, .int .i64 k.tp, .int .i64 k.proto, .int .i64 f] 58), .pt bc (.cells #[.int .i64 c.wk, .int .i64 c.sh, .int .i64 c.cp, .int .i64 c.idle, .int .i64 c.sl] 23)])
  (fun i x => x.b = m.b ∧ Inv c x.st) m ⟨rfl, hi⟩ ?_
 rintro i x hil ⟨hb, hix⟩ L hL
 rw [← hb]
 by_cases hlt : i < l.length
 ·have hy := List.getElem?_eq_getElem hlt
  obtain ⟨lb, lo, rfl, hrow⟩ := hr (by omega)
  obtain ⟨h1, h2⟩ := C0E hrow hy
  have hyp := hs l[i] (List.getElem_mem hlt)
  have hyo := hfo l[i].1.1 (List.mem_map_of_mem (List.getElem_mem hlt))
  generalize l[i] = y at *
  have hyp0 : G1 w y.1.2 y.1.1.pool.length (y.1.1.pool.flatMap F7) := hyp
  obtain ⟨ya, yc, hye⟩ := hyp.sl
  rw [l8] at h1
  rw [hye] at h1 hyp0
  (have zz:=trivial;repeat((first|clear zz|with_reducible first|refine A3 ?_|refine A5 fun _=>?_|refine A4 fun _=>?_);try simp(disch:=first|omega|assumption|((repeat(first|exact A1|exact uH|apply A2|apply uT));first|done|fail)|(simp;first|done|omega|fail))[hlt, h1, h2]))
  refine B9w (o := y.1.1) (v := .slice ya y.1.1.pool.length yc) (now := y.2) _ hix V0 (fun w' hw' => B48 hw' hyp0 (by omega)) (by omega) rfl fun z hbz hstz hiz => ?_
  (have zz:=trivial;repeat((first|clear zz|with_reducible first|refine A3 ?_|refine A5 fun _=>?_|refine A4 fun _=>?_);try simp(disch:=first|omega|assumption|((repeat(first|exact A1|exact uH|apply A2|apply uT));first|done|fail)|(simp;first|done|omega|fail))[]))
  exact hL hlt z ⟨hbz.trans hb, hiz⟩
 obtain rfl : i = l.length := by omega
 simp only [B9, List.cons_append, List.nil_append]
 (have zz:=trivial;repeat((first|clear zz|with_reducible first|refine A3 ?_|refine A5 fun _=>?_|refine A4 fun _=>?_);try simp(disch:=first|omega|assumption|((repeat(first|exact A1|exact uH|apply A2|apply uT));first|done|fail)|(simp;first|done|omega|fail))[]))
 refine D2 (u := A1P k) A2Q (fun w' hw' => B1f w' k) ?_
 (have zz:=trivial;repeat((first|clear zz|with_reducible first|refine A3 ?_|refine A5 fun _=>?_|refine A4 fun _=>?_);try simp(disch:=first|omega|assumption|((repeat(first|exact A1|exact uH|apply A2|apply uT));first|done|fail)|(simp;first|done|omega|fail))[A1P]))
 rw [show (if U7 k = true then A09 k else P4) = N3 k from rfl]
 refine A6s hix (by simp only [B9]; (repeat' constructor)) fun a1 c1 => ?_
 simp only [B9, List.cons_append, List.nil_append]
 (have zz:=trivial;repeat((first|clear zz|with_reducible first|refine A3 ?_|refine A5 fun _=>?_|refine A4 fun _=>?_);try simp(disch:=first|omega|assumption|((repeat(first|exact A1|exact uH|apply A2|apply uT));first|done|fail)|(simp;first|done|omega|fail))[]))
 refine A6u (K7 x.st (D7 k fx).1 now) hix (by simp only [B9]; (repeat' constructor)) (A5J k fx) rfl fun z hbz hstz hiz => ?_
 have hkl := hix.liveK_le
 have hkl2 := hiz.liveK_le
 rw [← hbz]
 rcases B5J hix hp6 hput hcl now with ⟨ha, hpool, hsame⟩ | ⟨bk, ha, hno, hle, hnext⟩
 ·rw [ha]
  have hzx : z.st = x.st := hstz.trans hsame
  have hzp : z.pool.length = 0 := by
   have : z.pool = x.st.pool := congrArg MoS.pool hzx
   rw [this, hpool]; rfl
  simp only [B9, List.cons_append, List.nil_append]
  (have zz:=trivial;repeat((first|clear zz|with_reducible first|refine A3 ?_|refine A5 fun _=>?_|refine A4 fun _=>?_);try simp(disch:=first|omega|assumption|((repeat(first|exact A1|exact uH|apply A2|apply uT));first|done|fail)|(simp;first|done|omega|fail))[AnsV.val]))
  refine A6s hiz (by simp only [B9]; (repeat' constructor)) fun a2 c2 => ?_
  rw [hzx]
  simp only [B9, List.cons_append, List.nil_append]
  (have zz:=trivial;repeat((first|clear zz|with_reducible first|refine A3 ?_|refine A5 fun _=>?_|refine A4 fun _=>?_);try simp(disch:=first|omega|assumption|((repeat(first|exact A1|exact uH|apply A2|apply uT));first|done|fail)|(simp;first|done|omega|fail))[AnsV.val]))
  refine B38 hiz (by simp only [B9]; (repeat' constructor)) fun a3 c3 => ?_
  rw [hzp]
  (have zz:=trivial;repeat((first|clear zz|with_reducible first|refine A3 ?_|refine A5 fun _=>?_|refine A4 fun _=>?_);try simp(disch:=first|omega|assumption|((repeat(first|exact A1|exact uH|apply A2|apply uT));first|done|fail)|(simp;first|done|omega|fail))[AnsV.val]))
  exact B0 rfl
 ·rw [ha]
  rw [← hstz] at hno hle hnext
  simp only [B9, List.cons_append, List.nil_append]
  (have zz:=trivial;repeat((first|clear zz|with_reducible first|refine A3 ?_|refine A5 fun _=>?_|refine A4 fun _=>?_);try simp(disch:=first|omega|assumption|((repeat(first|exact A1|exact uH|apply A2|apply uT));first|done|fail)|(simp;first|done|omega|fail))[AnsV.val]))
  rename_i b19
  refine A6s hiz (by simp only [B9]; (repeat' constructor)) fun a2 c2 => ?_
  simp only [B9, List.cons_append, List.nil_append]
  rw [← A55, ← A55] at hle
  generalize hK1 : H4 x.st.tabs = K1 at *
  generalize hK2 : H4 z.st.tabs = K2 at *
  (have zz:=trivial;repeat((first|clear zz|with_reducible first|refine A3 ?_|refine A5 fun _=>?_|refine A4 fun _=>?_);try simp(disch:=first|omega|assumption|((repeat(first|exact A1|exact uH|apply A2|apply uT));first|done|fail)|(simp;first|done|omega|fail))[AnsV.val]))
  refine r8 (α := Unit) K2.length (fun _ _ => .bool false) (fun _ _ => _) (fun _ _ => True) () trivial ?_
  rintro i _ hi2 _ L2 hL2
  by_cases hlt2 : i < K2.length
  ·have hne : ¬ K2[i] = N3 k := fun e => hno (e ▸ List.getElem_mem hlt2)
   have hs2 : (K2.map Value.string)[i]? = some (.string K2[i]) := by simp [hlt2]
   refine x9 (e := 9) (k := 1) (v := .slice a2 K2.length c2) (q := K2.length) (xs := K2.map Value.string) (by (repeat constructor)) (by omega) ?_
   rintro g gc hg
   cases hg
   (have zz:=trivial;repeat((first|clear zz|with_reducible first|refine A3 ?_|refine A5 fun _=>?_|refine A4 fun _=>?_);try simp(disch:=first|omega|assumption|((repeat(first|exact A1|exact uH|apply A2|apply uT));first|done|fail)|(simp;first|done|omega|fail))[hlt2, hs2, hne]))
   exact hL2 hlt2 () trivial
  ·obtain rfl : i = K2.length := by omega
   have h16 := hnext 16 (B6N hp6 hput (by omega)) (B40 k)
   (have zz:=trivial;repeat((first|clear zz|with_reducible first|refine A3 ?_|refine A5 fun _=>?_|refine A4 fun _=>?_);try simp(disch:=first|omega|assumption|((repeat(first|exact A1|exact uH|apply A2|apply uT));first|done|fail)|(simp;first|done|omega|fail))[]))
   refine D2 A0n (fun w' _ => A2T w' k 16) ?_
   (have zz:=trivial;repeat((first|clear zz|with_reducible first|refine A3 ?_|refine A5 fun _=>?_|refine A4 fun _=>?_);try simp(disch:=first|omega|assumption|((repeat(first|exact A1|exact uH|apply A2|apply uT));first|done|fail)|(simp;first|done|omega|fail))[]))
   refine A6u (K7 z.st (D7 k 16).1 now) hiz (by simp only [B9]; (repeat' constructor)) (A5J k 16) rfl fun z2 hbz2 hstz2 hiz2 => ?_
   generalize (K7 z.st (D7 k 16).1 now).2 = an at *
   have hw1 : IntKind.i64.wrap ((K1.length : Int) - (K2.length : Int)) = (K1.length : Int) - (K2.length : Int) := y8 (by omega) (by omega)
   have hw2 : (K1.length : Int) - (K2.length : Int) ≤ 1 := by omega
   have hw3 : (K1.length : Int) ≤ 1 + (K2.length : Int) := by omega
   have hw4 : (K1.length : Int) ≤ (K2.length : Int) + 1 := by omega
   simp only [B9, List.cons_append, List.nil_append]
   by_cases h12 : an.err = 12
   ·(have zz:=trivial;repeat((first|clear zz|with_reducible first|refine A3 ?_|refine A5 fun _=>?_|refine A4 fun _=>?_);try simp(disch:=first|omega|assumption|((repeat(first|exact A1|exact uH|apply A2|apply uT));first|done|fail)|(simp;first|done|omega|fail))[AnsV.val, h12, hw1, hw2, hw3, hw4]))
    exact B0 rfl
   ·have hmd : an.made = true := h16.resolve_left h12
    (have zz:=trivial;repeat((first|clear zz|with_reducible first|refine A3 ?_|refine A5 fun _=>?_|refine A4 fun _=>?_);try simp(disch:=first|omega|assumption|((repeat(first|exact A1|exact uH|apply A2|apply uT));first|done|fail)|(simp;first|done|omega|fail))[AnsV.val, h12, hmd, hw1, hw2, hw3, hw4]))
    exact B0 rfl
end Go.Proofs.YtpbmephflllolaaGreat
