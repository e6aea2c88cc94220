/- The proof of a given statement, a part of it (Def ShBalancer Bal Bal2 Bal3 Bal4 Bal5 ShR08 ShR11 Rf11 ShR02 Rf02 Rf11b Rf12 ShR09 ShR10 ShR01 Rf01 Without Rf09 Makes Rf17a ShR07 ShR05 ShR06 ShR03 ShR04 Rf03 Rf04 Rf07 Rf08 ShR13 Rf13 Rf17b Rf17c Rf17d Rf17e Rf24 Bal6 BalT Works24 Few24 ShL24BalancerApart BApartW). No condition but what each lemma says. -/
import Derived.Defers
import Derived.Test.YtpbmephflllolaaGreatB17
set_option linter.unusedVariables false
set_option linter.unusedSimpArgs false
namespace Go.Proofs.YtpbmephflllolaaGreat
open Go
def FnD (P : Program) (X : Nat → Prop) (f : FuncId) (args : Array Value) (w : World) (R : Value → WP) : Prop :=
 CallsD P f args .returning w fun e u' w' => ∃ v, e = .returned v ∧ u' = .returning ∧ R v w' ∧ Sk X w w'
def dfr (P : Program) (X : Nat → Prop) (g : Value) (A : WP) : WP :=
 match g with
 | .func (.func f) first cap => fun w => A9 P f ∧ FnD P X f (first.toList ++ cap.toList).toArray w fun _ => A
 | _ => D8
def isf (g : Value) (A : WP) : WP := fun w => (∃ f first cap, g = .func (.func f) first cap) ∧ A w
def A3w (o : Oper) : Option Operand :=
 match o.guard, o.dst with
 | none, none => match o.op with
  | .defer c => match c.callee, c.args.toList with
   | .value g, [] => some g
   | _, _ => none
  | _ => none
 | _, _ => none
def A11 : List Oper → Option (List Oper × Operand)
 | [] => none
 | o :: r => match r with
  | [] => match A3w o with | some g => some ([], g) | none => none
  | _ :: _ => match A11 r with | some (l, g) => some (o :: l, g) | none => none
def B1f : Code → Option (Array Oper × List Oper × Operand)
 | .region _ ops false => match A11 ops.toList with | some (l, g) => some (ops, l, g) | none => none
 | _ => none
def vcD (P : Program) (X : Nat → Prop) (n : Nat) (fn : D3 → WP) : Code → D3 → WP
 | .seq a b, e =>
  match B1f a with
  | some (ops, l, g) => A8N P X n ops l e fun e' => w1 (ev n e' g) fun gv => isf gv (vc P X n false b e' (fun e => dfr P X gv (fn e)) { exit := fun _ _ => D8, ret := fun e => dfr P X gv (fn e) })
  | none => vc P X n false a e (fun e' => vcD P X n fn b e') { exit := fun _ _ => D8, ret := fn }
 | _, _ => D8
def A5Q (P : Program) (X : Nat → Prop) (fn : Func) (args : List Value) (R : Value → WP) : WP :=
 match fn.body with
 | none => D8
 | some c => match Nat.ble args.length fn.ntmps with
  | false => D8
  | true => match H4 c with
   | true => D8
   | false => vcD P X fn.ntmps (V9 P fn.ntmps fn.results.toList R) c (w9 0 args)
theorem B9q {P : Program} {X : Nat → Prop} {n : Nat} {ro : Option Nat} {ops : Array Oper} {K : D3 → WP} : ∀ (l : List Oper) (i : Nat), (∀ j o, l[j]? = some o → ops[i + j]? = some o) → ∀ (e : D3) (a : Act) (w : World),
  e.Ok n a → A8N P X n ops l e K w → Q1 P X ro ops (fun a w => ∃ e', D3.Ok n e' a ∧ K e' w) (List.range' i l.length) a w := by
 intro l
 induction l with
 | nil => intro i _ e a w hok h; exact ⟨e, hok, h⟩
 | cons o l ih =>
  intro i hi e a w hok h
  have ho : ops[i]? = some o := hi 0 o rfl
  have h2 : ∀ j o', l[j]? = some o' → ops[i + 1 + j]? = some o' := fun j o' hj => by
   have := hi (j + 1) o' (by simpa using hj)
   rw [show i + 1 + j = i + (j + 1) from by omega]; exact this
  simp only [List.length_cons, List.range'_succ, Q1]
  unfold V5
  rw [ho]; simp only []
  rcases q5 hok h with ⟨hw, hy⟩ | ⟨hw, hn, _⟩
  ·rw [if_pos hw]
   exact (B82 hok hy).mono fun v w' hv => ih (i + 1) h2 _ _ _ (hok.put _ _) hv
  ·rw [if_neg (by simp [hw])]
   exact ih (i + 1) h2 _ _ _ (hok.put _ _) hn
theorem B5K {P : Program} {X : Nat → Prop} {b : Frame} {ops : Array Oper} {Q : Act → World → Prop} (rest : List Nat) (l : List Nat) : ∀ (a : Act) (w : World), Q1 P X b.roundOf ops Q l a w → ∀ (k : List Item) (cs : List Frame),
  ∃ a' w', Q a' w' ∧ Sk X w w' ∧ a'.defers = a.defers ∧ Steps P (lone (b.atR a (.inRegion ops (l ++ rest) :: k)) cs w) (lone (b.atR a' (.inRegion ops rest :: k)) cs w') := by
 induction l with
 | nil => exact fun a w h k cs => ⟨a, w, h, Sk.refl _ _, rfl, Steps.refl _ _⟩
 | cons i l ih =>
  intro a w h k cs
  obtain ⟨a₁, w₁, hK, hs, hd, st⟩ := B2H (rest := l ++ rest) h k cs
  obtain ⟨a₂, w₂, hQ, hs₂, hd₂, st₂⟩ := ih a₁ w₁ hK k cs
  exact ⟨a₂, w₂, hQ, hs.trans hs₂, hd₂.trans hd, st.trans st₂⟩
theorem B3J : ∀ {L l : List Oper} {g : Operand}, A11 L = some (l, g) → ∃ o, L = l ++ [o] ∧ A3w o = some g := by
 intro L
 induction L with
 | nil => intro l g h; cases h
 | cons o r ih =>
  intro l g h
  cases r with
  | nil =>
   simp only [A11] at h
   cases hd : A3w o with
   | none => rw [hd] at h; cases h
   | some g' => rw [hd] at h; cases h; exact ⟨o, rfl, hd⟩
  | cons o' r =>
   rw [A11] at h
   cases hs : A11 (o' :: r) with
   | none => rw [hs] at h; cases h
   | some p =>
    obtain ⟨l', g'⟩ := p
    rw [hs] at h; cases h
    obtain ⟨o2, h1, h2⟩ := ih hs
    exact ⟨o2, by rw [h1]; rfl, h2⟩
theorem B4p {P : Program} {n : Nat} {b : Frame} {ops : Array Oper} {i : Nat} {o : Oper} {g : Operand} {f : FuncId} {first cap : Array Value} {e : D3} {a : Act} {w : World} (hb : b.roundOf = none)
  (ho : ops[i]? = some o) (hd : A3w o = some g) (hok : e.Ok n a) (hg : ev n e g = some (.func (.func f) first cap)) (k : List Item) (cs : List Frame) :
  Steps P (lone (b.atR a (.inRegion ops [i] :: k)) cs w) (lone (b.atR { a with defers := { target := .fn (.func f) cap, args := first ++ #[] } :: a.defers } k) cs w) := by
 obtain ⟨dst, op, type, pos, after, guard⟩ := o
 unfold A3w at hd
 cases guard <;> cases dst <;> simp only [reduceCtorEq] at hd
 cases op <;> simp only [reduceCtorEq] at hd
 rename_i c
 obtain ⟨callee, cargs, ctypes⟩ := c
 cases callee <;> simp only [reduceCtorEq] at hd
 rename_i f'
 have ha : cargs = #[] := by
  cases hc : cargs.toList with
  | nil => exact Array.toList_inj.1 (by simpa using hc)
  | cons x xs => rw [hc] at hd; cases hd
 subst ha
 simp only [Option.some.injEq] at hd
 subst hd
 have hgv := D7 hok hg
 have hgo := stepGR_op (P := P) (b := b) (a := a) (k := k) (cs := cs) (w := w) (rest := []) ho rfl
 have hr : (Oper.semAt b.roundOf a.eval ⟨none, .defer ⟨.value f', #[], ctypes⟩, type, pos, after, none⟩).run P w = .ok (.defer { target := .fn (.func f) cap, args := first ++ #[] }) w := by
  rw [hb, Oper.semAt_none]
  simp only [execOp, resolve, Array.map_empty, hgv, Deferred.ofValue]
  rfl
 refine .head (step_lone_go ?_) (.one (stepR_region_end (ops := ops)))
 rw [hgo]
 simp only [stepG.apply, Sem.runT_eq, hr]
 have hf := Frame.finish_atR b { a with defers := { target := .fn (.func f) cap, args := first ++ #[] } :: a.defers } ops i [] k undef
 rw [ho] at hf
 simp only [Option.bind_some, Act.put] at hf
 rw [← hf]
 rfl
def C5S (P : Program) (X : Nat → Prop) (n : Nat) (fn : D3 → WP) (a : Act) (w : World) : Prop :=
 ∃ e, D3.Ok n e a ∧ ((a.defers = [] ∧ fn e w) ∨ ∃ f first cap, a.defers = [{ target := .fn (.func f) cap, args := first ++ #[] }] ∧ dfr P X (.func (.func f) first cap) (fn e) w)
theorem C1D {P : Program} {X : Nat → Prop} {n : Nat} {b : Frame} {fn : D3 → WP} (hm : P.follows .mixedOrders = true) (hb : b.roundOf = none) (cs : List Frame) : ∀ (c : Code) (e : D3) (a : Act) (w : World),
  H4 c = false → e.Ok n a → a.defers = [] → vcD P X n fn c e w →
  ∃ a' w' k0, Steps P (lone (b.atR a [.code c]) cs w) (lone { b.atR a' k0 with mode := .returning } cs w') ∧ Sk X w w' ∧ C5S P X n fn a' w' := by
 intro c
 induction c with
 | seq x y _ ih =>
  intro e a w hr hok hd h
  simp only [H4, Bool.or_eq_false_iff] at hr
  simp only [vcD] at h
  cases hs : B1f x with
  | none =>
   rw [hs] at h; simp only [] at h
   obtain ⟨ex, a1, w1, ms, hq, hsk, hda, hmk, harr⟩ := B08 hm x X b false _ _ _ _ w trivial (fun _ => hb) hok h [.code y] cs
   cases ex with
   | nrm =>
    obtain ⟨⟨e1, hok1, hv⟩, hkp⟩ := hq
    have hd1 : a1.defers = [] := by rw [hkp.2 hr.1, hd]
    obtain ⟨a', w', k0, hst, hsk2, hend⟩ := ih e1 a1 w1 hr.2 hok1 hd1 hv
    exact ⟨a', w', k0, .head stepR_seq (Steps.trans harr hst), hsk.trans hsk2, hend⟩
   | ret =>
    obtain ⟨⟨e1, hok1, hv⟩, hkp⟩ := hq
    have hd1 : a1.defers = [] := by rw [hkp.2 hr.1, hd]
    obtain ⟨k0, hs0⟩ := harr
    exact ⟨a1, w1, _, .head stepR_seq (Steps.trans hs0 (.one (stepR_ret hb))), hsk, e1, hok1, .inl ⟨hd1, hv⟩⟩
   | exit i => obtain ⟨⟨_, _, hv⟩, _⟩ := hq; exact hv.elim
   | goto l => exact hq.1.elim
  | some t =>
   obtain ⟨ops, l, g⟩ := t
   rw [hs] at h; simp only [] at h
   cases x with
   | region id ops' draw =>
    cases draw with
    | true => cases hs
    | false =>
     simp only [B1f] at hs
     cases hsp : A11 ops'.toList with
     | none => rw [hsp] at hs; cases hs
     | some q =>
      obtain ⟨l', g'⟩ := q
      rw [hsp] at hs; cases hs
      obtain ⟨o, hL, hdc⟩ := B3J hsp
      have hsz : ops.size = l.length + 1 := by rw [← Array.length_toList, hL]; simp
      have hg0 : ∀ j : Nat, ops[j]? = (l ++ [o])[j]? := fun j => by rw [← hL]; simp
      have hreg := B9q (P := P) (X := X) (ro := b.roundOf) (ops := ops) l 0 (fun j o' hj => by
       rw [Nat.zero_add, hg0, List.getElem?_append_left (List.getElem?_eq_some_iff.1 hj).1]; exact hj) e a w hok h
      have hrange : List.range ops.size = List.range' 0 l.length ++ [l.length] := by
       rw [hsz, List.range_succ, List.range_eq_range']
      obtain ⟨a1, w1, ⟨e1, hok1, hv⟩, hsk, hda, hst⟩ := B5K (b := b) [l.length] (List.range' 0 l.length) a w hreg [.code y] cs
      obtain ⟨gv, hgv, hv⟩ := G6 hv
      rw [← hrange] at hst
      have hst0 : Steps P (lone (b.atR a [.code (.seq (.region id ops false) y)]) cs w) (lone (b.atR a1 [.inRegion ops [l.length], .code y]) cs w1) := .head stepR_seq (.head stepR_region hst)
      -- the value is a function's
      have hlast : ops[l.length]? = some o := by rw [hg0]; simp
      have hd1 : a1.defers = [] := by rw [hda, hd]
      -- on
      obtain ⟨⟨f, first, cap, rfl⟩, hv⟩ := hv
      have hds := B4p (P := P) (b := b) (w := w1) hb hlast hdc hok1 hgv [.code y] cs
      have hok2 : D3.Ok n e1 { a1 with defers := { target := .fn (.func f) cap, args := first ++ #[] } :: a1.defers } := hok1
      obtain ⟨ex, a2, w2, ms, hq, hsk2, hda2, hmk, harr⟩ := B08 hm y X b false _ _ _ _ w1 trivial (fun _ => hb) hok2 hv [] cs
      have fd : P0 y { a1 with defers := { target := .fn (.func f) cap, args := first ++ #[] } :: a1.defers } a2 → a2.defers = [{ target := .fn (.func f) cap, args := first ++ #[] }] := fun hkp => (hkp.2 hr.2).trans (congrArg (List.cons _) hd1)
      cases ex with
      | nrm =>
       obtain ⟨⟨e2, hok2, hv2⟩, hkp⟩ := hq
       exact ⟨a2, w2, [], (hst0.trans hds).trans (Steps.trans harr (.one (stepR_end hb))), hsk.trans hsk2, e2, hok2, .inr ⟨f, first, cap, fd hkp, hv2⟩⟩
      | ret =>
       obtain ⟨⟨e2, hok2, hv2⟩, hkp⟩ := hq
       obtain ⟨k0, hs0⟩ := harr
       exact ⟨a2, w2, _, (hst0.trans hds).trans (Steps.trans hs0 (.one (stepR_ret hb))), hsk.trans hsk2, e2, hok2, .inr ⟨f, first, cap, fd hkp, hv2⟩⟩
      | exit i => obtain ⟨⟨_, _, hv⟩, _⟩ := hq; exact hv.elim
      | goto l => exact hq.1.elim
   | _ => cases hs
 | _ => intro e a w _ _ _ h; exact h.elim
theorem A5z {P : Program} {X : Nat → Prop} {f : FuncId} {fn : Func} {args : List Value} {R : Value → WP} {w : World} (hm : P.follows .mixedOrders = true) (hf : P.funcs[f]? = some fn)
  (h : A5Q P X fn args R w) : Fn P X f args.toArray w R := by
 unfold A5Q at h
 cases hbody : fn.body with
 | none => rw [hbody] at h; exact h.elim
 | some c =>
  rw [hbody] at h; simp only [] at h
  cases hle : Nat.ble args.length fn.ntmps with
  | false => rw [hle] at h; exact h.elim
  | true =>
   rw [hle] at h; simp only [] at h
   have hle' : args.length ≤ fn.ntmps := by simpa using hle
   cases hr : H4 c with
   | true => rw [hr] at h; exact h.elim
   | false =>
    rw [hr] at h; simp only [] at h
    intro cs
    let b : Frame := { (default : Frame) with fn := f, kind := .normal }
    have henter : Frame.enter P f args.toArray .normal = b.atR { tmps := args.toArray ++ Array.replicate (fn.ntmps - args.toArray.size) undef, defers := [] } [.code c] := by
     simp [Frame.enter, Frame.atR, hf, hbody, b]
     rfl
    have hok : D3.Ok fn.ntmps (w9 0 args) { tmps := args.toArray ++ Array.replicate (fn.ntmps - args.toArray.size) undef, defers := [] } := by
     refine ⟨by simp; omega, fun t v ht hg => ?_⟩
     obtain ⟨_, h2⟩ := A7n args 0 t v hg
     simp only [Nat.sub_zero] at h2
     have hlt : t < args.length := (List.getElem?_eq_some_iff.1 h2).1
     simp only []
     rw [Array.getElem?_append_left (by simpa using hlt)]
     simpa using h2
    obtain ⟨a', w', k0, hst, hsk, e', hok', hend⟩ := C1D (b := b) hm rfl cs c _ _ w hr hok rfl h
    rw [← henter] at hst
    rcases hend with ⟨hd, hfin⟩ | ⟨g, first, cap, hd, hdf⟩
    ·obtain ⟨v, hv, hR⟩ := A3a hok' hfin
     exact ⟨.returned v, w', { b.atR a' k0 with mode := .returning }, ⟨v, rfl, hR, hsk⟩, hst, rfl, rfl, hd, rfl, fn, hf, hv⟩
    ·obtain ⟨hent, hcd⟩ := hdf
     have hl : Leaves P fn a'.tmps (fun e w'' => ∃ v, e = .returned v ∧ R v w'' ∧ Sk X w w'') a'.defers .returning w' := by
      rw [hd]
      refine leaves_cons (by simp) (hent _ w') ?_
      have hcd' := hcd
      rw [show (first.toList ++ cap.toList).toArray = (first ++ #[]) ++ cap from by simp] at hcd'
      refine CallsD.mono hcd' ?_
      rintro e u' w'' ⟨v, rfl, rfl, hf2, hsk2⟩
      obtain ⟨v', hv', hR'⟩ := A3a hok' hf2
      exact ⟨v', hv', v', rfl, hR', hsk.trans hsk2⟩
     obtain ⟨e2, w2, fr, hR, hs2, hfn2, hl2⟩ := leaves_steps a'.defers .returning w' { b.atR a' k0 with mode := .returning } cs rfl rfl rfl hf rfl hl
     exact ⟨e2, w2, fr, hR, Comes.of_steps hst hs2, hfn2, hl2⟩
theorem B67 {P : Program} {X : Nat → Prop} {f : FuncId} {fn : Func} {args : List Value} {R : Value → WP} {w : World} (hm : P.follows .mixedOrders = true) (hf : P.funcs[f]? = some fn)
  (h : A6T P X fn args R w) : FnD P X f args.toArray w R := by
 unfold A6T at h
 cases hbody : fn.body with
 | none => rw [hbody] at h; exact h.elim
 | some c =>
  rw [hbody] at h; simp only [] at h
  cases hle : Nat.ble args.length fn.ntmps with
  | false => rw [hle] at h; exact h.elim
  | true =>
   rw [hle] at h; simp only [] at h
   have hle' : args.length ≤ fn.ntmps := by simpa using hle
   intro c0 cs0 hc0
   have hc : ({ c0 with mode := .returning } : Frame) = c0 := by rw [← hc0]
   let cs := c0 :: cs0
   let b : Frame := { (default : Frame) with fn := f, kind := .deferred }
   have henter : Frame.enter P f args.toArray .deferred = b.atR { tmps := args.toArray ++ Array.replicate (fn.ntmps - args.toArray.size) undef, defers := [] } [.code c] := by
    simp [Frame.enter, Frame.atR, hf, hbody, b]
    rfl
   have hok : D3.Ok fn.ntmps (w9 0 args) { tmps := args.toArray ++ Array.replicate (fn.ntmps - args.toArray.size) undef, defers := [] } := by
    refine ⟨by simp; omega, fun t v ht hg => ?_⟩
    obtain ⟨_, h2⟩ := A7n args 0 t v hg
    simp only [Nat.sub_zero] at h2
    have hlt : t < args.length := (List.getElem?_eq_some_iff.1 h2).1
    simp only []
    rw [Array.getElem?_append_left (by simpa using hlt)]
    simpa using h2
   have ending : ∀ (a' : Act) (w' : World) (ms : List Deferred) (k0 : List Item), a'.defers = ms ++ [] → N9 w.heap.size w' ms → Sk X w w' →
     (∃ e', D3.Ok fn.ntmps e' a' ∧ ((ms = [] ∧ V9 P fn.ntmps fn.results.toList R e' w') ∨ ∀ w'', T1 w' w'' → V9 P fn.ntmps fn.results.toList R e' w'')) →
     ∀ (m : Machine), Steps P m (lone { b.atR a' k0 with mode := .returning } cs w') →
     ∃ e w'' fr, (∃ v, e = .returned v ∧ R v w'' ∧ Sk X w w'') ∧ Comes P m (lone fr cs w'') e ∧ fr.kind = .deferred ∧ fr.going P w'' e := by
    intro a' w' ms k0 hd hmk hsk ⟨e', hok', hfin⟩ m hs
    rcases hfin with ⟨hms, hfin⟩ | hfin
    ·subst hms
     obtain ⟨v, hv, hR⟩ := A3a hok' hfin
     exact ⟨.returned v, w', { b.atR a' k0 with mode := .returning }, ⟨v, rfl, hR, hsk⟩, hs, rfl, rfl, hd, fn, hf, hv⟩
    obtain ⟨w'', hdq, hst, hlow, hcalm⟩ := A6B (P := P) ms { b.atR a' k0 with mode := .returning } cs w' rfl (by simpa [Frame.atR] using hd) hmk
    obtain ⟨v, hv, hR⟩ := A3a hok' (hfin w'' hdq)
    refine ⟨.returned v, w'', { { b.atR a' k0 with mode := .returning } with defers := [] }, ⟨v, rfl, hR, ?_⟩, hs.trans hst, rfl, rfl, rfl, fn, hf, hv⟩
    refine ⟨by rw [hdq.1]; exact hsk.1, fun r d hr => ?_, fun r lo hx hr => ?_, hsk.2.2.2.trans hcalm⟩
    ·rw [hlow r (Array.getElem?_eq_some_iff.1 hr).1]; exact hsk.2.1 r d hr
    ·rw [hlow r (Array.getElem?_eq_some_iff.1 hr).1]; exact hsk.2.2.1 r lo hx hr
   have go : ∀ (k : D3 → WP) (ex : Nat → D3 → WP), (∀ i e, ex i e = D8) → vc P X fn.ntmps false c (w9 0 args) k { exit := ex, ret := k } w →
     (∀ e a' w' ms, P0 c { tmps := args.toArray ++ Array.replicate (fn.ntmps - args.toArray.size) undef, defers := [] } a' → a'.defers = ms ++ [] → D3.Ok fn.ntmps e a' → k e w' →
      (ms = [] ∧ V9 P fn.ntmps fn.results.toList R e w') ∨ ∀ w'', T1 w' w'' → V9 P fn.ntmps fn.results.toList R e w'') →
     ∃ e w'' fr, (∃ v, e = .returned v ∧ R v w'' ∧ Sk X w w'') ∧ Comes P (lone (Frame.enter P f args.toArray .deferred) cs w) (lone fr cs w'') e ∧ fr.kind = .deferred ∧ fr.going P w'' e := by
    intro k ex hex hvc hk
    obtain ⟨e, a', w', ms, hq, hsk, hd, hmk, harr⟩ := B08 hm c X b false _ _ _ _ w trivial (fun _ => rfl) hok hvc [] cs
    rw [← henter] at harr
    cases e with
    | nrm =>
     obtain ⟨⟨e', hok', hke⟩, hkp⟩ := hq
     exact ending a' w' ms [] hd hmk hsk ⟨e', hok', hk e' a' w' ms hkp hd hok' hke⟩ _ (Steps.trans harr (.one (stepR_end rfl)))
    | ret =>
     obtain ⟨⟨e', hok', hke⟩, hkp⟩ := hq
     obtain ⟨k0, hs0⟩ := harr
     exact ending a' w' ms _ hd hmk hsk ⟨e', hok', hk e' a' w' ms hkp hd hok' hke⟩ _ (Steps.trans hs0 (.one (stepR_ret rfl)))
    | exit i => obtain ⟨⟨e', _, hke⟩, _⟩ := hq; simp only [hex] at hke; exact hke.elim
    | goto l => exact hq.1.elim
   have done : (∃ e w'' fr, (∃ v, e = .returned v ∧ R v w'' ∧ Sk X w w'') ∧ Comes P (lone (Frame.enter P f args.toArray .deferred) cs w) (lone fr cs w'') e ∧ fr.kind = .deferred ∧ fr.going P w'' e) →
     ∃ e u' w' fr, (∃ v, e = .returned v ∧ u' = FrameMode.returning ∧ R v w' ∧ Sk X w w') ∧
      Comes P (lone (Frame.enter P f args.toArray .deferred) (c0 :: cs0) w) (lone fr ({ c0 with mode := u' } :: cs0) w') e ∧ fr.kind = .deferred ∧ fr.going P w' e := by
    rintro ⟨e, w'', fr, ⟨v, rfl, hR, hsk⟩, hcm, hk, hg⟩
    exact ⟨.returned v, .returning, w'', fr, ⟨v, rfl, rfl, hR, hsk⟩, (by rw [hc]; exact hcm), hk, hg⟩
   cases hr : H4 c with
   | true =>
    rw [hr] at h
    exact done (go _ _ (fun _ _ => rfl) h fun e a' w' ms _ _ _ hke => .inr hke)
   | false =>
    rw [hr] at h
    refine done (go _ _ (fun _ _ => rfl) h fun e a' w' ms hkp hd _ hke => .inl ⟨?_, hke⟩)
    have := hkp.2 hr
    rw [hd] at this
    simpa using this
end Go.Proofs.YtpbmephflllolaaGreat
namespace Go.Proofs.YtpbmephflllolaaGreat
open Go
def A2b (X : Nat → Prop) (t0 : Value) (R : Value → WP) : WP :=
 B1 PR X (Instr.box 23 t0) fun t1 =>
 jn (n := 2) (fun t2 t3 =>
 A6 PR (Instr.loadAt 23 t1) fun t11 =>
 A0 PR (Instr.build 88 #[(0, t11)]) fun t12 =>
 B1 PR X (Instr.box 88 t12) fun t13 =>
 A0 PR (F2 t13) fun t15 =>
 A0 PR (Instr.fieldAt 88 t15 1) fun t16 =>
 A0 PR (Instr.build 92 #[]) fun t17 =>
 B1 PR X (Instr.box 92 t17) fun t18 =>
 B2 PR X 36 [t16, t18] fun t19 =>
 jn (n := 1) (fun t22 =>
 R (.tuple #[t13, (.int .i64 0)])) fun J1 =>
 A0 PR (Instr.fieldAt 23 t1 1) fun t20 =>
 A6 PR (Instr.loadAt 3 t20) fun t21 =>
 lp (n := 1) (fun L2 t22_1 =>
 A0 PR (binOp .lss 3 t22_1 t21) fun t23 =>
 jn (n := 0) (
 jn (n := 0) (
 A0 PR (binOp .add 3 t22_1 (.int .i64 1)) fun t38 =>
 L2 t38) fun J3 =>
 drw <|
 A0 PR (F2 t13) fun t26 =>
 A0 PR (Instr.fieldAt 88 t26 2) fun t27 =>
 A6 PR (Instr.loadAt 86 t27) fun t28 =>
 A0 PR (Instr.fieldAt 23 t1 2) fun t29 =>
 A6 PR (Instr.loadAt 3 t29) fun t30 =>
 B2 PR X 37 [t30] fun t31 =>
 watch PR [(none, (Instr.loadAt 86 t27), t28)] <|
 A0 PR (Instr.build 103 #[(1, t31)]) fun t32 =>
 B1 PR X (Instr.box 103 t32) fun t33 =>
 watch PR [(none, (Instr.loadAt 86 t27), t28)] <|
 B1 PR X (Instr.buildSlice 86 1 #[(0, t33)]) fun t34 =>
 watch PR [(none, (Instr.loadAt 86 t27), t28)] <|
 B1 PR X (A8 .append #[86, 86] 86 [t28, t34]) fun t35 =>
 A0 PR (F2 t13) fun t36 =>
 A0 PR (Instr.fieldAt 88 t36 2) fun t37 =>
 C1 PR X (Instr.storeAt 86 t37 t35) <|
 J3) fun J4 =>
 C3 t23 (
 J4) (
 J1 t22_1)) (.int .i64 0)) fun J5 =>
 A6 PR (Instr.loadAt 23 t1) fun t6 =>
 B2 PR X 35 [t6] fun t7 =>
 A0 PR (binOp .neq 28 t7 (.int .i64 0)) fun t9 =>
 C3 t9 (
 R (.tuple #[(.pointer none), t7])) (
 J5 (.pointer none) (.int .i64 0))
theorem A7e : A9 PR 10 := A7 Tryz.func10 (by kernel_rfl) rfl
theorem A8Q {X : Nat → Prop} {t0 : Value} {R : Value → WP} {w : World} (h : A2b X t0 R w) : Fn PR X 10 #[t0] w R := D2 (args := [t0]) mixed Tryz.func10 (by kernel_rfl) h
def m4 (X : Nat → Prop) (t0 t1 t2 : Value) (R : Value → WP) : WP :=
 B1 PR X (Instr.box 42 t1) fun t4 =>
 B1 PR X (Instr.alloc 39 true (.tuple #[])) fun t6 =>
 jn (n := 0) (
 A0 PR (Instr.build 39 #[(0, (.int .i64 1))]) fun t33 =>
 C1 PR X (Instr.storeAt 39 t6 t33) <|
 A6 PR (E3 [.c 39 t6]) R) fun J1 =>
 A0 PR (Instr.fieldAt 42 t4 0) fun t7 =>
 A6 PR (Instr.loadAt 3 t7) fun t8 =>
 A0 PR (binOp .eql 3 t8 (.int .i64 0)) fun t10 =>
 C3 t10 (
 A0 PR (Instr.fieldAt 42 t4 1) fun t12 =>
 A6 PR (Instr.loadAt 9 t12) fun t13 =>
 B2 PR X 24 [t0, t13, t2] fun t15 =>
 C1 PR X (Instr.storeAt 39 t6 t15) <|
 A6 PR (E3 [.c 39 t6]) R) (
 A0 PR (binOp .eql 3 t8 (.int .i64 1)) fun t17 =>
 C3 t17 (
 A0 PR (Instr.fieldAt 42 t4 2) fun t19 =>
 A6 PR (Instr.loadAt 32 t19) fun t20 =>
 B2 PR X 26 [t0, t20] fun t21 =>
 C1 PR X (Instr.storeAt 39 t6 t21) <|
 A6 PR (E3 [.c 39 t6]) R) (
 A0 PR (binOp .eql 3 t8 (.int .i64 2)) fun t23 =>
 C3 t23 (
 A0 PR (Instr.fieldAt 42 t4 3) fun t25 =>
 A6 PR (Instr.loadAt 3 t25) fun t26 =>
 B2 PR X 27 [t0, t26, t2] fun t28 =>
 C1 PR X (Instr.storeAt 39 t6 t28) <|
 A6 PR (E3 [.c 39 t6]) R) (
 A0 PR (binOp .eql 3 t8 (.int .i64 3)) fun t30 =>
 C3 t30 (
 B2 PR X 20 [t0] fun t32 =>
 C1 PR X (Instr.storeAt 39 t6 t32) <|
 A6 PR (E3 [.c 39 t6]) R) (
 J1))))
theorem A12 : A9 PR 13 := A7 Tryz.func13 (by kernel_rfl) rfl
theorem A2U {X : Nat → Prop} {t0 t1 t2 : Value} {R : Value → WP} {w : World} (h : m4 X t0 t1 t2 R w) : Fn PR X 13 #[t0, t1, t2] w R := D2 (args := [t0, t1, t2]) mixed Tryz.func13 (by kernel_rfl) h
def T4 (X : Nat → Prop) (t0 : Value) (R : Value → WP) : WP :=
 A0 PR (F2 t0) fun t7 =>
 A0 PR (Instr.fieldAt 88 t7 2) fun t8 =>
 A6 PR (Instr.loadAt 86 t8) fun t9 =>
 B2 PR X 46 [t9] fun t10 =>
 isf t10 (
 jn (n := 2) (fun t3 t16 =>
 dfr PR X t10 (R t3)) fun J1 =>
 A0 PR (F2 t0) fun t12 =>
 A0 PR (Instr.fieldAt 88 t12 2) fun t13 =>
 A6 PR (Instr.loadAt 86 t13) fun t14 =>
 A0 PR (A8 .len #[86] 0 [t14]) fun t15 =>
 lp (n := 2) (fun L2 t3_1 t16_1 =>
 A0 PR (binOp .lss 3 t16_1 t15) fun t17 =>
 jn (n := 0) (
 jn (n := 1) (fun t3_2 =>
 A0 PR (binOp .add 3 t16_1 (.int .i64 1)) fun t27 =>
 L2 t3_2 t27) fun J3 =>
 A0 PR (Instr.indexAt 86 t14 t16_1) fun t18 =>
 A6 PR (Instr.loadAt 93 t18) fun t19 =>
 A0 PR (F2 t19) fun t22 =>
 A0 PR (Instr.fieldAt 103 t22 1) fun t23 =>
 A6 PR (Instr.loadAt 94 t23) fun t24 =>
 B2 PR X 47 [t24] fun t25 =>
 B1 PR X (A8 .append #[48, 48] 48 [t3_1, t25]) fun t26 =>
 J3 t26) fun J4 =>
 C3 t17 (
 J4) (
 J1 t3_1 t16_1)) (.slice none 0 0) (.int .i64 0))
theorem A0M (X : Nat → Prop) (t0 : Value) (R : Value → WP) : A5Q PR X Tryz.f16 [t0] R = T4 X t0 R := by kernel_rfl
theorem f7 : A9 PR 16 := A7 Tryz.func16 (by kernel_rfl) rfl
theorem A1S {X : Nat → Prop} {t0 : Value} {R : Value → WP} {w : World} (h : T4 X t0 R w) : Fn PR X 16 #[t0] w R := A5z (args := [t0]) mixed Tryz.func16 (by rw [A0M]; exact h)
def g6 (X : Nat → Prop) (t0 : Value) (R : Value → WP) : WP :=
 A0 PR (F2 t0) fun t4 =>
 A0 PR (Instr.fieldAt 88 t4 1) fun t5 =>
 B2 PR X 50 [t5] fun t6 =>
 A0 PR (F2 t6) fun t7 =>
 A0 PR (Instr.fieldAt 92 t7 0) fun t8 =>
 A6 PR (Instr.loadAt 32 t8) fun t9 =>
 B2 PR X 49 [t9] fun t10 =>
 R t10
theorem A07 : A9 PR 19 := A7 Tryz.func19 (by kernel_rfl) rfl
theorem A1P {X : Nat → Prop} {t0 : Value} {R : Value → WP} {w : World} (h : g6 X t0 R w) : Fn PR X 19 #[t0] w R := D2 (args := [t0]) mixed Tryz.func19 (by kernel_rfl) h
def f5 (X : Nat → Prop) (t0 : Value) (R : Value → WP) : WP :=
 B1 PR X (Instr.alloc 39 true (.tuple #[])) fun t2 =>
 B2 PR X 16 [t0] fun t4 =>
 A0 PR (A8 .len #[48] 0 [t4]) fun t5 =>
 A0 PR (Instr.build 39 #[(3, t5)]) fun t6 =>
 C1 PR X (Instr.storeAt 39 t2 t6) <|
 A6 PR (E3 [.c 39 t2]) R
theorem b8 : A9 PR 20 := A7 Tryz.func20 (by kernel_rfl) rfl
theorem A09 {X : Nat → Prop} {t0 : Value} {R : Value → WP} {w : World} (h : f5 X t0 R w) : Fn PR X 20 #[t0] w R := D2 (args := [t0]) mixed Tryz.func20 (by kernel_rfl) h
def N8 (X : Nat → Prop) (t0 t1 t2 : Value) (R : Value → WP) : WP :=
 B1 PR X (Instr.alloc 39 true (.tuple #[])) fun t6 =>
 B2 PR X 56 [t1] fun t14 =>
 A0 PR (Instr.extract t14 0) fun t15 =>
 A0 PR (Instr.extract t14 1) fun t16 =>
 B1 PR X (Instr.alloc 58 true (.tuple #[])) fun t7 =>
 C1 PR X (Instr.storeAt 58 t7 t15) <|
 A0 PR (binOp .neq 28 t16 (.int .i64 0)) fun t18 =>
 C3 t18 (
 A0 PR (Instr.build 39 #[(0, (.int .i64 9))]) fun t19 =>
 C1 PR X (Instr.storeAt 39 t6 t19) <|
 A6 PR (E3 [.c 39 t6]) R) (
 A0 PR (Instr.fieldAt 58 t7 0) fun t21 =>
 A6 PR (Instr.loadAt 56 t21) fun t22 =>
 B2 PR X 23 [t22] fun t23 =>
 A0 PR (Instr.extract t23 0) fun t24 =>
 A0 PR (Instr.extract t23 1) fun t25 =>
 drw <|
 A0 PR (F2 t0) fun t27 =>
 A0 PR (Instr.fieldAt 88 t27 2) fun t28 =>
 A6 PR (Instr.loadAt 86 t28) fun t29 =>
 A0 PR (F2 t0) fun t32 =>
 A0 PR (Instr.fieldAt 88 t32 2) fun t33 =>
 A6 PR (Instr.loadAt 86 t33) fun t34 =>
 A0 PR (A8 .len #[86] 0 [t34]) fun t35 =>
 B2 PR X 57 [t24, t35] fun t36 =>
 watch PR [(none, (Instr.loadAt 86 t28), t29)] <|
 A0 PR (Instr.indexAt 86 t29 t36) fun t37 =>
 A6 PR (Instr.loadAt 93 t37) fun t38 =>
 B1 PR X (Instr.buildSlice 86 1 #[(0, t38)]) fun t40 =>
 B2 PR X 46 [t40] fun t41 =>
 isf t41 (
 drw <|
 A0 PR (F2 t0) fun t44 =>
 A0 PR (Instr.fieldAt 88 t44 1) fun t45 =>
 A6 PR (Instr.loadAt 58 t7) fun t48 =>
 A0 PR (F2 t0) fun t52 =>
 A0 PR (Instr.fieldAt 88 t52 0) fun t53 =>
 A0 PR (Instr.fieldAt 23 t53 3) fun t54 =>
 A6 PR (Instr.loadAt 3 t54) fun t55 =>
 B2 PR X 50 [t45] fun t46 =>
 watch PR [(none, (Instr.loadAt 3 t54), t55), (none, (Instr.loadAt 58 t7), t48)] <|
 B2 PR X 22 [t48] fun t49 =>
 watch PR [(none, (Instr.loadAt 3 t54), t55)] <|
 B2 PR X 58 [t38, t46, t24, t49, t2, t55] fun t56 =>
 C1 PR X (Instr.storeAt 39 t6 t56) <|
 dfr PR X t41 (A6 PR (E3 [.c 39 t6]) R)))
theorem q6 (X : Nat → Prop) (t0 t1 t2 : Value) (R : Value → WP) : A5Q PR X Tryz.f24 [t0, t1, t2] R = N8 X t0 t1 t2 R := by kernel_rfl
theorem W7 : A9 PR 24 := A7 Tryz.func24 (by kernel_rfl) rfl
theorem y7 {X : Nat → Prop} {t0 t1 t2 : Value} {R : Value → WP} {w : World} (h : N8 X t0 t1 t2 R w) : Fn PR X 24 #[t0, t1, t2] w R := A5z (args := [t0, t1, t2]) mixed Tryz.func24 (by rw [q6]; exact h)
def c7 (X : Nat → Prop) (t0 t1 : Value) (R : Value → WP) : WP :=
 B1 PR X (Instr.alloc 39 true (.tuple #[])) fun t4 =>
 jn (n := 0) (
 drw <|
 A0 PR (F2 t0) fun t13 =>
 A0 PR (Instr.fieldAt 88 t13 1) fun t14 =>
 B2 PR X 49 [t1] fun t16 =>
 B2 PR X 59 [t1] fun t18 =>
 A0 PR (Instr.build 92 #[(0, t16), (1, t18)]) fun t19 =>
 B1 PR X (Instr.box 92 t19) fun t20 =>
 B2 PR X 36 [t14, t20] fun t21 =>
 A0 PR (Instr.build 39 #[]) fun t22 =>
 C1 PR X (Instr.storeAt 39 t4 t22) <|
 A6 PR (E3 [.c 39 t4]) R) fun J1 =>
 B2 PR X 32 [t1] fun t7 =>
 A0 PR (binOp .neq 28 t7 (.int .i64 0)) fun t9 =>
 C3 t9 (
 A0 PR (Instr.build 39 #[(0, t7)]) fun t11 =>
 C1 PR X (Instr.storeAt 39 t4 t11) <|
 A6 PR (E3 [.c 39 t4]) R) (
 J1)
theorem Z3 : A9 PR 26 := A7 Tryz.func26 (by kernel_rfl) rfl
theorem A0b {X : Nat → Prop} {t0 t1 : Value} {R : Value → WP} {w : World} (h : c7 X t0 t1 R w) : Fn PR X 26 #[t0, t1] w R := D2 (args := [t0, t1]) mixed Tryz.func26 (by kernel_rfl) h
def Q2 (X : Nat → Prop) (t0 t1 t2 : Value) (R : Value → WP) : WP :=
 B1 PR X (Instr.alloc 39 true (.tuple #[])) fun t6 =>
 A0 PR (binOp .lss 3 t1 (.int .i64 0)) fun t10 =>
 gj t10 false (fun J => J t1) fun t12 =>
 gj t10 false (fun J => J t0) fun t13 =>
 gj t10 false (fun J => A0 PR (F2 t13) J) fun t14 =>
 gj t10 false (fun J => A0 PR (Instr.fieldAt 88 t14 2) J) fun t15 =>
 gj t10 false (fun J => A6 PR (Instr.loadAt 86 t15) J) fun t16 =>
 gj t10 false (fun J => A0 PR (A8 .len #[86] 0 [t16]) J) fun t17 =>
 gj t10 false (fun J => A0 PR (binOp .geq 3 t12 t17) J) fun t18 =>
 A0 PR (do pure (if ← asBool t10 then (.bool true) else t18)) fun t19 =>
 C3 t19 (
 A0 PR (Instr.build 39 #[(0, (.int .i64 1))]) fun t20 =>
 C1 PR X (Instr.storeAt 39 t6 t20) <|
 A6 PR (E3 [.c 39 t6]) R) (
 A0 PR (F2 t0) fun t22 =>
 A0 PR (Instr.fieldAt 88 t22 2) fun t23 =>
 A6 PR (Instr.loadAt 86 t23) fun t24 =>
 A0 PR (Instr.indexAt 86 t24 t1) fun t26 =>
 A6 PR (Instr.loadAt 93 t26) fun t27 =>
 B1 PR X (Instr.buildSlice 86 1 #[(0, t27)]) fun t29 =>
 B2 PR X 46 [t29] fun t30 =>
 isf t30 (
 B1 PR X (Instr.alloc 39 true (.tuple #[])) fun t8 =>
 drw <|
 A0 PR (F2 t27) fun t35 =>
 A0 PR (Instr.fieldAt 103 t35 1) fun t36 =>
 A6 PR (Instr.loadAt 94 t36) fun t37 =>
 A0 PR (F2 t27) fun t39 =>
 A0 PR (Instr.fieldAt 103 t39 2) fun t40 =>
 A6 PR (Instr.loadAt 3 t40) fun t41 =>
 B2 PR X 60 [t37, t41, (.int .i64 4), t2] fun t43 =>
 A0 PR (Instr.extract t43 0) fun t44 =>
 A0 PR (Instr.extract t43 1) fun t45 =>
 A0 PR (Instr.extract t43 2) fun t46 =>
 A0 PR (F2 t27) fun t47 =>
 A0 PR (Instr.fieldAt 103 t47 1) fun t48 =>
 C1 PR X (Instr.storeAt 94 t48 t44) <|
 A0 PR (F2 t27) fun t49 =>
 A0 PR (Instr.fieldAt 103 t49 2) fun t50 =>
 C1 PR X (Instr.storeAt 3 t50 t45) <|
 A0 PR (Instr.fieldAt 39 t8 3) fun t51 =>
 C1 PR X (Instr.storeAt 3 t51 t46) <|
 A6 PR (Instr.loadAt 39 t8) fun t52 =>
 C1 PR X (Instr.storeAt 39 t6 t52) <|
 dfr PR X t30 (A6 PR (E3 [.c 39 t6]) R)))
theorem y0 (X : Nat → Prop) (t0 t1 t2 : Value) (R : Value → WP) : A5Q PR X Tryz.f27 [t0, t1, t2] R = Q2 X t0 t1 t2 R := by kernel_rfl
theorem a7 : A9 PR 27 := A7 Tryz.func27 (by kernel_rfl) rfl
theorem A0n {X : Nat → Prop} {t0 t1 t2 : Value} {R : Value → WP} {w : World} (h : Q2 X t0 t1 t2 R w) : Fn PR X 27 #[t0, t1, t2] w R := A5z (args := [t0, t1, t2]) mixed Tryz.func27 (by rw [y0]; exact h)
def A0z (X : Nat → Prop) (t0 : Value) (R : Value → WP) : WP :=
 B1 PR X (Instr.box 86 t0) fun t1 =>
 jn (n := 1) (fun t7 =>
 A0 PR (Instr.makeFunc (.func 87) #[] #[t1]) fun t16 =>
 R t16) fun J1 =>
 A6 PR (Instr.loadAt 86 t1) fun t5 =>
 A0 PR (A8 .len #[86] 0 [t5]) fun t6 =>
 lp (n := 1) (fun L2 t7_1 =>
 A0 PR (binOp .lss 3 t7_1 t6) fun t8 =>
 jn (n := 0) (
 jn (n := 0) (
 A0 PR (binOp .add 3 t7_1 (.int .i64 1)) fun t15 =>
 L2 t15) fun J3 =>
 A0 PR (Instr.indexAt 86 t5 t7_1) fun t9 =>
 A6 PR (Instr.loadAt 93 t9) fun t10 =>
 A0 PR (F2 t10) fun t12 =>
 A0 PR (Instr.fieldAt 103 t12 0) fun t13 =>
 B2 PR X 86 [t13] fun t14 =>
 J3) fun J4 =>
 C3 t8 (
 J4) (
 J1 t7_1)) (.int .i64 0)
theorem g5 : A9 PR 46 := A7 Tryz.func46 (by kernel_rfl) rfl
theorem A5m {X : Nat → Prop} {t0 : Value} {R : Value → WP} {w : World} (h : A0z X t0 R w) : Fn PR X 46 #[t0] w R := D2 (args := [t0]) mixed Tryz.func46 (by kernel_rfl) h
def j4 (X : Nat → Prop) (t0 t1 t2 t3 t4 t5 : Value) (R : Value → WP) : WP :=
 B1 PR X (Instr.alloc 39 true (.tuple #[])) fun t12 =>
 B2 PR X 103 [t0, t1, t2, t4] fun t24 =>
 A0 PR (Instr.extract t24 0) fun t25 =>
 A0 PR (Instr.extract t24 1) fun t26 =>
 jn (n := 1) (fun t13 =>
 jn (n := 0) (
 A0 PR (F2 t0) fun t56 =>
 A0 PR (Instr.fieldAt 103 t56 1) fun t57 =>
 A6 PR (Instr.loadAt 94 t57) fun t58 =>
 A0 PR (binOp .add 3 t4 t5) fun t63 =>
 B2 PR X 106 [t58, t2, t13, t63] fun t64 =>
 A0 PR (Instr.extract t64 0) fun t65 =>
 A0 PR (Instr.extract t64 1) fun t66 =>
 A0 PR (F2 t0) fun t69 =>
 A0 PR (Instr.fieldAt 103 t69 1) fun t70 =>
 C1 PR X (Instr.storeAt 94 t70 t65) <|
 jn (n := 0) (
 A0 PR (Op.unary .not t26) fun t77 =>
 A0 PR (Instr.build 39 #[(1, t13), (2, t77)]) fun t78 =>
 C1 PR X (Instr.storeAt 39 t12 t78) <|
 A6 PR (E3 [.c 39 t12]) R) fun J1 =>
 A0 PR (binOp .neq 28 t66 (.int .i64 0)) fun t72 =>
 C3 t72 (
 A0 PR (Instr.build 39 #[(0, t66)]) fun t74 =>
 C1 PR X (Instr.storeAt 39 t12 t74) <|
 A6 PR (E3 [.c 39 t12]) R) (
 J1)) fun J2 =>
 C3 t3 (
 A0 PR (F2 t0) fun t43 =>
 A0 PR (Instr.fieldAt 103 t43 1) fun t44 =>
 A6 PR (Instr.loadAt 94 t44) fun t45 =>
 B2 PR X 105 [t45, t2] fun t47 =>
 A0 PR (Instr.extract t47 0) fun t48 =>
 A0 PR (Instr.extract t47 1) fun t49 =>
 A0 PR (F2 t0) fun t50 =>
 A0 PR (Instr.fieldAt 103 t50 1) fun t51 =>
 C1 PR X (Instr.storeAt 94 t51 t48) <|
 A0 PR (Instr.build 39 #[(1, t13)]) fun t53 =>
 C1 PR X (Instr.storeAt 39 t12 t53) <|
 A6 PR (E3 [.c 39 t12]) R) (
 J2)) fun J3 =>
 A0 PR (Op.unary .not t26) fun t28 =>
 C3 t28 (
 B2 PR X 104 [t1, t2] fun t32 =>
 A0 PR (Instr.extract t32 0) fun t33 =>
 A0 PR (Instr.extract t32 1) fun t34 =>
 jn (n := 0) (
 J3 t33) fun J4 =>
 A0 PR (Op.unary .not t34) fun t36 =>
 C3 t36 (
 A0 PR (Instr.build 39 #[(0, (.int .i64 11))]) fun t37 =>
 C1 PR X (Instr.storeAt 39 t12 t37) <|
 A6 PR (E3 [.c 39 t12]) R) (
 J4)) (
 J3 t25)
theorem A1Q : A9 PR 58 := A7 Tryz.func58 (by kernel_rfl) rfl
theorem A2F {X : Nat → Prop} {t0 t1 t2 t3 t4 t5 : Value} {R : Value → WP} {w : World} (h : j4 X t0 t1 t2 t3 t4 t5 R w) : Fn PR X 58 #[t0, t1, t2, t3, t4, t5] w R := D2 (args := [t0, t1, t2, t3, t4, t5]) mixed Tryz.func58 (by kernel_rfl) h
def r8 (X : Nat → Prop) (t0 : Value) (R : Value → WP) : WP :=
 A6 PR (Instr.loadAt 86 t0) fun t3 =>
 B2 PR X 88 [t3] fun t4 =>
 rng (N := 2) PR X (fun t5 t6 K1 =>
 bgn <|
 A0 PR (F2 t6) fun t8 =>
 A0 PR (Instr.fieldAt 103 t8 0) fun t9 =>
 B2 PR (fun _ => False) 89 [t9] fun t10 =>
 K1 none) t4 (fun j => match j with | none => (U2 (R (.tuple #[]))) | some (.exit i) => (match Nat.beq i 0 with | true => (U2 (R (.tuple #[]))) | false => (D8)) | some .ret => (U2 (R (.tuple #[]))) | some _ => D8)
theorem A1u (X : Nat → Prop) (t0 : Value) (R : Value → WP) : A6T PR X Tryz.f87 [t0] R = r8 X t0 R := by kernel_rfl
theorem Y9 : A9 PR 87 := A7 Tryz.func87 (by kernel_rfl) rfl
def m6 (X : Nat → Prop) (t0 t1 t2 t3 : Value) (R : Value → WP) : WP :=
 A0 PR (F2 t0) fun t12 =>
 A0 PR (Instr.fieldAt 103 t12 1) fun t13 =>
 A6 PR (Instr.loadAt 94 t13) fun t14 =>
 B2 PR X 150 [t14, t2] fun t16 =>
 jn (n := 2) (fun t8 t9 =>
 A0 PR (F2 t0) fun t45 =>
 A0 PR (Instr.fieldAt 103 t45 1) fun t46 =>
 A6 PR (Instr.loadAt 94 t46) fun t47 =>
 A0 PR (Instr.indexAt 94 t47 t16) fun t49 =>
 A0 PR (Instr.fieldAt 160 t49 2) fun t50 =>
 A6 PR (Instr.loadAt 3 t50) fun t51 =>
 R (.tuple #[t51, (.bool true)])) fun J1 =>
 A0 PR (binOp .lss 3 t16 (.int .i64 0)) fun t18 =>
 gj t18 false (fun J => J t0) fun t20 =>
 gj t18 false (fun J => A0 PR (F2 t20) J) fun t21 =>
 gj t18 false (fun J => A0 PR (Instr.fieldAt 103 t21 1) J) fun t22 =>
 gj t18 false (fun J => A6 PR (Instr.loadAt 94 t22) J) fun t23 =>
 gj t18 false (fun J => J t16) fun t24 =>
 gj t18 false (fun J => A0 PR (Instr.indexAt 94 t23 t24) J) fun t25 =>
 gj t18 false (fun J => A0 PR (Instr.fieldAt 160 t25 3) J) fun t26 =>
 gj t18 false (fun J => A6 PR (Instr.loadAt 3 t26) J) fun t27 =>
 gj t18 false (fun J => J t3) fun t28 =>
 gj t18 false (fun J => A0 PR (binOp .lss 3 t27 t28) J) fun t29 =>
 A0 PR (do pure (if ← asBool t18 then (.bool true) else t29)) fun t30 =>
 gj t30 false (fun J => J t1) fun t32 =>
 gj t30 false (fun J => J t0) fun t33 =>
 gj t30 false (fun J => A0 PR (F2 t33) J) fun t34 =>
 gj t30 false (fun J => A0 PR (Instr.fieldAt 103 t34 1) J) fun t35 =>
 gj t30 false (fun J => A6 PR (Instr.loadAt 94 t35) J) fun t36 =>
 gj t30 false (fun J => J t16) fun t37 =>
 gj t30 false (fun J => A0 PR (Instr.indexAt 94 t36 t37) J) fun t38 =>
 gj t30 false (fun J => A0 PR (Instr.fieldAt 160 t38 2) J) fun t39 =>
 gj t30 false (fun J => A6 PR (Instr.loadAt 3 t39) J) fun t40 =>
 gj t30 false (fun J => B2 PR X 151 [t32, t40] J) fun t41 =>
 gj t30 false (fun J => A0 PR (Op.unary .not t41) J) fun t42 =>
 A0 PR (do pure (if ← asBool t30 then (.bool true) else t42)) fun t43 =>
 C3 t43 (
 R (.tuple #[(.int .i64 0), (.bool false)])) (
 J1 (.int .i64 0) (.bool false))
theorem A1m : A9 PR 103 := A7 Tryz.func103 (by kernel_rfl) rfl
theorem A2Q {X : Nat → Prop} {t0 t1 t2 t3 : Value} {R : Value → WP} {w : World} (h : m6 X t0 t1 t2 t3 R w) : Fn PR X 103 #[t0, t1, t2, t3] w R := D2 (args := [t0, t1, t2, t3]) mixed Tryz.func103 (by kernel_rfl) h
def j0 (X : Nat → Prop) (t0 t1 : Value) (R : Value → WP) : WP :=
 drw <|
 A0 PR (F2 t0) fun t7 =>
 A0 PR (Instr.fieldAt 92 t7 1) fun t8 =>
 A6 PR (Instr.loadAt 90 t8) fun t9 =>
 A0 PR (F2 t0) fun t14 =>
 A0 PR (Instr.fieldAt 92 t14 0) fun t15 =>
 A6 PR (Instr.loadAt 32 t15) fun t16 =>
 A0 PR (A8 .len #[32] 0 [t16]) fun t17 =>
 A0 PR (binOp .gtr 3 t17 (.int .i64 0)) fun t18 =>
 B2 PR X 102 [t1] fun t11 =>
 watch PR [(none, (Instr.loadAt 32 t15), t16), (none, (Instr.loadAt 90 t8), t9)] <|
 B2 PR X 152 [t9, t11] fun t12 =>
 watch PR [(none, (Instr.loadAt 32 t15), t16)] <|
 R (.tuple #[t12, t18])
theorem e6 : A9 PR 104 := A7 Tryz.func104 (by kernel_rfl) rfl
theorem A1a {X : Nat → Prop} {t0 t1 : Value} {R : Value → WP} {w : World} (h : j0 X t0 t1 R w) : Fn PR X 104 #[t0, t1] w R := D2 (args := [t0, t1]) mixed Tryz.func104 (by kernel_rfl) h
def k5 (X : Nat → Prop) (t0 t1 : Value) (R : Value → WP) : WP :=
 A0 PR (F2 t0) fun t6 =>
 A0 PR (Instr.fieldAt 92 t6 0) fun t7 =>
 A6 PR (Instr.loadAt 32 t7) fun t8 =>
 B2 PR X 199 [t8, t1] fun t10 =>
 A0 PR (binOp .geq 3 t10 (.int .i64 0)) fun t11 =>
 R t11
theorem A1b : A9 PR 151 := A7 Tryz.func151 (by kernel_rfl) rfl
theorem A1y {X : Nat → Prop} {t0 t1 : Value} {R : Value → WP} {w : World} (h : k5 X t0 t1 R w) : Fn PR X 151 #[t0, t1] w R := D2 (args := [t0, t1]) mixed Tryz.func151 (by kernel_rfl) h
end Go.Proofs.YtpbmephflllolaaGreat
namespace Go.Proofs.YtpbmephflllolaaGreat
open Go
structure BakAt (w : World) (k : Nat) (pv rv : Value) (p : List G1) : Prop where
 bl : bl w k = some (.cells #[pv, rv] 92 (0, 0))
 rp : F5 w pv p.length (p.flatMap F6)
 rr : F5 w rv (F9 (E6 p)).length ((F9 (E6 p)).flatMap E9)
 len : p.length ≤ 1000
theorem BakAt.ks {κ : Bool} {S : List Nat} {w w' : World} {k : Nat} {pv rv : Value} {p : List G1} (h : BakAt w k pv rv p) (hk : KS κ S w w') (hS : ∀ g ∈ k :: (G3 pv ++ G3 rv), g ∉ S) : BakAt w' k pv rv p :=
 ⟨hk.2.1 _ _ (hS k (by simp)) rfl h.bl, h.rp.ks hk fun g hg => hS g (by simp [hg]), h.rr.ks hk fun g hg => hS g (by simp [hg]), h.len⟩
theorem BakAt.ks0 {κ : Bool} {w w' : World} {k : Nat} {pv rv : Value} {p : List G1} (h : BakAt w k pv rv p) (hk : KS κ [] w w') : BakAt w' k pv rv p := h.ks hk (by simp)
theorem BakAt.c0 {w : World} {k : Nat} {pv rv : Value} {p : List G1} (h : BakAt w k pv rv p) : w.cell? ⟨k, 0, none⟩ = some pv := by rw [G5 h.bl]; rfl
theorem BakAt.c1 {w : World} {k : Nat} {pv rv : Value} {p : List G1} (h : BakAt w k pv rv p) : w.cell? ⟨k, 1, none⟩ = some rv := by rw [G5 h.bl]; rfl
theorem C1M (w : World) (k : Nat) (pv rv : Value) (p : List G1) (id : Int) (h : BakAt w k pv rv p) :
  Fn PR B5 151 #[.pointer (some ⟨k, 0, none⟩), .int .i64 id] w (fun r w' => r = .bool (decide (0 ≤ A4j p id)) ∧ C0 [] w w') := by
 refine Fn.pure (A1y (TW.go (κ := false) (S := []) ?_))
 unfold k5
 have h0 := h.c0
 have hl := h.len
 (have zz:=trivial;repeat((first|clear zz|with_reducible first|refine A3 ?_|refine A5 fun _=>?_|refine A4 fun _=>?_);try simp(disch:=first|omega|assumption|((repeat(first|exact A1|exact uH|apply A2|apply uT));first|done|fail)|(simp;first|done|omega|fail))[h0]))
 refine D1 B0a (fun w' hw' => B3P w' pv p id (by omega) ((h.ks0 hw'.ks).rp)) ?_
 (have zz:=trivial;repeat((first|clear zz|with_reducible first|refine A3 ?_|refine A5 fun _=>?_|refine A4 fun _=>?_);try simp(disch:=first|omega|assumption|((repeat(first|exact A1|exact uH|apply A2|apply uT));first|done|fail)|(simp;first|done|omega|fail))[]))
 exact B0 rfl
theorem B3r (w : World) (k : Nat) (pv rv : Value) (p : List G1) (key : ByteArray) (hk : key.size < 2 ^ 60) (h : BakAt w k pv rv p) :
  Fn PR B5 104 #[.pointer (some ⟨k, 0, none⟩), .string key] w (fun r w' => r = .tuple #[.int .i64 (A6Z p (Z5 key)), .bool (decide (0 < p.length))] ∧ C0 [] w w') := by
 refine Fn.pure (A1a (TW.go (κ := false) (S := []) ?_))
 unfold j0
 have h0 := h.c0
 have h1 := h.c1
 have hl := h.len
 obtain ⟨a, c, hpv, _⟩ := h.rp.form
 obtain ⟨a2, c2, hrv, _⟩ := h.rr.form
 subst hpv hrv
 (have zz:=trivial;repeat((first|clear zz|with_reducible first|refine A3 ?_|refine A5 fun _=>?_|refine A4 fun _=>?_);try simp(disch:=first|omega|assumption|((repeat(first|exact A1|exact uH|apply A2|apply uT));first|done|fail)|(simp;first|done|omega|fail))[h0, h1]))
 refine D1 A0P (fun w' _ => A2c w' key hk) ?_
 (have zz:=trivial;repeat((first|clear zz|with_reducible first|refine A3 ?_|refine A5 fun _=>?_|refine A4 fun _=>?_);try simp(disch:=first|omega|assumption|((repeat(first|exact A1|exact uH|apply A2|apply uT));first|done|fail)|(simp;first|done|omega|fail))[h0, h1]))
 refine D1 B0m (fun w' hw' => B9Y w' _ (F9 (E6 p)) (Z5 key) (by rw [a8]; have := A6V p; omega) ((h.ks0 hw'.ks).rr)) ?_
 (have zz:=trivial;repeat((first|clear zz|with_reducible first|refine A3 ?_|refine A5 fun _=>?_|refine A4 fun _=>?_);try simp(disch:=first|omega|assumption|((repeat(first|exact A1|exact uH|apply A2|apply uT));first|done|fail)|(simp;first|done|omega|fail))[h0, h1]))
 refine B0 ?_
 simp [A6Z]
theorem B5w (w : World) (b k : Nat) (tv pv rv : Value) (l : List EnV) (p : List G1) (key : ByteArray) (now : Int) (hk : key.size < 2 ^ 60) (hn : l.length ≤ 1000000) (hc : w.cell? ⟨b, 2, none⟩ = some tv) (hv : F5 w tv l.length (l.flatMap F1)) (hb : BakAt w k pv rv p) :
  Fn PR B5 103 #[.pointer (some ⟨b, 0, none⟩), .pointer (some ⟨k, 0, none⟩), .string key, .int .i64 now] w (fun r w' => r = .tuple #[.int .i64 (P3 l p key now).1, .bool (P3 l p key now).2] ∧ C0 [] w w') := by
 refine Fn.pure (A2Q (TW.go (κ := false) (S := []) ?_))
 unfold m6
 obtain ⟨a, c, rfl, hr⟩ := hv.form
 (have zz:=trivial;repeat((first|clear zz|with_reducible first|refine A3 ?_|refine A5 fun _=>?_|refine A4 fun _=>?_);try simp(disch:=first|omega|assumption|((repeat(first|exact A1|exact uH|apply A2|apply uT));first|done|fail)|(simp;first|done|omega|fail))[hc]))
 refine D1 l7 (fun w' hw' => u3 w' _ l key hk hn (hv.ks hw'.ks (by simp))) ?_
 by_cases c1 : D5 l key < 0
 ·(have zz:=trivial;repeat((first|clear zz|with_reducible first|refine A3 ?_|refine A5 fun _=>?_|refine A4 fun _=>?_);try simp(disch:=first|omega|assumption|((repeat(first|exact A1|exact uH|apply A2|apply uT));first|done|fail)|(simp;first|done|omega|fail))[c1]))
  exact B0 (by simp [P3, c1])
 obtain ⟨i, hi, hlt⟩ := B55 (l := l) (key := key) (by omega)
 have hx : l[i]? = some (atE l key) := by rw [atE, hi, Int.toNat_natCast]; exact getD_some a6 hlt
 obtain ⟨g, o, rfl, hrow⟩ := hr (by omega)
 have h2 := hrow.cellAt (f := F1) (k := 4) (j := 2) (fun _ => rfl) hx rfl
 have h3 := hrow.cellAt (f := F1) (k := 4) (j := 3) (fun _ => rfl) hx rfl
 have hk1 : P3 l p key now = if (atE l key).dl < now ∨ A4j p (atE l key).bk < 0 then (0, false) else ((atE l key).bk, true) := by simp [P3, c1]
 rw [hk1]
 generalize atE l key = x at *
 rw [hi]
 have hi0 : ¬ ((i : Nat) : Int) < 0 := by omega
 by_cases c2 : x.dl < now
 ·(have zz:=trivial;repeat((first|clear zz|with_reducible first|refine A3 ?_|refine A5 fun _=>?_|refine A4 fun _=>?_);try simp(disch:=first|omega|assumption|((repeat(first|exact A1|exact uH|apply A2|apply uT));first|done|fail)|(simp;first|done|omega|fail))[hi0, hlt, h3, c2, hc]))
  exact B0 (by simp [c2])
 (have zz:=trivial;repeat((first|clear zz|with_reducible first|refine A3 ?_|refine A5 fun _=>?_|refine A4 fun _=>?_);try simp(disch:=first|omega|assumption|((repeat(first|exact A1|exact uH|apply A2|apply uT));first|done|fail)|(simp;first|done|omega|fail))[hi0, hlt, h3, c2, h2, hc]))
 refine D1 A1b (fun w' hw' => C1M w' k pv rv p x.bk (hb.ks0 hw'.ks)) ?_
 by_cases c3 : A4j p x.bk < 0
 ·have c3' : ¬ 0 ≤ A4j p x.bk := by omega
  (have zz:=trivial;repeat((first|clear zz|with_reducible first|refine A3 ?_|refine A5 fun _=>?_|refine A4 fun _=>?_);try simp(disch:=first|omega|assumption|((repeat(first|exact A1|exact uH|apply A2|apply uT));first|done|fail)|(simp;first|done|omega|fail))[c3, c3', hc]))
  exact B0 (by simp [c3])
 ·have c3' : 0 ≤ A4j p x.bk := by omega
  (have zz:=trivial;repeat((first|clear zz|with_reducible first|refine A3 ?_|refine A5 fun _=>?_|refine A4 fun _=>?_);try simp(disch:=first|omega|assumption|((repeat(first|exact A1|exact uH|apply A2|apply uT));first|done|fail)|(simp;first|done|omega|fail))[c3, c3', hlt, h2, hc]))
  exact B0 (by simp [c2, c3])
theorem C1Z {κ : Bool} {S : List Nat} {w0 : World} {H Hj : List Res} {F : Value → WP} {A : (Value → WP) → WP} (v1 : Value) (hF : TW κ S w0 Hj (F v1)) (hA : ∀ J : Value → WP, TW κ S w0 Hj (J v1) → TW κ S w0 H (A J)) : TW κ S w0 H (jn (n := 1) F A) := hA F hF
def Y2 (b : Nat) (lk : Int) (tv : Value) (nx : Int) : Res := .pt b (.cells #[.int .i32 lk, .int .u32 0, tv, .int .i64 nx] 103 (0, 0))
theorem B4g (w : World) (b k : Nat) (lk nx : Int) (tv pv rv : Value) (l : List EnV) (p : List G1) (key : ByteArray) (closing : Bool) (now idle : Int) (hk : key.size < 2 ^ 60) (hks : K9 l) (hn : l.length ≤ 1000000)
  (hb : ∀ w', KS false (B4 [Y2 b lk tv nx, E7 tv l]) w w' → BakAt w' k pv rv p) (hw : LW false (B4 [Y2 b lk tv nx, E7 tv l]) w [Y2 b lk tv nx, E7 tv l] w) :
  Fn PR B5 58 #[.pointer (some ⟨b, 0, none⟩), .pointer (some ⟨k, 0, none⟩), .string key, .bool closing, .int .i64 now, .int .i64 idle] w
   (Rn (B4 [Y2 b lk tv nx, E7 tv l]) w (fun (_ : Value) u => u = (G4 l p key closing now idle).2.1.val) fun r => [Y2 b lk r nx, E7 r (G4 l p key closing now idle).1]) := by
 refine A2F (TW.goH (κ := false) ?_ hw)
 unfold j4
 have hpl : p.length ≤ 1000 := (hb w (KS.refl _ _)).len
 generalize hS : B4 [Y2 b lk tv nx, E7 tv l] = S at *
 simp only [Y2]
 refine A04 (e := 160) (k := 4) (v := tv) (q := l.length) (xs := l.flatMap F1) (by (repeat constructor)) fun ht1 ht2 ht3 => ?_
 (have zz:=trivial;repeat((first|clear zz|with_reducible first|refine A3 ?_|refine A5 fun _=>?_|refine A4 fun _=>?_);try simp(disch:=first|omega|assumption|((repeat(first|exact A1|exact uH|apply A2|apply uT));first|done|fail)|(simp;first|done|omega|fail))[]))
 refine D1 A1m (fun w' hw' => B5w w' b k tv pv rv l p key now hk hn (k6 (o := 2) (hw'.pt (by (repeat constructor))) rfl) (M6.own (e := 160) (k := 4) (by (repeat constructor)) w' hw') (hb w' hw'.ks)) ?_
 rename_i ba
 by_cases hne : (P3 l p key now).2 = false ∧ p = []
 ·have hd : G4 l p key closing now idle = (l, ⟨11, 0, false, 0⟩, false) := if_pos hne
  obtain ⟨h1, hp⟩ := hne
  have hp0 : ¬ 0 < p.length := by rw [hp]; simp
  rw [hd]
  (have zz:=trivial;repeat((first|clear zz|with_reducible first|refine A3 ?_|refine A5 fun _=>?_|refine A4 fun _=>?_);try simp(disch:=first|omega|assumption|((repeat(first|exact A1|exact uH|apply A2|apply uT));first|done|fail)|(simp;first|done|omega|fail))[h1]))
  refine D1 e6 (fun w' hw' => B3r w' k pv rv p key hk (hb w' hw'.ks)) ?_
  (have zz:=trivial;repeat((first|clear zz|with_reducible first|refine A3 ?_|refine A5 fun _=>?_|refine A4 fun _=>?_);try simp(disch:=first|omega|assumption|((repeat(first|exact A1|exact uH|apply A2|apply uT));first|done|fail)|(simp;first|done|omega|fail))[hp0]))
  refine D4 tv (by simp [AnsV.val]) ?_
  try simp only [Y2]
  (repeat' constructor)
 have hd : G4 l p key closing now idle = if closing then (x4 l key, ⟨0, c9 l p key now, false, 0⟩, (d8 l key).isSome)
  else match G8 l (A9E l p key now idle) with
   | none => (l, ⟨12, 0, false, 0⟩, false)
   | some u => (u, ⟨0, c9 l p key now, !(P3 l p key now).2, 0⟩, true) := if_neg hne
 rw [B1w, B15]
 refine C1Z (Hj := [.pt ba (.cells #[.int .i64 0, .int .i64 0, .bool false, .int .i64 0] 39), Y2 b lk tv nx, E7 tv l]) (.int .i64 (c9 l p key now)) ?_ ?_
 case refine_2 =>
  intro J hJ
  simp only [Y2] at hJ
  cases h1 : (P3 l p key now).2 with
  | true =>
   have e : c9 l p key now = (P3 l p key now).1 := by simp [c9, h1]
   rw [e] at hJ
   (have zz:=trivial;repeat((first|clear zz|with_reducible first|refine A3 ?_|refine A5 fun _=>?_|refine A4 fun _=>?_);try simp(disch:=first|omega|assumption|((repeat(first|exact A1|exact uH|apply A2|apply uT));first|done|fail)|(simp;first|done|omega|fail))[]))
   exact hJ
  | false =>
   have hp0 : ¬ p = [] := fun h => hne ⟨h1, h⟩
   have hp1 : 0 < p.length := List.length_pos_iff.2 hp0
   have e : c9 l p key now = A6Z p (Z5 key) := by simp [c9, h1]
   rw [e] at hJ
   (have zz:=trivial;repeat((first|clear zz|with_reducible first|refine A3 ?_|refine A5 fun _=>?_|refine A4 fun _=>?_);try simp(disch:=first|omega|assumption|((repeat(first|exact A1|exact uH|apply A2|apply uT));first|done|fail)|(simp;first|done|omega|fail))[]))
   refine D1 e6 (fun w' hw' => B3r w' k pv rv p key hk (hb w' hw'.ks)) ?_
   (have zz:=trivial;repeat((first|clear zz|with_reducible first|refine A3 ?_|refine A5 fun _=>?_|refine A4 fun _=>?_);try simp(disch:=first|omega|assumption|((repeat(first|exact A1|exact uH|apply A2|apply uT));first|done|fail)|(simp;first|done|omega|fail))[hp1]))
   exact hJ
 ·rw [hd]
  simp only [Y2]
  cases closing with
  | true =>
   (have zz:=trivial;repeat((first|clear zz|with_reducible first|refine A3 ?_|refine A5 fun _=>?_|refine A4 fun _=>?_);try simp(disch:=first|omega|assumption|((repeat(first|exact A1|exact uH|apply A2|apply uT));first|done|fail)|(simp;first|done|omega|fail))[]))
   refine M8 A7V (fun w' hw' => A9j w' tv l key hk hks hn (M6.own (e := 160) (k := 4) (by (repeat constructor)) w' hw')) ?_
   rintro r _ rfl
   cases h2 : (d8 l key).isSome with
   | true =>
    refine A04 (e := 160) (k := 4) (v := r) (q := (x4 l key).length) (xs := (x4 l key).flatMap F1) (by (repeat constructor)) fun hr1 hr2 hr3 => ?_
    (have zz:=trivial;repeat((first|clear zz|with_reducible first|refine A3 ?_|refine A5 fun _=>?_|refine A4 fun _=>?_);try simp(disch:=first|omega|assumption|((repeat(first|exact A1|exact uH|apply A2|apply uT));first|done|fail)|(simp;first|done|omega|fail))[hr1]))
    refine D4 r (by simp [AnsV.val]) ?_
    try simp only [Y2]
    (repeat' constructor)
   | false =>
    have hdl : x4 l key = l := by
     cases h3 : d8 l key with
     | none => simp [x4, h3]
     | some u => rw [h3] at h2; cases h2
    (have zz:=trivial;repeat((first|clear zz|with_reducible first|refine A3 ?_|refine A5 fun _=>?_|refine A4 fun _=>?_);try simp(disch:=first|omega|assumption|((repeat(first|exact A1|exact uH|apply A2|apply uT));first|done|fail)|(simp;first|done|omega|fail))[ht1]))
    refine D4 tv (by simp [AnsV.val]) ?_
    simp only [hdl]
    (repeat' constructor)
  | false =>
   (have zz:=trivial;repeat((first|clear zz|with_reducible first|refine A3 ?_|refine A5 fun _=>?_|refine A4 fun _=>?_);try simp(disch:=first|omega|assumption|((repeat(first|exact A1|exact uH|apply A2|apply uT));first|done|fail)|(simp;first|done|omega|fail))[]))
   refine M8 B02 (fun w' hw' => B3V w' tv l key (c9 l p key now) (IntKind.i64.wrap (now + idle)) hk hn (M6.own (e := 160) (k := 4) (by (repeat constructor)) w' hw')) ?_
   rintro r _ rfl
   cases h2 : G8 l (A9E l p key now idle) with
   | none =>
    have h2' : G8 l ⟨1, key, c9 l p key now, IntKind.i64.wrap (now + idle)⟩ = none := h2
    simp only [h2']
    (have zz:=trivial;repeat((first|clear zz|with_reducible first|refine A3 ?_|refine A5 fun _=>?_|refine A4 fun _=>?_);try simp(disch:=first|omega|assumption|((repeat(first|exact A1|exact uH|apply A2|apply uT));first|done|fail)|(simp;first|done|omega|fail))[ht1]))
    refine D4 tv (by simp [AnsV.val]) ?_
    try simp only [Y2]
    (repeat' constructor)
   | some u =>
    have h2' : G8 l ⟨1, key, c9 l p key now, IntKind.i64.wrap (now + idle)⟩ = some u := h2
    simp only [h2']
    simp only [Option.getD_some]
    refine A04 (e := 160) (k := 4) (v := r) (q := u.length) (xs := u.flatMap F1) (by (repeat constructor)) fun hr1 hr2 hr3 => ?_
    (have zz:=trivial;repeat((first|clear zz|with_reducible first|refine A3 ?_|refine A5 fun _=>?_|refine A4 fun _=>?_);try simp(disch:=first|omega|assumption|((repeat(first|exact A1|exact uH|apply A2|apply uT));first|done|fail)|(simp;first|done|omega|fail))[hr1]))
    refine D4 r (by simp [AnsV.val]) ?_
    try simp only [Y2]
    (repeat' constructor)
end Go.Proofs.YtpbmephflllolaaGreat
namespace Go.Proofs.YtpbmephflllolaaGreat
open Go
structure ShB where
 b : Nat
 lk : Int
 tv : Value
 l : List EnV
 nx : Nat
def G0 (t : ShB) : List Res := [Y2 t.b t.lk t.tv (t.nx : Nat), E7 t.tv t.l]
def E5 (z : Int) (t : ShB) : ShB := { t with lk := z }
def B8J (b : Nat) : Value := .pointer (some ⟨b, 0, none⟩)
def T0 (ts : List ShB) : List Value := ts.map fun t => B8J t.b
theorem B8a (ts : List ShB) : (T0 ts).length = ts.length := by simp [T0]
theorem A3f {ts : List ShB} {i : Nat} {t : ShB} (h : ts[i]? = some t) : (T0 ts)[i]? = some (.pointer (some ⟨t.b, 0, none⟩)) := by simp [T0, h, B8J]
def H5 (sv : Value) (ts : List ShB) : Res := .own 93 1 sv ts.length (T0 ts)
abbrev C4y (b : Nat) : Value := .func (.func 87) #[] #[.pointer (some ⟨b, 0, none⟩)]
theorem A5b (w : World) (sv : Value) (ts : List ShB) (hn : ts.length ≤ 1000) (hw : LW false (B4 [H5 sv ts, F3 G0 (ts.map (E5 0))]) w [H5 sv ts, F3 G0 (ts.map (E5 0))] w) :
  Fn PR B5 46 #[sv] w (Rn (B4 [H5 sv ts, F3 G0 (ts.map (E5 0))]) w (fun (bx : Nat) u => u = C4y bx) fun bx => [.pt bx (.cells #[sv] 86), H5 sv ts, F3 G0 (ts.map (E5 1))]) := by
 refine A5m (TW.goH (κ := false) ?_ hw)
 unfold A0z
 generalize B4 [H5 sv ts, F3 G0 (ts.map (E5 0))] = S at *
 simp only [H5]
 refine g7 (e := 93) (k := 1) (v := sv) (q := ts.length) (xs := T0 ts) (by (repeat constructor)) ?_
 rintro sa sc rfl
 (have zz:=trivial;repeat((first|clear zz|with_reducible first|refine A3 ?_|refine A5 fun _=>?_|refine A4 fun _=>?_);try simp(disch:=first|omega|assumption|((repeat(first|exact A1|exact uH|apply A2|apply uT));first|done|fail)|(simp;first|done|omega|fail))[]))
 rename_i bx
 rw [← B8w (E5 1) (E5 0) ts]
 refine C0k ts.length (fun i => [.pt bx (.cells #[.slice sa ts.length sc] 86), H5 (.slice sa ts.length sc) ts, F3 G0 (n7 (E5 1) (E5 0) i ts)]) ?_
 intro i hi L hL
 simp only [H5]
 by_cases hlt : i < ts.length
 ·have hx := List.getElem?_eq_getElem hlt
  have hp := A3f hx
  have hm := B3f (f := E5 1) (g := E5 0) hx
  have hms := B3u (f := E5 1) (g := E5 0) hx
  have hml := A9V (E5 1) (E5 0) i ts
  generalize ts[i] = t at *
  refine A0U (e := 93) (k := 1) (v := .slice sa ts.length sc) (q := ts.length) (xs := T0 ts) (by (repeat constructor)) (by omega) ?_
  rintro g gc hg
  cases hg
  (have zz:=trivial;repeat((first|clear zz|with_reducible first|refine A3 ?_|refine A5 fun _=>?_|refine A4 fun _=>?_);try simp(disch:=first|omega|assumption|((repeat(first|exact A1|exact uH|apply A2|apply uT));first|done|fail)|(simp;first|done|omega|fail))[hlt, hp]))
  refine A3j (f := G0) (i := i) (by (repeat' constructor)) hm ?_
  simp only [G0, E5, Y2, List.cons_append, List.nil_append]
  refine D6 (Hc := [.pt t.b (.cells #[.int .i32 0, .int .u32 0, t.tv, .int .i64 (t.nx : Nat)] 103 (0, 0))]) A46 (fun w' _ hs => B96 w' t.b _ _ _ _ hs) (by (repeat' constructor)) ?_
  rintro _ _ rfl
  refine A53 (f := G0) (y := E5 1 t) (ls := n7 (E5 1) (E5 0) i ts) (i := i) (by simp only [G0, E5, Y2, List.cons_append, List.nil_append]; (repeat' constructor)) (by omega) ?_
  rw [hms]
  (have zz:=trivial;repeat((first|clear zz|with_reducible first|refine A3 ?_|refine A5 fun _=>?_|refine A4 fun _=>?_);try simp(disch:=first|omega|assumption|((repeat(first|exact A1|exact uH|apply A2|apply uT));first|done|fail)|(simp;first|done|omega|fail))[]))
  refine Sels.tw ?_ (hL hlt)
  try simp only [H5]
  (repeat' constructor)
 ·obtain rfl : i = ts.length := by omega
  rw [B8y]
  (have zz:=trivial;repeat((first|clear zz|with_reducible first|refine A3 ?_|refine A5 fun _=>?_|refine A4 fun _=>?_);try simp(disch:=first|omega|assumption|((repeat(first|exact A1|exact uH|apply A2|apply uT));first|done|fail)|(simp;first|done|omega|fail))[]))
  refine D4 bx rfl ?_
  try simp only [H5]
  (repeat' constructor)
abbrev B8r (b : Nat) : Value := .func (.func 136) #[] #[.pointer (some ⟨b, 0, none⟩)]
def A4e (bs : List Value) : List (List Value) := (List.range bs.length).map fun j => [.int .i64 ((bs.length - 1 - j : Nat) : Int), bs.getD (bs.length - 1 - j) (.tuple #[])]
theorem A0p (bs : List Value) : (A4e bs).length = bs.length := by simp [A4e]
theorem B2G {bs : List Value} {m : Nat} {v : Value} (h : bs[m]? = some v) (hi : bs.length - (m + 1) < (A4e bs).length) : (A4e bs)[bs.length - (m + 1)] = [.int .i64 (m : Int), v] := by
 obtain ⟨hm, rfl⟩ := List.getElem?_eq_some_iff.1 h
 simp only [A4e, List.getElem_map, List.getElem_range]
 rw [show bs.length - 1 - (bs.length - (m + 1)) = m by omega]
 simp [List.getD_eq_getElem?_getD, List.getElem?_eq_getElem hm]
theorem B3E (w : World) (v : Value) (hv : ∃ a n c, v = .slice a n c) : Fn PR B5 88 #[v] w (Rn [] w (fun b u => u = B8r b) fun b => [.pt b (.cells #[v] 86)]) := by
 obtain ⟨a, n, c, rfl⟩ := hv
 refine U6 (TW.go (κ := false) (S := []) ?_)
 unfold L0
 (have zz:=trivial;repeat((first|clear zz|with_reducible first|refine A3 ?_|refine A5 fun _=>?_|refine A4 fun _=>?_);try simp(disch:=first|omega|assumption|((repeat(first|exact A1|exact uH|apply A2|apply uT));first|done|fail)|(simp;first|done|omega|fail))[]))
 rename_i b
 exact W5 b rfl (by simp)
theorem B9d (b : Nat) (v : Value) (bs : List Value) (hn : bs.length ≤ 1000) : A1T (B8r b) [.pt b (.cells #[v] 86)] (RqS v bs.length bs) (A4e bs) := by
 refine ⟨_, _, _, rfl, fun y J E hJ hE stJ stE hy w0 h0 => ?_⟩
 obtain ⟨a, c, hv, hr⟩ := (hJ _ _ _ h0).2
 subst hv
 refine S8 (S4 (TW.at (κ := true) ?_ (hJ _ _ _ h0).1))
 unfold H9
 (have zz:=trivial;repeat((first|clear zz|with_reducible first|refine A3 ?_|refine A5 fun _=>?_|refine A4 fun _=>?_);try simp(disch:=first|omega|assumption|((repeat(first|exact A1|exact uH|apply A2|apply uT));first|done|fail)|(simp;first|done|omega|fail))[]))
 refine B4E (α := Nat) (fun m => bs.length - m) (fun _ => _) (· ≤ bs.length) (fun m => m) (fun m => .int .i64 ((m : Int) - 1)) bs.length hJ stJ (by simpa using h0) (Nat.le_refl _) fun m a' hm hJm hRm L hL => ?_
 cases m with
 | zero =>
  (have zz:=trivial;repeat((first|clear zz|with_reducible first|refine A3 ?_|refine A5 fun _=>?_|refine A4 fun _=>?_);try simp(disch:=first|omega|assumption|((repeat(first|exact A1|exact uH|apply A2|apply uT));first|done|fail)|(simp;first|done|omega|fail))[]))
  exact A0u stJ (by rw [A0p]; simpa using hJm)
 | succ m =>
  obtain ⟨_, _, hv, hr⟩ := hRm
  obtain ⟨b', o, hb, hrow, hnb⟩ := hr (by omega)
  cases hv
  subst hb
  have hlt : m < bs.length := by omega
  have hx := List.getElem?_eq_getElem hlt
  have h1 := hrow.get hx
  have hat := fun hi => B2G hx hi
  generalize bs[m] = x at *
  have e : (((m + 1 : Nat) : Int) - 1) = (m : Int) := by omega
  rw [e]
  have hlen : bs.length - m = bs.length - (m + 1) + 1 := by omega
  have hL' := hL m
  simp only [hlen] at hL'
  (have zz:=trivial;repeat((first|clear zz|with_reducible first|refine A3 ?_|refine A5 fun _=>?_|refine A4 fun _=>?_);try simp(disch:=first|omega|assumption|((repeat(first|exact A1|exact uH|apply A2|apply uT));first|done|fail)|(simp;first|done|omega|fail))[hlt, h1]))
  refine A2g hJ hE stJ hy hJm (by rw [A0p]; omega) (hat _) (fun w3 h => ?_) (fun w3 h => ?_)
  ·(have zz:=trivial;repeat((first|clear zz|with_reducible first|refine A3 ?_|refine A5 fun _=>?_|refine A4 fun _=>?_);try simp(disch:=first|omega|assumption|((repeat(first|exact A1|exact uH|apply A2|apply uT));first|done|fail)|(simp;first|done|omega|fail))[]))
   exact fun w' hw' => hL' w' (by omega) (by omega) (stJ _ _ _ _ _ h (hw'.sub (by simp)))
  ·(have zz:=trivial;repeat((first|clear zz|with_reducible first|refine A3 ?_|refine A5 fun _=>?_|refine A4 fun _=>?_);try simp(disch:=first|omega|assumption|((repeat(first|exact A1|exact uH|apply A2|apply uT));first|done|fail)|(simp;first|done|omega|fail))[]))
   exact A0x stE h
theorem RqS.own {e : TypeId} {v : Value} {n : Nat} {xs : List Value} {S : List Nat} {w0 w : World} {A F : List Res} (hm : Res.own e 1 v n xs ∈ A) (hw : LW false S w0 (A ++ F) w) : RqS v n xs F w := by
 have ho : M3 w e 1 v n xs := hw.hold _ (List.mem_append_left _ hm)
 obtain ⟨a, c, rfl, hr⟩ := (M3.rd ho).form
 refine ⟨a, c, rfl, fun hn => ?_⟩
 obtain ⟨b, o, rfl, hrow⟩ := hr hn
 exact ⟨b, o, rfl, hrow, hw.notin hm (by simp [Res.foot, G3])⟩
theorem A5p (w : World) (bx : Nat) (sv : Value) (ts : List ShB) (hn : ts.length ≤ 1000) (hw : LW false (B4 [.pt bx (.cells #[sv] 86), H5 sv ts, F3 G0 (ts.map (E5 1))]) w [.pt bx (.cells #[sv] 86), H5 sv ts, F3 G0 (ts.map (E5 1))] w) :
  FnD PR B5 87 #[.pointer (some ⟨bx, 0, none⟩)] w (Rn (B4 [.pt bx (.cells #[sv] 86), H5 sv ts, F3 G0 (ts.map (E5 1))]) w (fun (_ : Unit) u => u = .tuple #[]) fun _ => [.pt bx (.cells #[sv] 86), H5 sv ts, F3 G0 (ts.map (E5 0))]) := by
 refine B67 (args := [.pointer (some ⟨bx, 0, none⟩)]) mixed Tryz.func87 ?_
 rw [A1u]
 refine TW.goH (κ := false) ?_ hw
 unfold r8
 generalize B4 [.pt bx (.cells #[sv] 86), H5 sv ts, F3 G0 (ts.map (E5 1))] = S at *
 simp only [H5]
 refine g7 (e := 93) (k := 1) (v := sv) (q := ts.length) (xs := T0 ts) (by (repeat constructor)) ?_
 rintro sa sc rfl
 (have zz:=trivial;repeat((first|clear zz|with_reducible first|refine A3 ?_|refine A5 fun _=>?_|refine A4 fun _=>?_);try simp(disch:=first|omega|assumption|((repeat(first|exact A1|exact uH|apply A2|apply uT));first|done|fail)|(simp;first|done|omega|fail))[]))
 refine M8 T8 (fun w' _ => B3E w' (.slice sa ts.length sc) ⟨_, _, _, rfl⟩) ?_
 rintro b _ rfl
 rw [← B8y (E5 1) (E5 0) ts]
 have hpl := B8a ts
 refine TW.eqH (H' := [.pt b (.cells #[.slice sa ts.length sc] 86)] ++ [.pt bx (.cells #[.slice sa ts.length sc] 86), H5 (.slice sa ts.length sc) ts, F3 G0 (n7 (E5 1) (E5 0) (ts.length - 0) ts)]) (by simp [H5]) ?_
 have hit := B9d b (.slice sa ts.length sc) (T0 ts) (by omega)
 rw [hpl] at hit
 refine x7 hit (by simp [A4e]) (fun i (_ : Unit) => i ≤ ts.length) (fun i _ => [.pt bx (.cells #[.slice sa ts.length sc] 86), H5 (.slice sa ts.length sc) ts, F3 G0 (n7 (E5 1) (E5 0) (ts.length - i) ts)])
  (fun c (y : Unit) => False) (fun y => []) () (Nat.zero_le _) ?_ ?_ ?_ ?_ (by rfl)
 ·intro i _ F w1 _ hw1
  exact RqS.own (e := 93) (by simp only [H5]; (repeat constructor)) hw1
 ·rintro i hi _ F _ K' hK _
  have hi' : i < ts.length := by rw [A0p, hpl] at hi; exact hi
  obtain ⟨m, hm⟩ : ∃ m, ts.length - i = m + 1 := ⟨ts.length - i - 1, by omega⟩
  have hmlt : m < ts.length := by omega
  have hx := List.getElem?_eq_getElem hmlt
  have hp := A3f hx
  have hg := B1Y (f := E5 1) (g := E5 0) hx
  have hms := B8A (f := E5 1) (g := E5 0) hx
  have hml := A9V (E5 1) (E5 0) (m + 1) ts
  have hat := B2G hp (by rw [A0p, hpl]; omega)
  have hidx : (T0 ts).length - (m + 1) = i := by omega
  simp only [hidx] at hat
  rw [hat]
  have hK' := hK () (by omega)
  rw [show ts.length - (i + 1) = m by omega] at hK'
  rw [hm]
  generalize ts[m] = t at *
  simp only [VF.app, List.cons_append, List.nil_append]
  (have zz:=trivial;repeat((first|clear zz|with_reducible first|refine A3 ?_|refine A5 fun _=>?_|refine A4 fun _=>?_);try simp(disch:=first|omega|assumption|((repeat(first|exact A1|exact uH|apply A2|apply uT));first|done|fail)|(simp;first|done|omega|fail))[]))
  refine A3j (f := G0) (i := m) (ls := n7 (E5 1) (E5 0) (m + 1) ts) (by (repeat' constructor)) hg ?_
  simp only [G0, E5, Y2, List.cons_append, List.nil_append]
  refine D6 (Hc := [.pt t.b (.cells #[.int .i32 1, .int .u32 0, t.tv, .int .i64 (t.nx : Nat)] 103 (0, 0))]) A31 (fun w' _ hs => B5r w' t.b _ _ _ _ hs) (by (repeat' constructor)) ?_
  rintro _ _ rfl
  refine A53 (f := G0) (y := E5 0 t) (ls := n7 (E5 1) (E5 0) (m + 1) ts) (i := m) (by simp only [G0, E5, Y2, List.cons_append, List.nil_append]; (repeat' constructor)) (by omega) ?_
  rw [hms]
  exact TW.perm hK' ((List.Perm.swap ..).trans (List.Perm.cons _ (List.Perm.swap ..)))
 ·rintro _ _
  rw [A0p, hpl, Nat.sub_self, B8w]
  (have zz:=trivial;repeat((first|clear zz|with_reducible first|refine A3 ?_|refine A5 fun _=>?_|refine A4 fun _=>?_);try simp(disch:=first|omega|assumption|((repeat(first|exact A1|exact uH|apply A2|apply uT));first|done|fail)|(simp;first|done|omega|fail))[]))
  refine D4 () rfl ?_
  try simp only [H5]
  (repeat' constructor)
 ·rintro _ _ h; exact h.elim
theorem FnD.use {P : Program} {X : Nat → Prop} {f : FuncId} {args : Array Value} {w : World} {R K : Value → WP} (h : FnD P B5 f args w R) (hk : ∀ v w', R v w' → Sk B5 w w' → K v w') : FnD P X f args w K :=
 CallsD.mono h fun _ _ w' ⟨v, he, hu, hr, hs⟩ => ⟨v, he, hu, hk v w' hr hs, hs.mono fun _ h => h.elim⟩
theorem B4Z {κ : Bool} {X : Nat → Prop} {S : List Nat} {w0 : World} {H Hk Hc : List Res} {A : WP} {f : FuncId} {first cap : Array Value} {α : Type} {φ : α → Value → Prop} {Hn : α → List Res} (he : A9 PR f)
  (hf : ∀ w, LW κ S w0 H w → LW false (B4 Hc) w Hc w → FnD PR B5 f (first.toList ++ cap.toList).toArray w (Rn (B4 Hc) w φ Hn)) (hp : Part Hc H Hk) (hK : ∀ a v, φ a v → TW κ S w0 (Hn a ++ Hk) A) : TW κ S w0 H (dfr PR X (.func (.func f) first cap) A) := fun w hw =>
 ⟨he, (hf w hw ((hw.perm hp.perm).sub (List.sublist_append_left _ _)).self).use fun v w' ⟨a, h1, h2⟩ hsk => hK a v h1 w' ((hw.perm hp.perm).part (h2.high fun _ => hsk))⟩
theorem B48 {κ : Bool} {S : List Nat} {w0 : World} {H : List Res} {A : WP} {f : FuncId} {first cap : Array Value} (h : TW κ S w0 H A) : TW κ S w0 H (isf (.func (.func f) first cap) A) := fun w hw => ⟨⟨_, _, _, rfl⟩, h w hw⟩
end Go.Proofs.YtpbmephflllolaaGreat
namespace Go.Proofs.YtpbmephflllolaaGreat
open Go
structure BaH where
 b : Nat
 k : Nat
 pv : Value
 rv : Value
 sv : Value
 c : CfgV
 pool : List G1
 ts : List ShB
def BaH.st (m : BaH) : MoS := ⟨m.c, m.pool, m.ts.map fun t => (t.l, t.nx)⟩
def L6 (b k : Nat) (c : CfgV) (sv : Value) : Res := .pt b (.cells #[.int .i64 c.wk, .int .i64 c.sh, .int .i64 c.cp, .int .i64 c.idle, .int .i64 c.sl, .pointer (some ⟨k, 0, none⟩), sv] 88 (0, 0))
def A4B (k : Nat) (pv rv : Value) (p : List G1) : List Res := [.pt k (.cells #[pv, rv] 92 (0, 0)), .own 75 2 pv p.length (p.flatMap F6), .own 217 2 rv (F9 (E6 p)).length ((F9 (E6 p)).flatMap E9)]
def B3 (m : BaH) : List Res := [L6 m.b m.k m.c m.sv, .pt m.k (.cells #[m.pv, m.rv] 92 (0, 0)), .own 75 2 m.pv m.pool.length (m.pool.flatMap F6), .own 217 2 m.rv (F9 (E6 m.pool)).length ((F9 (E6 m.pool)).flatMap E9), H5 m.sv m.ts, F3 G0 (m.ts.map (E5 0))]
abbrev BDo (w : World) (m : BaH) (r : MoS × AnsV) : Value → WP := Rn (B4 (B3 m)) w (fun (m' : BaH) u => u = r.2.val ∧ m'.b = m.b ∧ m'.st = r.1) B3
section
variable {κ : Bool} {S : List Nat} {w0 w : World} {H Hk Hc : List Res} {K : Value → WP}
theorem B7P {k : Nat} {pv rv : Value} {p : List G1} (hw : LW κ S w0 H w) (hp : Part (Hc ++ A4B k pv rv p) H Hk) (hl : p.length ≤ 1000) : ∀ w', KS false (B4 Hc) w w' → BakAt w' k pv rv p := fun w' hk => by
 have h1 := hw.perm hp.perm
 rw [List.append_assoc] at h1
 have hd := (List.pairwise_append.1 h1.dis).2.2
 have st : ∀ r ∈ A4B k pv rv p, r.holds w' := fun r hr =>
  Res.stable (fun b hb o ho e => hk.2.1 b o (fun hf => by
   obtain ⟨s, hs, hbs⟩ := M2.1 hf
   exact hd s hs r (List.mem_append_left _ hr) b hbs hb) ho e) (h1.hold r (List.mem_append_right _ (List.mem_append_left _ hr)))
 exact ⟨(st _ (List.mem_cons_self ..)).1, M3.rd (st (.own 75 2 pv p.length (p.flatMap F6)) (by simp [A4B])), M3.rd (st (.own 217 2 rv (F9 (E6 p)).length ((F9 (E6 p)).flatMap E9)) (by simp [A4B])), hl⟩
end
theorem B9P {X : Nat → Prop} {κ : Bool} {S : List Nat} {w0 : World} {H Hk : List Res} {K : Value → WP} {b k k' : Nat} {c : CfgV} {sv : Value} {d : Array Value} {T2 : TypeId} (hp : Part [L6 b k c sv, .pt k' (.cells d T2 (0, 0))] H Hk) (hd : 0 < d.size)
  (hK : TW κ S w0 (L6 b k' c sv :: .pt k' (.cells d T2 (0, 0)) :: Hk) (K (.tuple #[]))) : TW κ S w0 H (B2 PR X 36 [.pointer (some ⟨b, 5, none⟩), .pointer (some ⟨k', 0, none⟩)] K) := by
 refine TW.perm ?_ hp.perm
 refine D6 (Hc := [L6 b k c sv]) (Hk := .pt k' (.cells d T2 (0, 0)) :: Hk) L4 (fun w' hw' hs => A92 w' b k' _ _ _ _ _ _ _ _ d T2 hd hs (hw'.hold (.pt k' (.cells d T2 (0, 0))) (by simp)).1 (fun e => ?_)) (Part.cons Sel.here Part.nil) ?_
 ·have := (List.pairwise_cons.1 hw'.dis).1 (.pt k' (.cells d T2 (0, 0))) (by simp) b (by simp [L6, Res.foot])
  exact this (by simp [Res.foot, e])
 ·rintro _ _ rfl
  exact hK
theorem B8U (w : World) (m : BaH) (hl : m.pool.length ≤ 1000) (hw : LW false (B4 (B3 m)) w (B3 m) w) :
  Fn PR B5 19 #[.pointer (some ⟨m.b, 0, none⟩)] w (Rn (B4 (B3 m)) w (fun r u => u = r) fun r => .own 75 2 r m.pool.length (m.pool.flatMap F6) :: B3 m) := by
 refine A1P (TW.goH (κ := false) ?_ hw)
 unfold g6
 generalize B4 (B3 m) = S at *
 simp only [B3, L6]
 (have zz:=trivial;repeat((first|clear zz|with_reducible first|refine A3 ?_|refine A5 fun _=>?_|refine A4 fun _=>?_);try simp(disch:=first|omega|assumption|((repeat(first|exact A1|exact uH|apply A2|apply uT));first|done|fail)|(simp;first|done|omega|fail))[]))
 refine D1 L8 (fun w' hw' => B2g w' m.b m.k _ _ _ (hw'.pt (by (repeat constructor))) rfl (hw'.pt (o := .cells #[m.pv, m.rv] 92 (0, 0)) (by (repeat constructor))) rfl) ?_
 refine g7 (e := 75) (k := 2) (v := m.pv) (q := m.pool.length) (xs := m.pool.flatMap F6) (by (repeat constructor)) ?_
 intro pa pc hpv
 rw [hpv]
 (have zz:=trivial;repeat((first|clear zz|with_reducible first|refine A3 ?_|refine A5 fun _=>?_|refine A4 fun _=>?_);try simp(disch:=first|omega|assumption|((repeat(first|exact A1|exact uH|apply A2|apply uT));first|done|fail)|(simp;first|done|omega|fail))[]))
 refine M8 N2 (fun w' hw' => B0A w' (.slice pa m.pool.length pc) m.pool.length (m.pool.flatMap F6) (by omega) (P8 (k := 2) (fun _ => rfl) _) (A8n _) (M6.own (e := 75) (k := 2) (by (repeat constructor)) w' hw')) ?_
 rintro _ r rfl
 refine D4 r rfl ?_
 try simp only [B3, L6, hpv]
 (repeat' constructor)
structure PoolBt (w : World) (m : BaH) (v : Value) (p : List G1) : Prop where
 rd : F5 w v p.length (p.flatMap F6)
 off : 0 < p.length → ∀ g ∈ G3 v, g ∉ B4 (B3 m)
 len : p.length ≤ 1000
 form : v.cells = #[v] ∧ plain v = true
theorem PoolBt.at {w w' : World} {m : BaH} {v : Value} {p : List G1} {κ : Bool} (h : PoolBt w m v p) (hk : KS κ (B4 (B3 m)) w w') : F5 w' v p.length (p.flatMap F6) :=
 h.rd.ks0 (fun e => by rw [List.length_eq_zero_iff.1 e]; rfl) hk h.off
theorem A8E (w : World) (m : BaH) (p : List G1) (v : Value) (hv : PoolBt w m v p) (hw : LW false (B4 (B3 m)) w (B3 m) w) :
  Fn PR B5 26 #[.pointer (some ⟨m.b, 0, none⟩), v] w (BDo w m (A55 m.st p)) := by
 refine A0b (TW.goH (κ := false) ?_ hw)
 unfold c7
 obtain ⟨a, c, hvf, _⟩ := hv.rd.form
 have hv2 := hv
 subst hvf
 have hlen := hv.len
 unfold BDo
 generalize hS : B4 (B3 m) = S at *
 simp only [B3, L6]
 (have zz:=trivial;repeat((first|clear zz|with_reducible first|refine A3 ?_|refine A5 fun _=>?_|refine A4 fun _=>?_);try simp(disch:=first|omega|assumption|((repeat(first|exact A1|exact uH|apply A2|apply uT));first|done|fail)|(simp;first|done|omega|fail))[]))
 refine D1 A9g (fun w' hw' => B17 w' (.slice a p.length c) p (by omega) (hv.at (by rw [hS]; exact hw'.ks))) ?_
 by_cases c1 : Z4 p = 0
 ·have e : A55 m.st p = ({ m.st with pool := p }, ⟨0, 0, false, 0⟩) := if_pos c1
  rw [e]
  (have zz:=trivial;repeat((first|clear zz|with_reducible first|refine A3 ?_|refine A5 fun _=>?_|refine A4 fun _=>?_);try simp(disch:=first|omega|assumption|((repeat(first|exact A1|exact uH|apply A2|apply uT));first|done|fail)|(simp;first|done|omega|fail))[c1]))
  refine M8 N2 (fun w' hw' => B0A w' (.slice a p.length c) p.length (p.flatMap F6) (by omega) (P8 (k := 2) (fun _ => rfl) _) (A8n _) (hv.at (by rw [hS]; exact hw'.ks))) ?_
  rintro _ r rfl
  refine g7 (e := 75) (k := 2) (v := r) (q := p.length) (xs := p.flatMap F6) (by (repeat constructor)) ?_
  rintro ra rc rfl
  (have zz:=trivial;repeat((first|clear zz|with_reducible first|refine A3 ?_|refine A5 fun _=>?_|refine A4 fun _=>?_);try simp(disch:=first|omega|assumption|((repeat(first|exact A1|exact uH|apply A2|apply uT));first|done|fail)|(simp;first|done|omega|fail))[]))
  refine M8 B0x (fun w' hw' => C2S w' (.slice a p.length c) p hlen (hv.at (by rw [hS]; exact hw'.ks))) ?_
  rintro _ r rfl
  refine g7 (e := 217) (k := 2) (v := r) (q := (F9 (E6 p)).length) (xs := (F9 (E6 p)).flatMap E9) (by (repeat constructor)) ?_
  rintro qa qc rfl
  (have zz:=trivial;repeat((first|clear zz|with_reducible first|refine A3 ?_|refine A5 fun _=>?_|refine A4 fun _=>?_);try simp(disch:=first|omega|assumption|((repeat(first|exact A1|exact uH|apply A2|apply uT));first|done|fail)|(simp;first|done|omega|fail))[]))
  rename_i bk
  refine B9P (b := m.b) (k := m.k) (c := m.c) (sv := m.sv) (d := #[.slice ra p.length rc, .slice qa (F9 (E6 p)).length qc]) (T2 := 92) (by simp only [L6]; (repeat' constructor)) (by simp) ?_
  simp only [L6]
  (have zz:=trivial;repeat((first|clear zz|with_reducible first|refine A3 ?_|refine A5 fun _=>?_|refine A4 fun _=>?_);try simp(disch:=first|omega|assumption|((repeat(first|exact A1|exact uH|apply A2|apply uT));first|done|fail)|(simp;first|done|omega|fail))[]))
  refine D4 { m with k := bk, pv := .slice ra p.length rc, rv := .slice qa (F9 (E6 p)).length qc, pool := p } ⟨by simp [AnsV.val], rfl, rfl⟩ ?_
  try simp only [B3, L6]
  (repeat' constructor)
 ·have e : A55 m.st p = (m.st, ⟨Z4 p, 0, false, 0⟩) := if_neg c1
  rw [e]
  (have zz:=trivial;repeat((first|clear zz|with_reducible first|refine A3 ?_|refine A5 fun _=>?_|refine A4 fun _=>?_);try simp(disch:=first|omega|assumption|((repeat(first|exact A1|exact uH|apply A2|apply uT));first|done|fail)|(simp;first|done|omega|fail))[c1]))
  refine D4 m ⟨by simp [AnsV.val], rfl, rfl⟩ ?_
  try simp only [B3, L6]
  (repeat' constructor)
end Go.Proofs.YtpbmephflllolaaGreat
namespace Go.Proofs.YtpbmephflllolaaGreat
open Go
theorem B2Y {ts : List ShB} {i : Nat} {t u : ShB} (h : ts[i]? = some t) (hb : u.b = t.b) : T0 (ts.set i u) = T0 ts := by
 obtain ⟨hi, rfl⟩ := List.getElem?_eq_some_iff.1 h
 simp only [T0, List.map_set, hb]
 apply List.ext_getElem?
 intro j
 by_cases hj : i = j
 ·subst hj; simp [hi]
 ·rw [List.getElem?_set_ne hj]
theorem B9C {ts : List ShB} {i : Nat} {t : ShB} (h : ts[i]? = some t) : (ts.map (E5 0))[i]? = some (E5 0 t) := by simp [h]
theorem A6L (v : Value) (t : ShB) : H5 v [t] = .own 93 1 v 1 [.pointer (some ⟨t.b, 0, none⟩)] := rfl
structure BaOk (c : CfgV) (m : BaH) : Prop where
 few : m.ts.length ≤ 16
 pos : 0 < m.ts.length
 sh : m.c.sh = m.ts.length
 cfg : m.c = c
 len : ∀ t ∈ m.ts, t.l.length ≤ 64
 keys : ∀ t ∈ m.ts, K9 t.l
 pool : m.pool.length ≤ 1000
theorem BaOk.of {c : CfgV} {m : BaH} (h : Inv c m.st) : BaOk c m := by
 have hb := v6 h.ok
 have hl : m.st.tabs.length = m.ts.length := by simp [BaH.st]
 have hsh := h.sh
 have hc : m.c = c := h.cfg
 have e : (MoH.mk 0 .nilIface .nilIface m.c m.pool (m.ts.map fun t : ShB => ((.nilIface, t.l), t.nx))).st = m.st := by simp [MoH.st, BaH.st]
 have h2 : Inv c (MoH.mk 0 .nilIface .nilIface m.c m.pool (m.ts.map fun t : ShB => ((.nilIface, t.l), t.nx))).st := by rw [e]; exact h
 have hp : m.pool.length ≤ 1000 := h2.ok2.pool
 refine ⟨by omega, by omega, by rw [hc]; omega, hc, fun t ht => ?_, fun t ht => ?_, hp⟩
 ·have := h.tab (t.l, t.nx) (List.mem_map.2 ⟨t, ht, rfl⟩); have h1 := this.len; have h2 := this.few; simp only at h1; omega
 ·exact (h.tab (t.l, t.nx) (List.mem_map.2 ⟨t, ht, rfl⟩)).keys
theorem B7J {X : Nat → Prop} {S : List Nat} {w0 : World} {H Hk : List Res} {K : Value → WP} {b k : Nat} {lk nx : Int} {tv pv rv : Value} {l : List EnV} {p : List G1} {key : ByteArray} {cl : Bool} {now idle : Int} (hk : key.size < 2 ^ 60) (hks : K9 l) (hn : l.length ≤ 1000000) (hl : p.length ≤ 1000)
  (hp : Part ([Y2 b lk tv nx, E7 tv l] ++ A4B k pv rv p) H Hk) (hK : ∀ r, TW false S w0 ([Y2 b lk r nx, E7 r (G4 l p key cl now idle).1] ++ (A4B k pv rv p ++ Hk)) (K (G4 l p key cl now idle).2.1.val)) :
  TW false S w0 H (B2 PR X 58 [.pointer (some ⟨b, 0, none⟩), .pointer (some ⟨k, 0, none⟩), .string key, .bool cl, .int .i64 now, .int .i64 idle] K) := by
 refine TW.perm (H' := [Y2 b lk tv nx, E7 tv l] ++ (A4B k pv rv p ++ Hk)) ?_ (by rw [← List.append_assoc]; exact hp.perm)
 refine D6 (Hc := [Y2 b lk tv nx, E7 tv l]) A1Q (fun w' hw' hs => B4g w' b k lk nx tv pv rv l p key cl now idle hk hks hn
  (B7P (Hc := [Y2 b lk tv nx, E7 tv l]) (Hk := Hk) hw' (by rw [← List.append_assoc]; exact P7) hl) hs) P7 ?_
 rintro r _ rfl
 exact hK r
set_option maxHeartbeats 1000000 in
theorem A6F (w : World) (m : BaH) (pk : ByteArray) (now : Int) (c : CfgV) (hpk : pk.size < 2 ^ 40) (hm : BaOk c m) (hw : LW false (B4 (B3 m)) w (B3 m) w) :
  Fn PR B5 24 #[.pointer (some ⟨m.b, 0, none⟩), .string pk, .int .i64 now] w (BDo w m (l0 m.st pk now)) := by
 refine y7 (TW.goH (κ := false) ?_ hw)
 unfold N8
 unfold BDo
 have hlen := hm.few
 generalize hS : B4 (B3 m) = S at *
 simp only [B3, L6, H5]
 refine g7 (e := 93) (k := 1) (v := m.sv) (q := m.ts.length) (xs := T0 m.ts) (by (repeat constructor)) ?_
 intro sa sc hsv
 rw [hsv]
 (have zz:=trivial;repeat((first|clear zz|with_reducible first|refine A3 ?_|refine A5 fun _=>?_|refine A4 fun _=>?_);try simp(disch:=first|omega|assumption|((repeat(first|exact A1|exact uH|apply A2|apply uT));first|done|fail)|(simp;first|done|omega|fail))[]))
 refine D1 A7q (fun w' hw' => A9C w' pk hpk) ?_
 by_cases c1 : (F8 pk).2.2 = 0
 case neg =>
  have e : l0 m.st pk now = (m.st, ⟨9, 0, false, 0⟩) := by unfold l0; simp only; rw [if_pos c1]
  rw [e]
  (have zz:=trivial;repeat((first|clear zz|with_reducible first|refine A3 ?_|refine A5 fun _=>?_|refine A4 fun _=>?_);try simp(disch:=first|omega|assumption|((repeat(first|exact A1|exact uH|apply A2|apply uT));first|done|fail)|(simp;first|done|omega|fail))[packet.val, T9, c1]))
  refine D4 m ⟨by simp [AnsV.val], rfl, rfl⟩ ?_
  try simp only [B3, L6, H5, hsv]
  (repeat' constructor)
 have hk := B0L (F8 pk).1
 (have zz:=trivial;repeat((first|clear zz|with_reducible first|refine A3 ?_|refine A5 fun _=>?_|refine A4 fun _=>?_);try simp(disch:=first|omega|assumption|((repeat(first|exact A1|exact uH|apply A2|apply uT));first|done|fail)|(simp;first|done|omega|fail))[packet.val, T9, c1]))
 refine D1 (u := A3y (F8 pk).1) A67 (fun w' hw' => B7a w' (F8 pk).1) ?_
 (have zz:=trivial;repeat((first|clear zz|with_reducible first|refine A3 ?_|refine A5 fun _=>?_|refine A4 fun _=>?_);try simp(disch:=first|omega|assumption|((repeat(first|exact A1|exact uH|apply A2|apply uT));first|done|fail)|(simp;first|done|omega|fail))[A3y]))
 rename_i b4 b6
 have hsh := hm.sh
 have hpos := hm.pos
 rw [show (if V7 (F8 pk).1 = true then A2A (F8 pk).1 else N5) = r6 (F8 pk).1 from rfl]
 generalize hkey : r6 (F8 pk).1 = key at *
 have e : l0 m.st pk now = ({ m.st with tabs := m.st.tabs.set (P5 key m.c.sh) ((G4 (m.st.tabs.getD (P5 key m.c.sh) ([], 0)).1 m.pool key (d7 (F8 pk).1 (F8 pk).2.1) now m.c.idle).1, (m.st.tabs.getD (P5 key m.c.sh) ([], 0)).2) },
   (G4 (m.st.tabs.getD (P5 key m.c.sh) ([], 0)).1 m.pool key (d7 (F8 pk).1 (F8 pk).2.1) now m.c.idle).2.1) := by
  unfold l0; simp only; rw [if_neg (by rw [c1]; simp), hkey]; rfl
 rw [e]
 refine D1 A77 (fun w' hw' => B8Z w' key (m.ts.length : Nat) hk (by omega)) ?_
 rw [← hsh]
 have hlt : P5 key m.c.sh < m.ts.length := by
  unfold P5; rw [if_neg (by omega), hsh, Int.toNat_natCast]; exact Nat.mod_lt _ hpos
 generalize P5 key m.c.sh = i at *
 obtain ⟨t, hx⟩ : ∃ x, m.ts[i]? = some x := ⟨_, List.getElem?_eq_getElem hlt⟩
 have hxm := List.mem_of_getElem? hx
 have hgd : m.st.tabs.getD i ([], 0) = (t.l, t.nx) := by simp [BaH.st, List.getD_eq_getElem?_getD, hx]
 rw [hgd]
 simp only
 have hp := A3f hx
 refine A0U (e := 93) (k := 1) (v := .slice sa m.ts.length sc) (q := m.ts.length) (xs := T0 m.ts) (by (repeat constructor)) (by omega) ?_
 rintro g gc hg
 cases hg
 (have zz:=trivial;repeat((first|clear zz|with_reducible first|refine A3 ?_|refine A5 fun _=>?_|refine A4 fun _=>?_|refine D0 fun _=>?_|refine C6 (hK:=fun _=>?_)|refine C7 (hK:=fun _=>?_)|refine C9 (hK:=fun _=>?_)|refine C4 (hK:=fun _=>?_)|refine C8 (hK:=fun _=>?_));try simp(disch:=first|omega|assumption|((repeat(first|exact A1|exact uH|apply A2|apply uT));first|done|fail)|(simp;first|done|omega|fail))[hlt, hp]))
 rename_i gs
 refine A3j (f := G0) (i := i) (by (repeat' constructor)) (B9C hx) ?_
 simp only [G0, List.cons_append, List.nil_append]
 refine A6U (f := G0) (x := E5 0 t) (by simp only [G0]; (repeat' constructor)) ?_
 refine D6 (Hc := [.own 93 1 (.slice (some ⟨gs, 0, none⟩) 1 1) 1 [.pointer (some ⟨t.b, 0, none⟩)], F3 G0 [E5 0 t]]) g5 (fun w' _ hs => A5b w' _ [t] (by simp) hs) (by (repeat' constructor)) ?_
 rintro bx _ rfl
 simp only [A6L, List.map_cons, List.map_nil, List.cons_append, List.nil_append]
 refine B48 ?_
 (have zz:=trivial;repeat((first|clear zz|with_reducible first|refine A3 ?_|refine A5 fun _=>?_|refine A4 fun _=>?_);try simp(disch:=first|omega|assumption|((repeat(first|exact A1|exact uH|apply A2|apply uT));first|done|fail)|(simp;first|done|omega|fail))[]))
 refine D1 L8 (fun w' hw' => B2g w' m.b m.k _ _ _ (hw'.pt (by (repeat constructor))) rfl (hw'.pt (o := .cells #[m.pv, m.rv] 92 (0, 0)) (by (repeat constructor))) rfl) ?_
 (have zz:=trivial;repeat((first|clear zz|with_reducible first|refine A3 ?_|refine A5 fun _=>?_|refine A4 fun _=>?_);try simp(disch:=first|omega|assumption|((repeat(first|exact A1|exact uH|apply A2|apply uT));first|done|fail)|(simp;first|done|omega|fail))[]))
 rw [A69 (by (repeat constructor)) (by rfl)]
 (have zz:=trivial;repeat((first|clear zz|with_reducible first|refine A3 ?_|refine A5 fun _=>?_|refine A4 fun _=>?_);try simp(disch:=first|omega|assumption|((repeat(first|exact A1|exact uH|apply A2|apply uT));first|done|fail)|(simp;first|done|omega|fail))[]))
 refine D1 A6G (fun w' _ => B41 w' (F8 pk).1 (F8 pk).2.1) ?_
 (have zz:=trivial;repeat((first|clear zz|with_reducible first|refine A3 ?_|refine A5 fun _=>?_|refine A4 fun _=>?_);try simp(disch:=first|omega|assumption|((repeat(first|exact A1|exact uH|apply A2|apply uT));first|done|fail)|(simp;first|done|omega|fail))[]))
 generalize d7 (F8 pk).1 (F8 pk).2.1 = cl at *
 refine A4U (f := G0) (x := E5 1 t) (by (repeat' constructor)) ?_
 simp only [G0, E5, List.cons_append, List.nil_append]
 have hkey2 := hm.keys _ hxm
 have hlen2 := hm.len _ hxm
 refine B7J (nx := (t.nx : Nat)) (tv := t.tv) (pv := m.pv) (rv := m.rv) (l := t.l) (p := m.pool) hk hkey2 (by omega) hm.pool (by simp only [A4B, List.cons_append, List.nil_append]; (repeat' constructor)) fun r => ?_
 simp only [A4B, List.cons_append, List.nil_append]
 (have zz:=trivial;repeat((first|clear zz|with_reducible first|refine A3 ?_|refine A5 fun _=>?_|refine A4 fun _=>?_);try simp(disch:=first|omega|assumption|((repeat(first|exact A1|exact uH|apply A2|apply uT));first|done|fail)|(simp;first|done|omega|fail))[AnsV.val]))
 refine A6U (f := G0) (x := E5 1 ⟨t.b, 1, r, (G4 t.l m.pool key cl now m.c.idle).1, t.nx⟩) (by simp only [G0, E5]; (repeat' constructor)) ?_
 refine B4Z (Hc := [.pt bx (.cells #[.slice (some ⟨gs, 0, none⟩) 1 1] 86), .own 93 1 (.slice (some ⟨gs, 0, none⟩) 1 1) 1 [.pointer (some ⟨t.b, 0, none⟩)], F3 G0 [E5 1 ⟨t.b, 1, r, (G4 t.l m.pool key cl now m.c.idle).1, t.nx⟩]]) Y9
  (fun w' _ hs => A5p w' bx _ [⟨t.b, 1, r, (G4 t.l m.pool key cl now m.c.idle).1, t.nx⟩] (by simp) hs) (by (repeat' constructor)) ?_
 rintro _ _ rfl
 simp only [A6L, List.map_cons, List.map_nil, List.cons_append, List.nil_append]
 refine A4U (f := G0) (x := E5 0 ⟨t.b, 1, r, (G4 t.l m.pool key cl now m.c.idle).1, t.nx⟩) (by (repeat' constructor)) ?_
 simp only [G0, List.cons_append, List.nil_append]
 refine A53 (f := G0) (y := E5 0 ⟨t.b, 1, r, (G4 t.l m.pool key cl now m.c.idle).1, t.nx⟩) (ls := m.ts.map (E5 0)) (i := i) (by simp only [G0, List.cons_append, List.nil_append]; (repeat' constructor)) (by simpa using hlt) ?_
 (have zz:=trivial;repeat((first|clear zz|with_reducible first|refine A3 ?_|refine A5 fun _=>?_|refine A4 fun _=>?_);try simp(disch:=first|omega|assumption|((repeat(first|exact A1|exact uH|apply A2|apply uT));first|done|fail)|(simp;first|done|omega|fail))[]))
 refine D4 { m with sv := .slice (some ⟨g, 0, none⟩) m.ts.length sc, ts := m.ts.set i ⟨t.b, 1, r, (G4 t.l m.pool key cl now m.c.idle).1, t.nx⟩ } ⟨by simp [AnsV.val], rfl, by simp [BaH.st, List.map_set]⟩ ?_
 simp only [B3, L6, H5, B2Y hx, List.length_set, List.map_set]
 (repeat' constructor)
set_option maxHeartbeats 1000000 in
theorem A8L (w : World) (m : BaH) (j now : Int) (c : CfgV) (hm : BaOk c m) (hw : LW false (B4 (B3 m)) w (B3 m) w) :
  Fn PR B5 27 #[.pointer (some ⟨m.b, 0, none⟩), .int .i64 j, .int .i64 now] w (BDo w m (A1v m.st j now)) := by
 refine A0n (TW.goH (κ := false) ?_ hw)
 unfold Q2
 unfold BDo
 have hlen := hm.few
 have hstl : m.st.tabs.length = m.ts.length := by simp [BaH.st]
 generalize hS : B4 (B3 m) = S at *
 simp only [B3, L6, H5]
 refine g7 (e := 93) (k := 1) (v := m.sv) (q := m.ts.length) (xs := T0 m.ts) (by (repeat constructor)) ?_
 intro sa sc hsv
 rw [hsv]
 by_cases c1 : j < 0
 ·have e : A1v m.st j now = (m.st, ⟨1, 0, false, 0⟩) := if_pos (Or.inl c1)
  rw [e]
  (have zz:=trivial;repeat((first|clear zz|with_reducible first|refine A3 ?_|refine A5 fun _=>?_|refine A4 fun _=>?_);try simp(disch:=first|omega|assumption|((repeat(first|exact A1|exact uH|apply A2|apply uT));first|done|fail)|(simp;first|done|omega|fail))[c1]))
  refine D4 m ⟨by simp [AnsV.val], rfl, rfl⟩ ?_
  simp only [B3, L6, H5, hsv]
  (repeat' constructor)
 by_cases c2 : (m.ts.length : Int) ≤ j
 ·have e : A1v m.st j now = (m.st, ⟨1, 0, false, 0⟩) := if_pos (Or.inr (by rw [hstl]; exact c2))
  rw [e]
  (have zz:=trivial;repeat((first|clear zz|with_reducible first|refine A3 ?_|refine A5 fun _=>?_|refine A4 fun _=>?_);try simp(disch:=first|omega|assumption|((repeat(first|exact A1|exact uH|apply A2|apply uT));first|done|fail)|(simp;first|done|omega|fail))[c1, c2]))
  refine D4 m ⟨by simp [AnsV.val], rfl, rfl⟩ ?_
  simp only [B3, L6, H5, hsv]
  (repeat' constructor)
 obtain ⟨i, hi⟩ : ∃ i : Nat, j = i := ⟨j.toNat, by omega⟩
 rw [hi] at c1 c2 ⊢
 have hlt : i < m.ts.length := by omega
 obtain ⟨t, hx⟩ : ∃ x, m.ts[i]? = some x := ⟨_, List.getElem?_eq_getElem hlt⟩
 have hxm := List.mem_of_getElem? hx
 have hgd : m.st.tabs.getD i ([], 0) = (t.l, t.nx) := by simp [BaH.st, List.getD_eq_getElem?_getD, hx]
 have e : A1v m.st i now = ({ m.st with tabs := m.st.tabs.set i ((H2 t.l t.nx 4 now).1, (H2 t.l t.nx 4 now).2.1) }, ⟨0, 0, false, ((H2 t.l t.nx 4 now).2.2 : Nat)⟩) := by
  unfold A1v
  rw [if_neg (by rw [hstl]; omega)]
  simp only [Int.toNat_natCast, hgd]
 rw [e]
 have hp := A3f hx
 refine A0U (e := 93) (k := 1) (v := .slice sa m.ts.length sc) (q := m.ts.length) (xs := T0 m.ts) (by (repeat constructor)) (by omega) ?_
 rintro g gc hg
 cases hg
 have hi0 : ¬ ((i : Nat) : Int) < 0 := by omega
 (have zz:=trivial;repeat((first|clear zz|with_reducible first|refine A3 ?_|refine A5 fun _=>?_|refine A4 fun _=>?_|refine D0 fun _=>?_|refine C6 (hK:=fun _=>?_)|refine C7 (hK:=fun _=>?_)|refine C9 (hK:=fun _=>?_)|refine C4 (hK:=fun _=>?_)|refine C8 (hK:=fun _=>?_));try simp(disch:=first|omega|assumption|((repeat(first|exact A1|exact uH|apply A2|apply uT));first|done|fail)|(simp;first|done|omega|fail))[hi0, c2, hlt, hp]))
 rename_i gs
 refine A3j (f := G0) (i := i) (by (repeat' constructor)) (B9C hx) ?_
 simp only [G0, List.cons_append, List.nil_append]
 refine A6U (f := G0) (x := E5 0 t) (by simp only [G0]; (repeat' constructor)) ?_
 refine D6 (Hc := [.own 93 1 (.slice (some ⟨gs, 0, none⟩) 1 1) 1 [.pointer (some ⟨t.b, 0, none⟩)], F3 G0 [E5 0 t]]) g5 (fun w' _ hs => A5b w' _ [t] (by simp) hs) (by (repeat' constructor)) ?_
 rintro bx _ rfl
 simp only [A6L, List.map_cons, List.map_nil, List.cons_append, List.nil_append]
 refine B48 ?_
 refine A4U (f := G0) (x := E5 1 t) (by (repeat' constructor)) ?_
 simp only [G0, E5, Y2, List.cons_append, List.nil_append]
 have hkey2 := hm.keys _ hxm
 have hlen2 := hm.len _ hxm
 (have zz:=trivial;repeat((first|clear zz|with_reducible first|refine A3 ?_|refine A5 fun _=>?_|refine A4 fun _=>?_);try simp(disch:=first|omega|assumption|((repeat(first|exact A1|exact uH|apply A2|apply uT));first|done|fail)|(simp;first|done|omega|fail))[]))
 refine M8 A9q (fun w' hw' => B9c w' t.tv t.l t.nx 4 now hkey2 (by omega) (M6.own (e := 160) (k := 4) (by (repeat constructor)) w' hw')) ?_
 rintro r _ rfl
 refine A04 (e := 160) (k := 4) (v := r) (q := (H2 t.l t.nx 4 now).1.length) (xs := (H2 t.l t.nx 4 now).1.flatMap F1) (by (repeat constructor)) fun hr1 hr2 hr3 => ?_
 (have zz:=trivial;repeat((first|clear zz|with_reducible first|refine A3 ?_|refine A5 fun _=>?_|refine A4 fun _=>?_);try simp(disch:=first|omega|assumption|((repeat(first|exact A1|exact uH|apply A2|apply uT));first|done|fail)|(simp;first|done|omega|fail))[hr1]))
 refine A6U (f := G0) (x := E5 1 ⟨t.b, 1, r, (H2 t.l t.nx 4 now).1, (H2 t.l t.nx 4 now).2.1⟩) (by simp only [G0, E5, Y2]; (repeat' constructor)) ?_
 refine B4Z (Hc := [.pt bx (.cells #[.slice (some ⟨gs, 0, none⟩) 1 1] 86), .own 93 1 (.slice (some ⟨gs, 0, none⟩) 1 1) 1 [.pointer (some ⟨t.b, 0, none⟩)], F3 G0 [E5 1 ⟨t.b, 1, r, (H2 t.l t.nx 4 now).1, (H2 t.l t.nx 4 now).2.1⟩]]) Y9
  (fun w' _ hs => A5p w' bx _ [⟨t.b, 1, r, (H2 t.l t.nx 4 now).1, (H2 t.l t.nx 4 now).2.1⟩] (by simp) hs) (by (repeat' constructor)) ?_
 rintro _ _ rfl
 simp only [A6L, List.map_cons, List.map_nil, List.cons_append, List.nil_append]
 refine A4U (f := G0) (x := E5 0 ⟨t.b, 1, r, (H2 t.l t.nx 4 now).1, (H2 t.l t.nx 4 now).2.1⟩) (by (repeat' constructor)) ?_
 simp only [G0, List.cons_append, List.nil_append]
 refine A53 (f := G0) (y := E5 0 ⟨t.b, 1, r, (H2 t.l t.nx 4 now).1, (H2 t.l t.nx 4 now).2.1⟩) (ls := m.ts.map (E5 0)) (i := i) (by simp only [G0, List.cons_append, List.nil_append]; (repeat' constructor)) (by simpa using hlt) ?_
 (have zz:=trivial;repeat((first|clear zz|with_reducible first|refine A3 ?_|refine A5 fun _=>?_|refine A4 fun _=>?_);try simp(disch:=first|omega|assumption|((repeat(first|exact A1|exact uH|apply A2|apply uT));first|done|fail)|(simp;first|done|omega|fail))[]))
 refine D4 { m with sv := .slice (some ⟨g, 0, none⟩) m.ts.length sc, ts := m.ts.set i ⟨t.b, 1, r, (H2 t.l t.nx 4 now).1, (H2 t.l t.nx 4 now).2.1⟩ } ⟨by simp [AnsV.val], rfl, by simp [BaH.st, List.map_set]⟩ ?_
 simp only [B3, L6, H5, B2Y hx, List.length_set, List.map_set]
 (repeat' constructor)
end Go.Proofs.YtpbmephflllolaaGreat
namespace Go.Proofs.YtpbmephflllolaaGreat
open Go
theorem A5q (l : List EnV) : (x9 l).length = Q0 l 1 := by
 have : ∀ (m : List EnV) (i : Nat), (N0 i m).length = Q0 m 1 := by
  intro m
  induction m with
  | nil => intro i; simp [N0, Q0]
  | cons x m ih =>
   intro i
   have h := ih (i + 1)
   by_cases c : x.st = 1
   ·simp [N0, Q0, c, h]
   ·simp [N0, Q0, c, h]
 simp only [x9, List.length_map, F7, this]
def K8 (tabs : List (List EnV × Nat)) : List ByteArray := tabs.flatMap fun t => x9 t.1
theorem B5m (tabs : List (List EnV × Nat)) : (K8 tabs).length = B5D tabs := by
 unfold K8 B5D
 induction tabs with
 | nil => rfl
 | cons t tabs ih => rw [List.flatMap_cons, List.length_append, ih, A5q]; simp
theorem liveK_le {tabs : List (List EnV × Nat)} (h : ∀ t ∈ tabs, t.1.length ≤ 64) : (K8 tabs).length ≤ tabs.length * 64 := by
 unfold K8
 induction tabs with
 | nil => simp
 | cons t tabs ih =>
  have h1 := ih fun t ht => h t (by simp [ht])
  have h2 := h t (by simp)
  have h3 : (x9 t.1).length ≤ t.1.length := by rw [A5q]; exact List.countP_le_length
  rw [List.flatMap_cons, List.length_append, List.length_cons]; omega
set_option maxHeartbeats 1000000 in
theorem B2K (w : World) (m : BaH) (c : CfgV) (hm : BaOk c m) (hw : LW false (B4 (B3 m)) w (B3 m) w) :
  Fn PR B5 16 #[.pointer (some ⟨m.b, 0, none⟩)] w (Rn (B4 (B3 m)) w (fun (r : Value) u => u = r) fun r => .own 9 1 r (K8 m.st.tabs).length ((K8 m.st.tabs).map Value.string) :: B3 m) := by
 refine A1S (TW.goH (κ := false) ?_ hw)
 unfold T4
 have hlen := hm.few
 obtain ⟨tb, htb⟩ : ∃ tb, tb = m.st.tabs := ⟨_, rfl⟩
 have htl : tb.length = m.ts.length := by rw [htb]; simp [BaH.st]
 have hall : ∀ t ∈ tb, t.1.length ≤ 64 := fun t ht => by
  rw [htb] at ht
  obtain ⟨x, hx, rfl⟩ := List.mem_map.1 ht; exact hm.len x hx
 rw [← htb]
 generalize hS : B4 (B3 m) = S at *
 simp only [B3, L6, H5]
 refine g7 (e := 93) (k := 1) (v := m.sv) (q := m.ts.length) (xs := T0 m.ts) (by (repeat constructor)) ?_
 intro sa sc hsv
 rw [hsv]
 (have zz:=trivial;repeat((first|clear zz|with_reducible first|refine A3 ?_|refine A5 fun _=>?_|refine A4 fun _=>?_);try simp(disch:=first|omega|assumption|((repeat(first|exact A1|exact uH|apply A2|apply uT));first|done|fail)|(simp;first|done|omega|fail))[]))
 refine D6 (Hc := [H5 (.slice sa m.ts.length sc) m.ts, F3 G0 (m.ts.map (E5 0))]) g5 (fun w' _ hs => A5b w' _ m.ts (by omega) hs) (by simp only [H5]; (repeat' constructor)) ?_
 rintro bx _ rfl
 simp only [H5, List.cons_append, List.nil_append]
 refine B48 ?_
 refine p5 9 1 ?_
 (have zz:=trivial;repeat((first|clear zz|with_reducible first|refine A3 ?_|refine A5 fun _=>?_|refine A4 fun _=>?_);try simp(disch:=first|omega|assumption|((repeat(first|exact A1|exact uH|apply A2|apply uT));first|done|fail)|(simp;first|done|omega|fail))[]))
 refine Sels.tw (rs := [.own 9 1 (.slice none 0 0) 0 [], .pt bx (.cells #[.slice sa m.ts.length sc] 86), .own 93 1 (.slice sa m.ts.length sc) m.ts.length (T0 m.ts), F3 G0 (m.ts.map (E5 1)), .pt m.b (.cells #[.int .i64 m.c.wk, .int .i64 m.c.sh, .int .i64 m.c.cp, .int .i64 m.c.idle, .int .i64 m.c.sl, .pointer (some ⟨m.k, 0, none⟩), .slice sa m.ts.length sc] 88 (0, 0)),
  .pt m.k (.cells #[m.pv, m.rv] 92 (0, 0)), .own 75 2 m.pv m.pool.length (m.pool.flatMap F6), .own 217 2 m.rv (F9 (E6 m.pool)).length ((F9 (E6 m.pool)).flatMap E9)]) (by (repeat' constructor)) ?_
 refine k4 (α := Option Addr × Nat) m.ts.length (fun i x => .slice x.1 (K8 (tb.take i)).length x.2) (fun i x => [.own 9 1 (.slice x.1 (K8 (tb.take i)).length x.2) (K8 (tb.take i)).length ((K8 (tb.take i)).map Value.string), .pt bx (.cells #[.slice sa m.ts.length sc] 86), .own 93 1 (.slice sa m.ts.length sc) m.ts.length (T0 m.ts), F3 G0 (m.ts.map (E5 1)), .pt m.b (.cells #[.int .i64 m.c.wk, .int .i64 m.c.sh, .int .i64 m.c.cp, .int .i64 m.c.idle, .int .i64 m.c.sl, .pointer (some ⟨m.k, 0, none⟩), .slice sa m.ts.length sc] 88 (0, 0)),
  .pt m.k (.cells #[m.pv, m.rv] 92 (0, 0)), .own 75 2 m.pv m.pool.length (m.pool.flatMap F6), .own 217 2 m.rv (F9 (E6 m.pool)).length ((F9 (E6 m.pool)).flatMap E9)]) (fun _ _ => True) (none, 0) trivial ?_
 rintro i ⟨xa, xc⟩ hi _ L hL
 have hsum : (K8 (tb.take i)).length ≤ 1024 := by
  have h1 := liveK_le (tabs := tb.take i) fun t ht => hall t (List.mem_of_mem_take ht)
  have h2 : (tb.take i).length ≤ 16 := by rw [List.length_take]; omega
  omega
 by_cases hlt : i < m.ts.length
 ·have hx := List.getElem?_eq_getElem hlt
  have hp := A3f hx
  have hxm := List.getElem_mem hlt
  have hlk : (m.ts.map (E5 1))[i]? = some (E5 1 m.ts[i]) := by simp [hlt]
  have hst : K8 (tb.take (i + 1)) = K8 (tb.take i) ++ x9 (m.ts[i]).l := by
   have hx2 : tb[i]? = some ((m.ts[i]).l, (m.ts[i]).nx) := by rw [htb]; simp [BaH.st, hlt]
   rw [List.take_add_one, hx2]; simp [K8, List.flatMap_append]
  simp only [hst] at hL
  have hl64 := hm.len _ hxm
  have hkl : (x9 (m.ts[i]).l).length ≤ 64 := by rw [A5q]; exact Nat.le_trans List.countP_le_length hl64
  generalize m.ts[i] = t at *
  refine A0U (e := 93) (k := 1) (v := .slice sa m.ts.length sc) (q := m.ts.length) (xs := T0 m.ts) (by (repeat constructor)) (by omega) ?_
  rintro g gc hg
  cases hg
  refine A3j (f := G0) (i := i) (ls := m.ts.map (E5 1)) (by (repeat' constructor)) hlk ?_
  simp only [G0, E5, Y2, List.cons_append, List.nil_append]
  (have zz:=trivial;repeat((first|clear zz|with_reducible first|refine A3 ?_|refine A5 fun _=>?_|refine A4 fun _=>?_);try simp(disch:=first|omega|assumption|((repeat(first|exact A1|exact uH|apply A2|apply uT));first|done|fail)|(simp;first|done|omega|fail))[hlt, hp]))
  refine M8 A87 (fun w' hw' => B9w w' t.tv t.l (by omega) (M6.own (e := 160) (k := 4) (by (repeat constructor)) w' hw')) ?_
  rintro _ r rfl
  refine A0Z (e := 9) (k := 1) (q := (K8 (tb.take i)).length) (r := (x9 t.l).length) (xs := (K8 (tb.take i)).map Value.string) (news := (x9 t.l).map Value.string) (by (repeat constructor)) (M6.own (by (repeat constructor))) (by decide) (by simp) (by simp [List.all_map, Function.comp_def]) (by simp only [maxLen]; omega) (by omega) fun a' c' => ?_
  refine A53 (f := G0) (y := E5 1 t) (ls := m.ts.map (E5 1)) (i := i) (by simp only [G0, E5, Y2, List.cons_append, List.nil_append]; (repeat' constructor)) (by simpa using hlt) ?_
  have hsame : (m.ts.map (E5 1)).set i (E5 1 t) = m.ts.map (E5 1) := by
   obtain ⟨h1, h2⟩ := List.getElem?_eq_some_iff.1 hlk
   rw [← h2]; exact List.set_getElem_self h1
  rw [hsame]
  (have zz:=trivial;repeat((first|clear zz|with_reducible first|refine A3 ?_|refine A5 fun _=>?_|refine A4 fun _=>?_);try simp(disch:=first|omega|assumption|((repeat(first|exact A1|exact uH|apply A2|apply uT));first|done|fail)|(simp;first|done|omega|fail))[]))
  have h := hL hlt (a', c') trivial
  simp only [List.length_append, List.map_append] at h
  exact Sels.tw (by (repeat' constructor)) h
 ·obtain rfl : i = m.ts.length := by omega
  rw [← htl, List.take_length]
  (have zz:=trivial;repeat((first|clear zz|with_reducible first|refine A3 ?_|refine A5 fun _=>?_|refine A4 fun _=>?_);try simp(disch:=first|omega|assumption|((repeat(first|exact A1|exact uH|apply A2|apply uT));first|done|fail)|(simp;first|done|omega|fail))[]))
  rw [htl]
  refine B4Z (Hc := [.pt bx (.cells #[.slice sa m.ts.length sc] 86), H5 (.slice sa m.ts.length sc) m.ts, F3 G0 (m.ts.map (E5 1))]) Y9
   (fun w' _ hs => A5p w' bx _ m.ts (by omega) hs) (by simp only [H5]; (repeat' constructor)) ?_
  rintro _ _ rfl
  simp only [H5, List.cons_append, List.nil_append]
  refine D4 (.slice xa (K8 tb).length xc) rfl ?_
  try simp only [B3, L6, H5, hsv]
  (repeat' constructor)
end Go.Proofs.YtpbmephflllolaaGreat
namespace Go.Proofs.YtpbmephflllolaaGreat
open Go
end Go.Proofs.YtpbmephflllolaaGreat
namespace Go.Proofs.YtpbmephflllolaaGreat
open Go
end Go.Proofs.YtpbmephflllolaaGreat
namespace Go.Proofs.YtpbmephflllolaaGreat
open Go
end Go.Proofs.YtpbmephflllolaaGreat
namespace Go.Proofs.YtpbmephflllolaaGreat
open Go
end Go.Proofs.YtpbmephflllolaaGreat
namespace Go.Proofs.YtpbmephflllolaaGreat
open Go
end Go.Proofs.YtpbmephflllolaaGreat
namespace Go.Proofs.YtpbmephflllolaaGreat
open Go
end Go.Proofs.YtpbmephflllolaaGreat
namespace Go.Proofs.YtpbmephflllolaaGreat
open Go
end Go.Proofs.YtpbmephflllolaaGreat
namespace Go.Proofs.YtpbmephflllolaaGreat
open Go
end Go.Proofs.YtpbmephflllolaaGreat
namespace Go.Proofs.YtpbmephflllolaaGreat
open Go
end Go.Proofs.YtpbmephflllolaaGreat
namespace Go.Proofs.YtpbmephflllolaaGreat
open Go
end Go.Proofs.YtpbmephflllolaaGreat
namespace Go.Proofs.YtpbmephflllolaaGreat
open Go
end Go.Proofs.YtpbmephflllolaaGreat
namespace Go.Proofs.YtpbmephflllolaaGreat
open Go
section
variable {κ : Bool} {X : Nat → Prop} {S : List Nat} {w0 : World} {H H' Hk : List Res} {K : Value → WP} {K0 : WP}
end
end Go.Proofs.YtpbmephflllolaaGreat
namespace Go.Proofs.YtpbmephflllolaaGreat
open Go
theorem M6.mono {κ : Bool} {S : List Nat} {w0 : World} {H H' : List Res} {v : Value} {n : Nat} {xs : List Value} (h : M6 κ S w0 H v n xs) (hs : H.Sublist H') : M6 κ S w0 H' v n xs := fun w hw => h w (hw.sub hs)
def RdC (w : World) (v : Value) (l : List (Nat × Int)) : Prop := F5 w v l.length (l.flatMap E9) ∧ ∃ a c, v = .slice a l.length c ∧ l.length ≤ c
theorem RdC.ks {w w' : World} {v : Value} {l : List (Nat × Int)} (h : RdC w v l) (hk : KS false [] w w') : RdC w' v l := ⟨h.1.ks hk (by simp), h.2⟩
end Go.Proofs.YtpbmephflllolaaGreat
namespace Go.Proofs.YtpbmephflllolaaGreat
open Go
end Go.Proofs.YtpbmephflllolaaGreat
namespace Go.Proofs.YtpbmephflllolaaGreat
open Go
end Go.Proofs.YtpbmephflllolaaGreat
namespace Go.Proofs.YtpbmephflllolaaGreat
open Go
end Go.Proofs.YtpbmephflllolaaGreat
namespace Go.Proofs.YtpbmephflllolaaGreat
open Go
end Go.Proofs.YtpbmephflllolaaGreat
namespace Go.Proofs.YtpbmephflllolaaGreat
open Go
end Go.Proofs.YtpbmephflllolaaGreat
namespace Go.Proofs.YtpbmephflllolaaGreat
open Go
end Go.Proofs.YtpbmephflllolaaGreat
namespace Go.Proofs.YtpbmephflllolaaGreat
open Go
end Go.Proofs.YtpbmephflllolaaGreat
namespace Go.Proofs.YtpbmephflllolaaGreat
open Go
end Go.Proofs.YtpbmephflllolaaGreat
namespace Go.Proofs.YtpbmephflllolaaGreat
open Go
end Go.Proofs.YtpbmephflllolaaGreat
namespace Go.Proofs.YtpbmephflllolaaGreat
open Go
end Go.Proofs.YtpbmephflllolaaGreat
namespace Go.Proofs.YtpbmephflllolaaGreat
open Go
end Go.Proofs.YtpbmephflllolaaGreat
namespace Go.Proofs.YtpbmephflllolaaGreat
open Go
end Go.Proofs.YtpbmephflllolaaGreat
namespace Go.Proofs.YtpbmephflllolaaGreat
open Go
theorem M6.slice {κ : Bool} {S : List Nat} {w0 : World} {H : List Res} {v : Value} {n : Nat} {xs : List Value} {K0 : WP} (h : M6 κ S w0 H v n xs) (hK : ∀ a c, v = .slice a n c → TW κ S w0 H K0) : TW κ S w0 H K0 := fun w hw => by
 obtain ⟨a, c, e, _⟩ := (h w hw).form
 exact hK a c e w hw
end Go.Proofs.YtpbmephflllolaaGreat
namespace Go.Proofs.YtpbmephflllolaaGreat
open Go
structure RmH where
 pv : Value
 tv : Value
 lv : Value
 c : CfgV
 pool : List G1
 ts : List (Value × List EnV)
 pl : List Nat
def RmH.cs (r : RmH) : Array Value := #[.int .i64 r.c.wk, .int .i64 r.c.sh, .int .i64 r.c.cp, .int .i64 r.c.idle, .int .i64 r.c.sl, r.pv, r.tv, r.lv]
end Go.Proofs.YtpbmephflllolaaGreat
namespace Go.Proofs.YtpbmephflllolaaGreat
open Go
def RmH.val (r : RmH) : Value := .agg r.cs
def RmH.st (r : RmH) : MoS := ⟨r.c, r.pool, (r.ts.map (·.2)).zip r.pl⟩
section
variable (w : World) (r : RmH) (o : OpV) (v : Value) (now : Int)
end
end Go.Proofs.YtpbmephflllolaaGreat
namespace Go.Proofs.YtpbmephflllolaaGreat
open Go
end Go.Proofs.YtpbmephflllolaaGreat
namespace Go.Proofs.YtpbmephflllolaaGreat
open Go
section
variable {w0 : World} {H Hk : List Res} {K : Value → WP} {K0 : WP}
end
structure RmS where
 pa : Option Addr
 pc : Nat
 ta : Option Addr
 tc : Nat
 la : Option Addr
 lc : Nat
 pool : List G1
 ts : List (Value × List EnV)
 pl : List Nat
def RmS.cs (c : CfgV) (x : RmS) : Array Value := #[.int .i64 c.wk, .int .i64 c.sh, .int .i64 c.cp, .int .i64 c.idle, .int .i64 c.sl, .slice x.pa x.pool.length x.pc, .slice x.ta x.ts.length x.tc, .slice x.la x.pl.length x.lc]
end Go.Proofs.YtpbmephflllolaaGreat
namespace Go.Proofs.YtpbmephflllolaaGreat
open Go
theorem H6.str_at {w : World} {b o : Nat} {l : List ByteArray} (h : H6 w b o (l.map Value.string)) {i : Nat} {x : ByteArray} (hx : l[i]? = some x) : w.cell? ⟨b, o + i, none⟩ = some (.string x) := h.get (by simp [hx])
theorem B8W (w : World) (va vb : Value) (l : List ByteArray) (hl : l.length ≤ 1000000) (ha : F5 w va l.length (l.map Value.string)) (hb : F5 w vb l.length (l.map Value.string)) :
  Fn PR B5 15 #[va, vb] w (fun u w' => u = .bool true ∧ C0 [] w w') := by
 refine Fn.pure (A2N (TW.go (κ := false) (S := []) ?_))
 unfold m8
 obtain ⟨a1, c1, rfl, h1⟩ := ha.form
 obtain ⟨a2, c2, rfl, h2⟩ := hb.form
 (have zz:=trivial;repeat((first|clear zz|with_reducible first|refine A3 ?_|refine A5 fun _=>?_|refine A4 fun _=>?_);try simp(disch:=first|omega|assumption|((repeat(first|exact A1|exact uH|apply A2|apply uT));first|done|fail)|(simp;first|done|omega|fail))[]))
 refine k4 (α := Unit) l.length (fun _ _ => .bool false) (fun _ _ => []) (fun _ _ => True) () trivial ?_
 rintro i _ hi _ L hL
 by_cases hlt : i < l.length
 ·have hx := List.getElem?_eq_getElem hlt
  obtain ⟨b1, o1, rfl, r1⟩ := h1 (by omega)
  obtain ⟨b2, o2, rfl, r2⟩ := h2 (by omega)
  have e1 := r1.str_at hx
  have e2 := r2.str_at hx
  (have zz:=trivial;repeat((first|clear zz|with_reducible first|refine A3 ?_|refine A5 fun _=>?_|refine A4 fun _=>?_);try simp(disch:=first|omega|assumption|((repeat(first|exact A1|exact uH|apply A2|apply uT));first|done|fail)|(simp;first|done|omega|fail))[hlt, e1, e2]))
  exact hL hlt () trivial
 ·obtain rfl : i = l.length := by omega
  (have zz:=trivial;repeat((first|clear zz|with_reducible first|refine A3 ?_|refine A5 fun _=>?_|refine A4 fun _=>?_);try simp(disch:=first|omega|assumption|((repeat(first|exact A1|exact uH|apply A2|apply uT));first|done|fail)|(simp;first|done|omega|fail))[]))
  exact B0 rfl
end Go.Proofs.YtpbmephflllolaaGreat
namespace Go.Proofs.YtpbmephflllolaaGreat
open Go
theorem A95 (w : World) (m : BaH) (c : CfgV) (hm : BaOk c m) (hw : LW false (B4 (B3 m)) w (B3 m) w) :
  Fn PR B5 20 #[.pointer (some ⟨m.b, 0, none⟩)] w (BDo w m (A4g m.st)) := by
 refine A09 (TW.goH (κ := false) ?_ hw)
 unfold f5
 unfold BDo
 generalize hS : B4 (B3 m) = S at *
 (have zz:=trivial;repeat((first|clear zz|with_reducible first|refine A3 ?_|refine A5 fun _=>?_|refine A4 fun _=>?_);try simp(disch:=first|omega|assumption|((repeat(first|exact A1|exact uH|apply A2|apply uT));first|done|fail)|(simp;first|done|omega|fail))[]))
 refine D6 (Hc := B3 m) f7 (fun w' _ hs => B2K w' m c hm hs) (by simp only [B3]; (repeat' constructor)) ?_
 rintro _ r rfl
 simp only [B3, L6, H5, List.cons_append, List.nil_append]
 refine g7 (e := 9) (k := 1) (v := r) (q := (K8 m.st.tabs).length) (xs := (K8 m.st.tabs).map Value.string) (by (repeat constructor)) ?_
 rintro ra rc rfl
 (have zz:=trivial;repeat((first|clear zz|with_reducible first|refine A3 ?_|refine A5 fun _=>?_|refine A4 fun _=>?_);try simp(disch:=first|omega|assumption|((repeat(first|exact A1|exact uH|apply A2|apply uT));first|done|fail)|(simp;first|done|omega|fail))[]))
 refine D4 m ⟨by simp [AnsV.val, A4g, B5m], rfl, rfl⟩ ?_
 try simp only [B3, L6, H5]
 (repeat' constructor)
theorem B78 {X : Nat → Prop} {κ : Bool} {S : List Nat} {w0 : World} {H Hk : List Res} {K : Value → WP} {b k' : Nat} {c0 c1 c2 c3 c4 c5 c6 : Value} {T : TypeId} {d : Array Value} {T2 : TypeId} (hp : Part [.pt b (.cells #[c0, c1, c2, c3, c4, c5, c6] T (0, 0)), .pt k' (.cells d T2 (0, 0))] H Hk) (hd : 0 < d.size)
  (hK : TW κ S w0 (.pt b (.cells #[c0, c1, c2, c3, c4, .pointer (some ⟨k', 0, none⟩), c6] T (0, 0)) :: .pt k' (.cells d T2 (0, 0)) :: Hk) (K (.tuple #[]))) : TW κ S w0 H (B2 PR X 36 [.pointer (some ⟨b, 5, none⟩), .pointer (some ⟨k', 0, none⟩)] K) := by
 refine TW.perm ?_ hp.perm
 refine D6 (Hc := [.pt b (.cells #[c0, c1, c2, c3, c4, c5, c6] T (0, 0))]) (Hk := .pt k' (.cells d T2 (0, 0)) :: Hk) L4 (fun w' hw' hs => A92 w' b k' _ _ _ _ _ _ _ _ d T2 hd hs (hw'.hold (.pt k' (.cells d T2 (0, 0))) (by simp)).1 (fun e => ?_)) (Part.cons Sel.here Part.nil) ?_
 ·have := (List.pairwise_cons.1 hw'.dis).1 (.pt k' (.cells d T2 (0, 0))) (by simp) b (by simp [Res.foot])
  exact this (by simp [Res.foot, e])
 ·rintro _ _ rfl
  exact hK
set_option maxHeartbeats 1000000 in
theorem B9L (w : World) (c : CfgV) : Fn PR B5 10 #[c.val] w (Rn [] w (fun (m : BaH) u => if Y1 c then u = .tuple #[.pointer (some ⟨m.b, 0, none⟩), .int .i64 0] ∧ m.st = ⟨c, [], A4E c⟩ else u = .tuple #[.pointer none, .int .i64 1])
  fun m => if Y1 c then B3 m else []) := by
 refine A8Q (TW.go (κ := false) (S := []) ?_)
 unfold A2b
 simp only [CfgV.val]
 (have zz:=trivial;repeat((first|clear zz|with_reducible first|refine A3 ?_|refine A5 fun _=>?_|refine A4 fun _=>?_);try simp(disch:=first|omega|assumption|((repeat(first|exact A1|exact uH|apply A2|apply uT));first|done|fail)|(simp;first|done|omega|fail))[]))
 rename_i bc
 refine D1 A8a (fun w' _ => B7F w' c) ?_
 cases hok : Y1 c with
 | false =>
  (have zz:=trivial;repeat((first|clear zz|with_reducible first|refine A3 ?_|refine A5 fun _=>?_|refine A4 fun _=>?_);try simp(disch:=first|omega|assumption|((repeat(first|exact A1|exact uH|apply A2|apply uT));first|done|fail)|(simp;first|done|omega|fail))[]))
  exact D4 ⟨0, 0, .nilIface, .nilIface, .nilIface, c, [], []⟩ (by simp) Sels.nil
 | true =>
  have hb : 1 ≤ c.sh ∧ c.sh ≤ 16 ∧ 1 ≤ c.cp ∧ c.cp ≤ 64 := by
   simp [Y1, g8] at hok; omega
  obtain ⟨n, hn⟩ : ∃ n : Nat, c.sh = n := ⟨c.sh.toNat, by omega⟩
  obtain ⟨k, hk⟩ : ∃ k : Nat, c.cp = k := ⟨c.cp.toNat, by omega⟩
  rw [hn] at hb
  rw [hk] at hb
  (have zz:=trivial;repeat((first|clear zz|with_reducible first|refine A3 ?_|refine A5 fun _=>?_|refine A4 fun _=>?_);try simp(disch:=first|omega|assumption|((repeat(first|exact A1|exact uH|apply A2|apply uT));first|done|fail)|(simp;first|done|omega|fail))[hn, hk]))
  rename_i bb bk
  refine B78 (b := bb) (k' := bk) (d := #[.slice none 0 0, .slice none 0 0]) (by (repeat' constructor)) (by simp) ?_
  refine p5 93 1 ?_
  refine C1W (f := G0) ?_
  (have zz:=trivial;repeat((first|clear zz|with_reducible first|refine A3 ?_|refine A5 fun _=>?_|refine A4 fun _=>?_);try simp(disch:=first|omega|assumption|((repeat(first|exact A1|exact uH|apply A2|apply uT));first|done|fail)|(simp;first|done|omega|fail))[hn, hk]))
  refine Sels.tw (rs := [.own 93 1 (.slice none 0 0) 0 [], .pt bb (.cells #[.int .i64 c.wk, .int .i64 n, .int .i64 k, .int .i64 c.idle, .int .i64 c.sl, .pointer (some ⟨bk, 0, none⟩), .slice none 0 0] 88), F3 G0 [], .pt bk (.cells #[.slice none 0 0, .slice none 0 0] 92),
   .pt bc (.cells #[.int .i64 c.wk, .int .i64 n, .int .i64 k, .int .i64 c.idle, .int .i64 c.sl] 23)]) (by (repeat' constructor)) ?_
  refine B3s n (fun i (x : List ShB × Option Addr × Nat) => [.own 93 1 (.slice x.2.1 i x.2.2) i (T0 x.1), .pt bb (.cells #[.int .i64 c.wk, .int .i64 n, .int .i64 k, .int .i64 c.idle, .int .i64 c.sl, .pointer (some ⟨bk, 0, none⟩), .slice x.2.1 i x.2.2] 88), F3 G0 x.1, .pt bk (.cells #[.slice none 0 0, .slice none 0 0] 92),
   .pt bc (.cells #[.int .i64 c.wk, .int .i64 n, .int .i64 k, .int .i64 c.idle, .int .i64 c.sl] 23)]) (fun i x => x.1.length = i ∧ x.1.map (E5 0) = x.1 ∧ x.1.map (fun t => (t.l, t.nx)) = List.replicate i (newE k, 0)) ([], none, 0) ⟨rfl, rfl, rfl⟩ ?_
  rintro i ⟨ts, xa, xc⟩ hi ⟨hlen, hlk, hmap⟩ L hL
  simp only at hlen hlk hmap hL ⊢
  by_cases hlt : i < n
  ·(have zz:=trivial;repeat((first|clear zz|with_reducible first|refine A3 ?_|refine A5 fun _=>?_|refine A4 fun _=>?_);try simp(disch:=first|omega|assumption|((repeat(first|exact A1|exact uH|apply A2|apply uT));first|done|fail)|(simp;first|done|omega|fail))[hlt]))
   refine M8 A4x (fun w' _ => A64 w' k (by omega)) ?_
   rintro _ r rfl
   refine A04 (e := 160) (k := 4) (v := r) (q := (newE k).length) (xs := (newE k).flatMap F1) (by (repeat constructor)) fun hr1 hr2 hr3 => ?_
   have hr4 : r.cells.toList = [r] := by rw [hr1]
   (have zz:=trivial;repeat((first|clear zz|with_reducible first|refine A3 ?_|refine A5 fun _=>?_|refine A4 fun _=>?_|refine D0 fun _=>?_|refine C6 (hK:=fun _=>?_)|refine C7 (hK:=fun _=>?_)|refine C9 (hK:=fun _=>?_)|refine C4 (hK:=fun _=>?_)|refine C8 (hK:=fun _=>?_));try simp(disch:=first|omega|assumption|((repeat(first|exact A1|exact uH|apply A2|apply uT));first|done|fail)|(simp;first|done|omega|fail))[hlt, hr1]))
   rename_i bs gs
   refine A0Z (e := 93) (k := 1) (q := i) (r := 1) (xs := T0 ts) (news := [.pointer (some ⟨bs, 0, none⟩)]) (by (repeat constructor)) (M6.own (by (repeat constructor))) (by decide) (by simp) (by simp) (by simp only [maxLen]; omega) (by omega) fun a' c' => ?_
   (have zz:=trivial;repeat((first|clear zz|with_reducible first|refine A3 ?_|refine A5 fun _=>?_|refine A4 fun _=>?_);try simp(disch:=first|omega|assumption|((repeat(first|exact A1|exact uH|apply A2|apply uT));first|done|fail)|(simp;first|done|omega|fail))[hlt]))
   refine B9l (f := G0) (y := ⟨bs, 0, r, newE k, 0⟩) (ls := ts) (by simp only [G0, Y2, List.cons_append, List.nil_append]; (repeat' constructor)) ?_
   refine Sels.tw ?_ (hL hlt (ts ++ [⟨bs, 0, r, newE k, 0⟩], a', c') ⟨by simp [hlen], by rw [List.map_append, hlk]; rfl, by rw [List.map_append, hmap, List.replicate_succ']; rfl⟩)
   simp only [T0, List.map_append, List.map_cons, List.map_nil, B8J]
   (repeat' constructor)
  ·obtain rfl : i = n := by omega
   (have zz:=trivial;repeat((first|clear zz|with_reducible first|refine A3 ?_|refine A5 fun _=>?_|refine A4 fun _=>?_);try simp(disch:=first|omega|assumption|((repeat(first|exact A1|exact uH|apply A2|apply uT));first|done|fail)|(simp;first|done|omega|fail))[]))
   refine p5 75 2 ?_
   refine p5 217 2 ?_
   refine D4 ⟨bb, bk, .slice none 0 0, .slice none 0 0, .slice xa i xc, c, [], ts⟩ ⟨rfl, ?_⟩ ?_
   ·simp only [BaH.st, hmap, A4E, hn, hk, Int.toNat_natCast]
   ·have hs0 : F9 (E6 []) = [] := List.length_eq_zero_iff.1 (by rw [a8]; rfl)
    simp only [B3, L6, H5, hn, hk, hlen, hlk, hs0, List.length_nil, List.flatMap_nil]
    (repeat' constructor)
theorem C0u (w : World) (m : BaH) (o : OpV) (v : Value) (now : Int) (c : CfgV) (hv : PoolBt w m v o.pool) (hpk : o.packet.size < 2 ^ 40) (hm : BaOk c m) (hw : LW false (B4 (B3 m)) w (B3 m) w) :
  Fn PR B5 13 #[.pointer (some ⟨m.b, 0, none⟩), o.val v, .int .i64 now] w (BDo w m (doV m.st o now)) := by
 refine A2U (TW.goH (κ := false) (S := B4 (B3 m)) ?_ hw)
 unfold m4
 simp only [OpV.val]
 unfold BDo
 generalize hS : B4 (B3 m) = S at *
 have hc1 : v.cells.size = 1 := by rw [hv.form.1]; rfl
 by_cases k0 : o.kind = 0
 ·rw [B30 _ _ _ k0]
  (have zz:=trivial;repeat((first|clear zz|with_reducible first|refine A3 ?_|refine A5 fun _=>?_|refine A4 fun _=>?_);try simp(disch:=first|omega|assumption|((repeat(first|exact A1|exact uH|apply A2|apply uT));first|done|fail)|(simp;first|done|omega|fail))[k0]))
  refine D6 (Hc := B3 m) W7 (fun w' hw' hs => A6F w' m o.packet now c hpk hm hs) (by simp only [B3]; (repeat' constructor)) ?_
  rintro m' _ ⟨rfl, hb, hst⟩
  simp only [B3, L6, H5, List.cons_append, List.nil_append]
  (have zz:=trivial;repeat((first|clear zz|with_reducible first|refine A3 ?_|refine A5 fun _=>?_|refine A4 fun _=>?_);try simp(disch:=first|omega|assumption|((repeat(first|exact A1|exact uH|apply A2|apply uT));first|done|fail)|(simp;first|done|omega|fail))[AnsV.val]))
  refine D4 m' ⟨by simp [AnsV.val], hb, hst⟩ ?_
  simp only [B3, L6, H5]
  (repeat' constructor)
 by_cases k1 : o.kind = 1
 ·rw [B54 _ _ _ k1]
  (have zz:=trivial;repeat((first|clear zz|with_reducible first|refine A3 ?_|refine A5 fun _=>?_|refine A4 fun _=>?_);try simp(disch:=first|omega|assumption|((repeat(first|exact A1|exact uH|apply A2|apply uT));first|done|fail)|(simp;first|done|omega|fail))[k0, k1]))
  refine D6 (Hc := B3 m) Z3 (fun w' hw' hs => A8E w' m o.pool v ⟨hv.at (by rw [hS]; exact hw'.ks), hv.off, hv.len, hv.form⟩ hs) (by simp only [B3]; (repeat' constructor)) ?_
  rintro m' _ ⟨rfl, hb, hst⟩
  simp only [B3, L6, H5, List.cons_append, List.nil_append]
  (have zz:=trivial;repeat((first|clear zz|with_reducible first|refine A3 ?_|refine A5 fun _=>?_|refine A4 fun _=>?_);try simp(disch:=first|omega|assumption|((repeat(first|exact A1|exact uH|apply A2|apply uT));first|done|fail)|(simp;first|done|omega|fail))[AnsV.val]))
  refine D4 m' ⟨by simp [AnsV.val], hb, hst⟩ ?_
  simp only [B3, L6, H5]
  (repeat' constructor)
 by_cases k2 : o.kind = 2
 ·rw [B6D _ _ _ k2]
  (have zz:=trivial;repeat((first|clear zz|with_reducible first|refine A3 ?_|refine A5 fun _=>?_|refine A4 fun _=>?_);try simp(disch:=first|omega|assumption|((repeat(first|exact A1|exact uH|apply A2|apply uT));first|done|fail)|(simp;first|done|omega|fail))[k0, k1, k2]))
  refine D6 (Hc := B3 m) a7 (fun w' hw' hs => A8L w' m o.shard now c hm hs) (by simp only [B3]; (repeat' constructor)) ?_
  rintro m' _ ⟨rfl, hb, hst⟩
  simp only [B3, L6, H5, List.cons_append, List.nil_append]
  (have zz:=trivial;repeat((first|clear zz|with_reducible first|refine A3 ?_|refine A5 fun _=>?_|refine A4 fun _=>?_);try simp(disch:=first|omega|assumption|((repeat(first|exact A1|exact uH|apply A2|apply uT));first|done|fail)|(simp;first|done|omega|fail))[AnsV.val]))
  refine D4 m' ⟨by simp [AnsV.val], hb, hst⟩ ?_
  simp only [B3, L6, H5]
  (repeat' constructor)
 by_cases k3 : o.kind = 3
 ·rw [B9p _ _ _ k3]
  (have zz:=trivial;repeat((first|clear zz|with_reducible first|refine A3 ?_|refine A5 fun _=>?_|refine A4 fun _=>?_);try simp(disch:=first|omega|assumption|((repeat(first|exact A1|exact uH|apply A2|apply uT));first|done|fail)|(simp;first|done|omega|fail))[k0, k1, k2, k3]))
  refine D6 (Hc := B3 m) b8 (fun w' hw' hs => A95 w' m c hm hs) (by simp only [B3]; (repeat' constructor)) ?_
  rintro m' _ ⟨rfl, hb, hst⟩
  simp only [B3, L6, H5, List.cons_append, List.nil_append]
  (have zz:=trivial;repeat((first|clear zz|with_reducible first|refine A3 ?_|refine A5 fun _=>?_|refine A4 fun _=>?_);try simp(disch:=first|omega|assumption|((repeat(first|exact A1|exact uH|apply A2|apply uT));first|done|fail)|(simp;first|done|omega|fail))[AnsV.val]))
  refine D4 m' ⟨by simp [AnsV.val], hb, hst⟩ ?_
  simp only [B3, L6, H5]
  (repeat' constructor)
 ·rw [B4A _ _ _ (by omega)]
  simp only [B3, L6, H5]
  (have zz:=trivial;repeat((first|clear zz|with_reducible first|refine A3 ?_|refine A5 fun _=>?_|refine A4 fun _=>?_);try simp(disch:=first|omega|assumption|((repeat(first|exact A1|exact uH|apply A2|apply uT));first|done|fail)|(simp;first|done|omega|fail))[k0, k1, k2, k3]))
  refine D4 m ⟨by simp [AnsV.val], rfl, rfl⟩ ?_
  try simp only [B3, L6, H5]
  (repeat' constructor)
end Go.Proofs.YtpbmephflllolaaGreat
namespace Go.Proofs.YtpbmephflllolaaGreat
open Go
section
variable {S : List Nat} {w0 w : World} {H Hk : List Res} {K : Value → WP}
theorem B5V {m : BaH} : PoolBt w m (.slice none 0 0) [] := ⟨Or.inl ⟨rfl, rfl, none, 0, rfl⟩, fun h => by simp at h, by simp, rfl, rfl⟩
theorem B44 {κ : Bool} {m : BaH} {v : Value} {p : List G1} {e : TypeId} (hw : LW κ S w0 (B3 m ++ Hk) w) (hm : Res.own e 2 v p.length (p.flatMap F6) ∈ Hk) (hl : p.length ≤ 1000) : PoolBt w m v p := by
 have h := hw.hold _ (List.mem_append_right _ hm)
 obtain ⟨a, c, e⟩ := M3.form h
 refine ⟨M3.rd h, fun _ g hg hf => ?_, hl, by rw [e]; rfl, by rw [e]; rfl⟩
 obtain ⟨s, hs, hbs⟩ := M2.1 hf
 exact (List.pairwise_append.1 hw.dis).2.2 s hs _ hm g hbs hg
theorem A1U {κ : Bool} {m : BaH} {v : Value} {p : List G1} (hw : LW κ [] w0 (B3 m ++ Hk) w) (h : F5 w0 v p.length (p.flatMap F6)) (hl : p.length ≤ 1000) : PoolBt w m v p := by
 refine ⟨h.ks hw.ks (by simp), fun h0 g hg hf => ?_, hl, by obtain ⟨a, c, e, _⟩ := h.form; rw [e]; exact ⟨rfl, rfl⟩⟩
 have h1 := B7p h (by rw [P8 (k := 2) fun _ => rfl]; omega) h0 g hg
 obtain ⟨s, hs, hbs⟩ := M2.1 hf
 rcases (hw.own s (List.mem_append_left _ hs) g hbs).1 with h2 | h2
 ·cases h2
 ·omega
theorem A75 {m : BaH} {o : OpV} {v : Value} {now : Int} {c : CfgV} (r : MoS × AnsV) (hi : Inv c m.st) (hp : Part (B3 m) H Hk) (hpa : ∀ w, LW false S w0 (B3 m ++ Hk) w → PoolBt w m v o.pool) (hpk : o.packet.size < 2 ^ 40) (hr : doV m.st o now = r)
  (hK : ∀ m' : BaH, m'.b = m.b → m'.st = r.1 → Inv c m'.st → TW false S w0 (B3 m' ++ Hk) (K r.2.val)) : TW false S w0 H (B2 PR B5 13 [.pointer (some ⟨m.b, 0, none⟩), o.val v, .int .i64 now] K) := by
 subst hr
 refine TW.perm ?_ hp.perm
 refine D6 (Hc := B3 m) A12 (fun w' hw hs => C0u w' m o v now c (hpa w' hw) hpk (BaOk.of hi) hs) P7 ?_
 rintro m' _ ⟨rfl, hb, hst⟩
 exact hK m' hb hst (by rw [hst]; exact hi.do' o now)
theorem B3d {m : BaH} {pk : ByteArray} {now : Int} {c : CfgV} (r : MoS × AnsV) (hi : Inv c m.st) (hp : Part (B3 m) H Hk) (hpk : pk.size < 2 ^ 40) (hr : l0 m.st pk now = r)
  (hK : ∀ m' : BaH, m'.b = m.b → m'.st = r.1 → Inv c m'.st → TW false S w0 (B3 m' ++ Hk) (K r.2.val)) : TW false S w0 H (B2 PR B5 24 [.pointer (some ⟨m.b, 0, none⟩), .string pk, .int .i64 now] K) := by
 subst hr
 refine D6 (Hc := B3 m) W7 (fun w' hw hs => A6F w' m pk now c hpk (BaOk.of hi) hs) hp ?_
 rintro m' _ ⟨rfl, hb, hst⟩
 exact hK m' hb hst (by rw [hst, ← B30 m.st ⟨0, pk, [], 0⟩ now rfl]; exact hi.do' _ now)
theorem C0n {m : BaH} {p : List G1} {v : Value} {c : CfgV} (r : MoS × AnsV) (hi : Inv c m.st) (hp : Part (B3 m) H Hk) (hpa : ∀ w, LW false S w0 (B3 m ++ Hk) w → PoolBt w m v p) (hr : A55 m.st p = r)
  (hK : ∀ m' : BaH, m'.b = m.b → m'.st = r.1 → Inv c m'.st → TW false S w0 (B3 m' ++ Hk) (K r.2.val)) : TW false S w0 H (B2 PR B5 26 [.pointer (some ⟨m.b, 0, none⟩), v] K) := by
 subst hr
 refine TW.perm ?_ hp.perm
 refine D6 (Hc := B3 m) Z3 (fun w' hw hs => A8E w' m p v (hpa w' hw) hs) P7 ?_
 rintro m' _ ⟨rfl, hb, hst⟩
 exact hK m' hb hst (by rw [hst, ← B54 m.st ⟨1, N5, p, 0⟩ 0 rfl]; exact hi.do' _ 0)
theorem B5j {m : BaH} {j now : Int} {c : CfgV} (r : MoS × AnsV) (hi : Inv c m.st) (hp : Part (B3 m) H Hk) (hr : A1v m.st j now = r)
  (hK : ∀ m' : BaH, m'.b = m.b → m'.st = r.1 → Inv c m'.st → TW false S w0 (B3 m' ++ Hk) (K r.2.val)) : TW false S w0 H (B2 PR B5 27 [.pointer (some ⟨m.b, 0, none⟩), .int .i64 j, .int .i64 now] K) := by
 subst hr
 refine D6 (Hc := B3 m) a7 (fun w' hw hs => A8L w' m j now c (BaOk.of hi) hs) hp ?_
 rintro m' _ ⟨rfl, hb, hst⟩
 exact hK m' hb hst (by rw [hst, ← B6D m.st ⟨2, N5, [], j⟩ now rfl]; exact hi.do' _ now)
theorem A85 {m : BaH} {c : CfgV} (hi : Inv c m.st) (hp : Part (B3 m) H Hk)
  (hK : ∀ m' : BaH, m'.b = m.b → m'.st = m.st → TW false S w0 (B3 m' ++ Hk) (K (A4g m.st).2.val)) : TW false S w0 H (B2 PR B5 20 [.pointer (some ⟨m.b, 0, none⟩)] K) := by
 refine D6 (Hc := B3 m) b8 (fun w' hw hs => A95 w' m c (BaOk.of hi) hs) hp ?_
 rintro m' _ ⟨rfl, hb, hst⟩
 exact hK m' hb hst
theorem A9G {m : BaH} {c : CfgV} (hi : Inv c m.st) (hp : Part (B3 m) H Hk)
  (hK : ∀ a b, TW false S w0 (.own 9 1 (.slice a (K8 m.st.tabs).length b) (K8 m.st.tabs).length ((K8 m.st.tabs).map Value.string) :: (B3 m ++ Hk)) (K (.slice a (K8 m.st.tabs).length b))) : TW false S w0 H (B2 PR B5 16 [.pointer (some ⟨m.b, 0, none⟩)] K) := by
 refine D6 (Hc := B3 m) f7 (fun w' hw hs => B2K w' m c (BaOk.of hi) hs) hp ?_
 rintro _ r rfl
 refine g7 (e := 9) (k := 1) (v := r) (q := (K8 m.st.tabs).length) (xs := (K8 m.st.tabs).map Value.string) (by simp) ?_
 rintro a b rfl
 exact hK a b
theorem C0J {m : BaH} {c : CfgV} (hi : Inv c m.st) (hp : Part (B3 m) H Hk) (hK : ∀ a b, TW false S w0 (.own 75 2 (.slice a m.pool.length b) m.pool.length (m.pool.flatMap F6) :: (B3 m ++ Hk)) (K (.slice a m.pool.length b))) : TW false S w0 H (B2 PR B5 19 [.pointer (some ⟨m.b, 0, none⟩)] K) := by
 refine D6 (Hc := B3 m) A07 (fun w' hw hs => B8U w' m (BaOk.of hi).pool hs) hp ?_
 rintro _ r rfl
 refine g7 (e := 75) (k := 2) (v := r) (q := m.pool.length) (xs := m.pool.flatMap F6) (by simp) ?_
 rintro a b rfl
 exact hK a b
theorem A0w {c : CfgV} (h0 : Y1 c = false → TW false S w0 H (K (.tuple #[.pointer none, .int .i64 1])))
  (h1 : ∀ m : BaH, Y1 c = true → m.st = ⟨c, [], A4E c⟩ → Inv c m.st → TW false S w0 (B3 m ++ H) (K (.tuple #[.pointer (some ⟨m.b, 0, none⟩), .int .i64 0]))) : TW false S w0 H (B2 PR B5 10 [c.val] K) := by
 refine M8 A7e (fun w' _ => B9L w' c) ?_
 rintro m u hm
 cases hc : Y1 c with
 | false =>
  simp only [hc, Bool.false_eq_true, if_false] at hm ⊢
  subst hm
  exact h0 hc
 | true =>
  simp only [hc, if_true] at hm ⊢
  obtain ⟨rfl, e⟩ := hm
  exact h1 m hc e (by rw [e]; exact Inv.new hc)
end
end Go.Proofs.YtpbmephflllolaaGreat
namespace Go.Proofs.YtpbmephflllolaaGreat
open Go
theorem C0z : A1v (wk2 0) 0 6 = (wk1, ⟨0, 0, false, 1⟩) := by kernel_rfl
theorem C1K : A1v wk1 1 6 = (wk1, ⟨1, 0, false, 0⟩) := by kernel_rfl
theorem B5a (w : World) : Fn PR B5 8 #[] w (fun v w' => v = .bool true ∧ C0 [] w w') := by
 refine Fn.pure (A2Y (TW.go (κ := false) (S := []) ?_))
 unfold m0
 (have zz:=trivial;repeat((first|clear zz|with_reducible first|refine A3 ?_|refine A5 fun _=>?_|refine A4 fun _=>?_);try simp(disch:=first|omega|assumption|((repeat(first|exact A1|exact uH|apply A2|apply uT));first|done|fail)|(simp;first|done|omega|fail))[]))
 refine A0w (c := wkC) (fun h => by rw [C0l] at h; cases h) fun m _ hst hi => ?_
 (have zz:=trivial;repeat((first|clear zz|with_reducible first|refine A3 ?_|refine A5 fun _=>?_|refine A4 fun _=>?_);try simp(disch:=first|omega|assumption|((repeat(first|exact A1|exact uH|apply A2|apply uT));first|done|fail)|(simp;first|done|omega|fail))[]))
 refine A0w (c := ⟨0, 0, 0, 0, 0⟩) (fun _ => ?_) (fun _ h => by rw [B9e] at h; cases h)
 (have zz:=trivial;repeat((first|clear zz|with_reducible first|refine A3 ?_|refine A5 fun _=>?_|refine A4 fun _=>?_);try simp(disch:=first|omega|assumption|((repeat(first|exact A1|exact uH|apply A2|apply uT));first|done|fail)|(simp;first|done|omega|fail))[]))
 refine D1 A9U (fun w' _ => B2q w' z6 0) ?_
 rw [C0s]
 (have zz:=trivial;repeat((first|clear zz|with_reducible first|refine A3 ?_|refine A5 fun _=>?_|refine A4 fun _=>?_);try simp(disch:=first|omega|assumption|((repeat(first|exact A1|exact uH|apply A2|apply uT));first|done|fail)|(simp;first|done|omega|fail))[]))
 refine B3d (wk0, ⟨11, 0, false, 0⟩) hi (by ((repeat (first | exact P7 | apply Part.skip)); first | done | fail)) B4C (by rw [hst]; exact C5m) fun m1 hb1 hst1 hi1 => ?_
 rw [← hb1]
 clear hst hi hb1
 (have zz:=trivial;repeat((first|clear zz|with_reducible first|refine A3 ?_|refine A5 fun _=>?_|refine A4 fun _=>?_|refine D0 fun _=>?_|refine C6 (hK:=fun _=>?_)|refine C7 (hK:=fun _=>?_)|refine C9 (hK:=fun _=>?_)|refine C4 (hK:=fun _=>?_)|refine C8 (hK:=fun _=>?_));try simp(disch:=first|omega|assumption|((repeat(first|exact A1|exact uH|apply A2|apply uT));first|done|fail)|(simp;first|done|omega|fail))[AnsV.val]))
 refine C0n (p := [(7, 1)]) (wk1, ⟨0, 0, false, 0⟩) hi1 (by ((repeat (first | exact P7 | apply Part.skip)); first | done | fail)) (fun _ h => B44 (p := [(7, 1)]) h A1 (by decide)) (by rw [hst1]; exact C5C) fun m2 hb2 hst2 hi2 => ?_
 rw [← hb2]
 clear hst1 hi1 hb2
 (have zz:=trivial;repeat((first|clear zz|with_reducible first|refine A3 ?_|refine A5 fun _=>?_|refine A4 fun _=>?_);try simp(disch:=first|omega|assumption|((repeat(first|exact A1|exact uH|apply A2|apply uT));first|done|fail)|(simp;first|done|omega|fail))[AnsV.val]))
 refine B3d (wk2 0, ⟨0, 7, true, 0⟩) hi2 (by ((repeat (first | exact P7 | apply Part.skip)); first | done | fail)) B4C (by rw [hst2]; exact C45) fun m1 hb1 hst1 hi1 => ?_
 rw [← hb1]
 clear hst2 hi2 hb1
 (have zz:=trivial;repeat((first|clear zz|with_reducible first|refine A3 ?_|refine A5 fun _=>?_|refine A4 fun _=>?_);try simp(disch:=first|omega|assumption|((repeat(first|exact A1|exact uH|apply A2|apply uT));first|done|fail)|(simp;first|done|omega|fail))[AnsV.val]))
 refine A85 hi1 (by ((repeat (first | exact P7 | apply Part.skip)); first | done | fail)) fun m2 hb2 hst2 => ?_
 have hi2 : Inv wkC m2.st := by rw [hst2]; exact hi1
 rw [hst1] at hst2
 rw [← hb2, hst1, show (A4g (wk2 0)).2 = ⟨0, 0, false, 1⟩ from rfl]
 clear hst1 hi1 hb2
 (have zz:=trivial;repeat((first|clear zz|with_reducible first|refine A3 ?_|refine A5 fun _=>?_|refine A4 fun _=>?_);try simp(disch:=first|omega|assumption|((repeat(first|exact A1|exact uH|apply A2|apply uT));first|done|fail)|(simp;first|done|omega|fail))[AnsV.val]))
 refine B5j (wk1, ⟨0, 0, false, 1⟩) hi2 (by ((repeat (first | exact P7 | apply Part.skip)); first | done | fail)) (by rw [hst2]; exact C0z) fun m1 hb1 hst1 hi1 => ?_
 rw [← hb1]
 clear hst2 hi2 hb1
 (have zz:=trivial;repeat((first|clear zz|with_reducible first|refine A3 ?_|refine A5 fun _=>?_|refine A4 fun _=>?_);try simp(disch:=first|omega|assumption|((repeat(first|exact A1|exact uH|apply A2|apply uT));first|done|fail)|(simp;first|done|omega|fail))[AnsV.val]))
 refine B5j (wk1, ⟨1, 0, false, 0⟩) hi1 (by ((repeat (first | exact P7 | apply Part.skip)); first | done | fail)) (by rw [hst1]; exact C1K) fun m2 hb2 hst2 hi2 => ?_
 rw [← hb2]
 clear hst1 hi1 hb2
 simp only [B3, List.cons_append, List.nil_append]
 (have zz:=trivial;repeat((first|clear zz|with_reducible first|refine A3 ?_|refine A5 fun _=>?_|refine A4 fun _=>?_);try simp(disch:=first|omega|assumption|((repeat(first|exact A1|exact uH|apply A2|apply uT));first|done|fail)|(simp;first|done|omega|fail))[AnsV.val]))
 refine A9G hi2 (by simp only [B3]; (repeat' constructor)) fun a b => ?_
 have hlv : K8 m2.st.tabs = [] := by rw [hst2]; rfl
 simp only [hlv, B3, List.cons_append, List.nil_append]
 (have zz:=trivial;repeat((first|clear zz|with_reducible first|refine A3 ?_|refine A5 fun _=>?_|refine A4 fun _=>?_);try simp(disch:=first|omega|assumption|((repeat(first|exact A1|exact uH|apply A2|apply uT));first|done|fail)|(simp;first|done|omega|fail))[AnsV.val]))
 have hp2 : m2.pool = [(7, 1)] := congrArg MoS.pool hst2
 refine C0J hi2 (by simp only [B3]; (repeat' constructor)) fun a b => ?_
 rw [hp2]
 simp only [B3, List.cons_append, List.nil_append]
 (have zz:=trivial;repeat((first|clear zz|with_reducible first|refine A3 ?_|refine A5 fun _=>?_|refine A4 fun _=>?_);try simp(disch:=first|omega|assumption|((repeat(first|exact A1|exact uH|apply A2|apply uT));first|done|fail)|(simp;first|done|omega|fail))[AnsV.val]))
 refine A75 (o := ⟨9, N5, [], 0⟩) (wk1, ⟨1, 0, false, 0⟩) hi2 (by simp only [B3, hp2]; (repeat' constructor)) (fun _ _ => B5V) (by simp) (by rw [hst2, B4A _ _ _ (Or.inr (by decide))]) fun m1 hb1 hst1 hi1 => ?_
 (have zz:=trivial;repeat((first|clear zz|with_reducible first|refine A3 ?_|refine A5 fun _=>?_|refine A4 fun _=>?_);try simp(disch:=first|omega|assumption|((repeat(first|exact A1|exact uH|apply A2|apply uT));first|done|fail)|(simp;first|done|omega|fail))[AnsV.val]))
 exact B0 rfl
end Go.Proofs.YtpbmephflllolaaGreat
namespace Go.Proofs.YtpbmephflllolaaGreat
open Go
theorem B1b (w : World) (c : CfgV) (v : Value) (l : List ((OpV × Value) × Int)) (hn : l.length ≤ 9223372036854775807) (hv : F5 w v l.length (l.flatMap A06)) (hp : ∀ s ∈ l, B2k s.1) :
  Fn PR B5 9 #[c.val, v] w (fun r w' => r = .bool (A3F c (l.map (·.1.1))) ∧ C0 [] w w') := by
 refine Fn.pure (A3l (TW.go (κ := false) (S := []) ?_))
 unfold r7
 obtain ⟨a, cc, rfl, hr⟩ := hv.form
 obtain ⟨n, hnn⟩ : ∃ n, n = min l.length 13 := ⟨_, rfl⟩
 simp only [CfgV.val]
 (have zz:=trivial;repeat((first|clear zz|with_reducible first|refine A3 ?_|refine A5 fun _=>?_|refine A4 fun _=>?_);try simp(disch:=first|omega|assumption|((repeat(first|exact A1|exact uH|apply A2|apply uT));first|done|fail)|(simp;first|done|omega|fail))[]))
 rename_i bc
 refine p5 42 4 ?_
 refine k4 n (fun i (x : Option Addr × Nat) => .slice x.1 i x.2) (fun i x => [.own 42 4 (.slice x.1 i x.2) i (((l.map (·.1)).take i).flatMap f9), .pt bc (.cells #[.int .i64 c.wk, .int .i64 c.sh, .int .i64 c.cp, .int .i64 c.idle, .int .i64 c.sl] 23)]) (fun i x => True) (none, 0) trivial ?_ (by simp)
 rintro i ⟨xa, xc⟩ hi _ L hL
 by_cases hlt : i < n
 ·have hil : i < l.length := by omega
  have hx := List.getElem?_eq_getElem hil
  obtain ⟨b, o, rfl, hrow⟩ := hr (by omega)
  have h1 := hrow.partAt (f := A06) (k := 5) (fun _ => rfl) hx 0 4 (by omega)
  rw [show ((A06 l[i]).drop 0).take 4 = f9 l[i].1 from rfl, Nat.add_zero] at h1
  have c1 : (i : Int) ≤ 12 := by omega
  have hst : ((l.map (·.1)).take (i + 1)).flatMap f9 = ((l.map (·.1)).take i).flatMap f9 ++ f9 l[i].1 := by
   rw [List.take_add_one, List.getElem?_map, hx]; simp [List.flatMap_append]
  (have zz:=trivial;repeat((first|clear zz|with_reducible first|refine A3 ?_|refine A5 fun _=>?_|refine A4 fun _=>?_|refine D0 fun _=>?_|refine C6 (hK:=fun _=>?_)|refine C7 (hK:=fun _=>?_)|refine C9 (hK:=fun _=>?_)|refine C4 (hK:=fun _=>?_)|refine C8 (hK:=fun _=>?_));try simp(disch:=first|omega|assumption|((repeat(first|exact A1|exact uH|apply A2|apply uT));first|done|fail)|(simp;first|done|omega|fail))[hil, h1, c1, f9]))
  obtain ⟨pa, pc, hpl⟩ := hp l[i] (List.getElem_mem hil)
  refine A0Z (e := 42) (k := 4) (q := i) (r := 1) (xs := ((l.map (·.1)).take i).flatMap f9) (news := f9 l[i].1) (by (repeat constructor)) (M6.own (by (repeat constructor))) (by decide) rfl (by simp [f9, hpl]) (by simp only [maxLen]; omega) (by omega) fun a' c' => ?_
  (have zz:=trivial;repeat((first|clear zz|with_reducible first|refine A3 ?_|refine A5 fun _=>?_|refine A4 fun _=>?_);try simp(disch:=first|omega|assumption|((repeat(first|exact A1|exact uH|apply A2|apply uT));first|done|fail)|(simp;first|done|omega|fail))[]))
  have h2 := hL hlt (a', c') trivial
  rw [hst] at h2
  exact Sels.tw (by (repeat' constructor)) h2
 ·have hin : i = n := by omega
  have hce : (c.val : Value) = .agg #[.int .i64 c.wk, .int .i64 c.sh, .int .i64 c.cp, .int .i64 c.idle, .int .i64 c.sl] := rfl
  have hlen : (((l.map (·.1)).take i)).length = i := by simp; omega
  have hm : ((l.map (·.1)).take i).map (·.1) = (l.map (·.1.1)).take 13 := by
   rw [List.map_take, List.map_map, hin, hnn]
   by_cases h : l.length ≤ 13
   ·rw [Nat.min_eq_left h, List.take_of_length_le (by simp), List.take_of_length_le (by simp; omega)]; rfl
   ·rw [Nat.min_eq_right (by omega)]; rfl
  have hfin : l3 c = true → ∀ K : Value → WP, (∀ H : List Res, TW false [] w H (K (.bool (A3F c (l.map (·.1.1)))))) → TW false [] w [.own 42 4 (.slice xa i xc) i (((l.map (·.1)).take i).flatMap f9), .pt bc (.cells #[.int .i64 c.wk, .int .i64 c.sh, .int .i64 c.cp, .int .i64 c.idle, .int .i64 c.sl] 23)]
    (B2 PR B5 34 [.slice xa i xc, .int .i64 12] K) := fun hs K hK => by
   refine D1 A25 (fun w' hw' => by
    have := B7n w' (.slice xa i xc) ((l.map (·.1)).take i) 12 (by omega) (by rw [hlen]; exact M6.own (by (repeat constructor)) w' hw') fun o ho => by
     obtain ⟨s, hs, rfl⟩ := List.mem_map.1 (List.mem_of_mem_take ho)
     exact hp s hs
    exact this) ?_
   have e : A3F c (l.map (·.1.1)) = u4 (((l.map (·.1)).take i).map (·.1)) 12 := by rw [hm, A3F, hs]; simp
   rw [← e]; exact hK _
  by_cases hil : i < l.length
  ·have c1 : ¬ (i : Int) ≤ 12 := by omega
   (have zz:=trivial;repeat((first|clear zz|with_reducible first|refine A3 ?_|refine A5 fun _=>?_|refine A4 fun _=>?_);try simp(disch:=first|omega|assumption|((repeat(first|exact A1|exact uH|apply A2|apply uT));first|done|fail)|(simp;first|done|omega|fail))[hil, c1]))
   refine D1 j3 (fun w' _ => B1e w' c) ?_
   cases hs : l3 c with
   | true =>
    (have zz:=trivial;repeat((first|clear zz|with_reducible first|refine A3 ?_|refine A5 fun _=>?_|refine A4 fun _=>?_);try simp(disch:=first|omega|assumption|((repeat(first|exact A1|exact uH|apply A2|apply uT));first|done|fail)|(simp;first|done|omega|fail))[]))
    refine hfin hs _ fun H => ?_
    (have zz:=trivial;repeat((first|clear zz|with_reducible first|refine A3 ?_|refine A5 fun _=>?_|refine A4 fun _=>?_);try simp(disch:=first|omega|assumption|((repeat(first|exact A1|exact uH|apply A2|apply uT));first|done|fail)|(simp;first|done|omega|fail))[]))
    exact B0 rfl
   | false => (have zz:=trivial;repeat((first|clear zz|with_reducible first|refine A3 ?_|refine A5 fun _=>?_|refine A4 fun _=>?_);try simp(disch:=first|omega|assumption|((repeat(first|exact A1|exact uH|apply A2|apply uT));first|done|fail)|(simp;first|done|omega|fail))[])); exact B0 (by simp [A3F, hs])
  ·(have zz:=trivial;repeat((first|clear zz|with_reducible first|refine A3 ?_|refine A5 fun _=>?_|refine A4 fun _=>?_);try simp(disch:=first|omega|assumption|((repeat(first|exact A1|exact uH|apply A2|apply uT));first|done|fail)|(simp;first|done|omega|fail))[hil]))
   refine D1 j3 (fun w' _ => B1e w' c) ?_
   cases hs : l3 c with
   | true =>
    (have zz:=trivial;repeat((first|clear zz|with_reducible first|refine A3 ?_|refine A5 fun _=>?_|refine A4 fun _=>?_);try simp(disch:=first|omega|assumption|((repeat(first|exact A1|exact uH|apply A2|apply uT));first|done|fail)|(simp;first|done|omega|fail))[]))
    refine hfin hs _ fun H => ?_
    (have zz:=trivial;repeat((first|clear zz|with_reducible first|refine A3 ?_|refine A5 fun _=>?_|refine A4 fun _=>?_);try simp(disch:=first|omega|assumption|((repeat(first|exact A1|exact uH|apply A2|apply uT));first|done|fail)|(simp;first|done|omega|fail))[]))
    exact B0 rfl
   | false => (have zz:=trivial;repeat((first|clear zz|with_reducible first|refine A3 ?_|refine A5 fun _=>?_|refine A4 fun _=>?_);try simp(disch:=first|omega|assumption|((repeat(first|exact A1|exact uH|apply A2|apply uT));first|done|fail)|(simp;first|done|omega|fail))[])); exact B0 (by simp [A3F, hs])
end Go.Proofs.YtpbmephflllolaaGreat
namespace Go.Proofs.YtpbmephflllolaaGreat
open Go
def V0 (X : Nat → Prop) (t0 t1 t2 : Value) (R : Value → WP) : WP :=
 B1 PR X (Instr.box 23 t0) fun t3 =>
 B2 PR X 8 [] fun t17 =>
 jn (n := 1) (fun t6 =>
 jn (n := 1) (fun t6_1 =>
 A6 PR (Instr.loadAt 23 t3) fun t32 =>
 B2 PR X 10 [t32] fun t33 =>
 A0 PR (Instr.extract t33 0) fun t34 =>
 A0 PR (Instr.extract t33 1) fun t35 =>
 A6 PR (Instr.loadAt 23 t3) fun t37 =>
 B2 PR X 10 [t37] fun t38 =>
 A0 PR (Instr.extract t38 0) fun t39 =>
 A0 PR (Instr.extract t38 1) fun t40 =>
 A6 PR (Instr.loadAt 23 t3) fun t42 =>
 B2 PR X 10 [t42] fun t43 =>
 A0 PR (Instr.extract t43 0) fun t44 =>
 A0 PR (Instr.extract t43 1) fun t45 =>
 jn (n := 1) (fun t6_2 =>
 jn (n := 2) (fun t6_3 t14 =>
 B2 PR X 16 [t34] fun t132 =>
 B2 PR X 16 [t39] fun t134 =>
 B2 PR X 15 [t132, t134] fun t135 =>
 gj t17 true (fun J => J t135) fun t138 =>
 A0 PR (do pure (if ← asBool t17 then t138 else (.bool false))) fun t139 =>
 gj t139 true (fun J => J t34) fun t141 =>
 gj t139 true (fun J => B2 PR X 20 [t141] J) fun t142 =>
 gj t139 true (fun J => J t39) fun t143 =>
 gj t139 true (fun J => B2 PR X 20 [t143] J) fun t144 =>
 gj t139 true (fun J => A6 PR (H8 .eql 39 (.tmp 142) (.tmp 144) t142 t144) J) fun t145 =>
 A0 PR (do pure (if ← asBool t139 then t145 else (.bool false))) fun t146 =>
 R t146) fun J1 =>
 lp (n := 2) (fun L2 t6_4 t14_1 =>
 jn (n := 0) (
 jn (n := 1) (fun t6_5 =>
 A0 PR (binOp .add 3 t14_1 (.int .i64 1)) fun t88 =>
 L2 t6_5 t88) fun J3 =>
 drw <|
 kt (n := 1) (fun t15 =>
 jn (n := 0) (
 drw <|
 A6 PR (Instr.loadAt 39 t15) fun t117 =>
 A0 PR (Instr.indexAt 24 t1 t14_1) fun t121 =>
 A0 PR (Instr.fieldAt 44 t121 0) fun t122 =>
 A6 PR (Instr.loadAt 42 t122) fun t123 =>
 A0 PR (Instr.indexAt 24 t1 t14_1) fun t126 =>
 A0 PR (Instr.fieldAt 44 t126 1) fun t127 =>
 A6 PR (Instr.loadAt 3 t127) fun t128 =>
 B2 PR X 13 [t39, t123, t128] fun t129 =>
 watch PR [(none, (Instr.loadAt 39 t15), t117)] <|
 A6 PR (H8 .neq 39 (.tmp 117) (.tmp 129) t117 t129) fun t130 =>
 C3 t130 (
 R (.bool false)) (
 J3 t6_4)) fun J4 =>
 A0 PR (A8 .len #[24] 0 [t2]) fun t103 =>
 A0 PR (binOp .lss 3 t14_1 t103) fun t104 =>
 C3 t104 (
 drw <|
 A0 PR (Instr.indexAt 24 t2 t14_1) fun t108 =>
 A0 PR (Instr.fieldAt 44 t108 0) fun t109 =>
 A6 PR (Instr.loadAt 42 t109) fun t110 =>
 A0 PR (Instr.indexAt 24 t2 t14_1) fun t113 =>
 A0 PR (Instr.fieldAt 44 t113 1) fun t114 =>
 A6 PR (Instr.loadAt 3 t114) fun t115 =>
 B2 PR X 13 [t44, t110, t115] fun t116 =>
 J4) (
 J4)) fun C5 =>
 A0 PR (Instr.indexAt 24 t1 t14_1) fun t92_1 =>
 A0 PR (Instr.fieldAt 44 t92_1 0) fun t93_1 =>
 A6 PR (Instr.loadAt 42 t93_1) fun t94_1 =>
 A0 PR (Instr.indexAt 24 t1 t14_1) fun t97_1 =>
 A0 PR (Instr.fieldAt 44 t97_1 1) fun t98_1 =>
 A6 PR (Instr.loadAt 3 t98_1) fun t99_1 =>
 both (B2 PR X 13 [t34, t94_1, t99_1] fun t100_2 =>
 B1 PR X (Instr.alloc 39 true (.tuple #[])) fun t15_2 =>
 C1 PR X (Instr.storeAt 39 t15_2 t100_2) <|
 C5 t15_2) (both (B1 PR X (Instr.alloc 39 true (.tuple #[])) fun t15_1 =>
 watch PR [(none, (Instr.loadAt 3 t98_1), t99_1), (none, (Instr.loadAt 42 t93_1), t94_1)] <|
 B2 PR X 13 [t34, t94_1, t99_1] fun t100_1 =>
 C1 PR X (Instr.storeAt 39 t15_1 t100_1) <|
 C5 t15_1) ((fun _ => True)))) fun J6 =>
 A0 PR (A8 .len #[24] 0 [t1]) fun t85 =>
 A0 PR (binOp .lss 3 t14_1 t85) fun t86 =>
 C3 t86 (
 J6) (
 J1 t6_4 t14_1)) t6_2 (.int .i64 0)) fun J7 =>
 A0 PR (binOp .neq 28 t35 (.int .i64 0)) fun t47 =>
 gj t47 false (fun J => J t40) fun t49 =>
 gj t47 false (fun J => A0 PR (binOp .neq 28 t49 (.int .i64 0)) J) fun t50 =>
 A0 PR (do pure (if ← asBool t47 then (.bool true) else t50)) fun t51 =>
 gj t51 false (fun J => J t45) fun t53 =>
 gj t51 false (fun J => A0 PR (binOp .neq 28 t53 (.int .i64 0)) J) fun t54 =>
 A0 PR (do pure (if ← asBool t51 then (.bool true) else t54)) fun t55 =>
 gj t55 false (fun J => J t34) fun t57 =>
 gj t55 false (fun J => A6 PR (H8 .eql 27 (.tmp 57) (.const (.pointer none)) t57 (.pointer none)) J) fun t58 =>
 A0 PR (do pure (if ← asBool t55 then (.bool true) else t58)) fun t59 =>
 gj t59 false (fun J => J t39) fun t61 =>
 gj t59 false (fun J => A6 PR (H8 .eql 27 (.tmp 61) (.const (.pointer none)) t61 (.pointer none)) J) fun t62 =>
 A0 PR (do pure (if ← asBool t59 then (.bool true) else t62)) fun t63 =>
 gj t63 false (fun J => J t44) fun t65 =>
 gj t63 false (fun J => A6 PR (H8 .eql 27 (.tmp 65) (.const (.pointer none)) t65 (.pointer none)) J) fun t66 =>
 A0 PR (do pure (if ← asBool t63 then (.bool true) else t66)) fun t67 =>
 C3 t67 (
 gj t17 true (fun J => J t35) fun t70 =>
 gj t17 true (fun J => J t40) fun t71 =>
 gj t17 true (fun J => A0 PR (binOp .eql 28 t70 t71) J) fun t72 =>
 A0 PR (do pure (if ← asBool t17 then t72 else (.bool false))) fun t73 =>
 gj t73 true (fun J => J t40) fun t75 =>
 gj t73 true (fun J => J t45) fun t76 =>
 gj t73 true (fun J => A0 PR (binOp .eql 28 t75 t76) J) fun t77 =>
 A0 PR (do pure (if ← asBool t73 then t77 else (.bool false))) fun t78 =>
 gj t78 true (fun J => J t35) fun t80 =>
 gj t78 true (fun J => A0 PR (binOp .neq 28 t80 (.int .i64 0)) J) fun t81 =>
 A0 PR (do pure (if ← asBool t78 then t81 else (.bool false))) fun t82 =>
 R t82) (
 J7 t6_1)) fun J8 =>
 A6 PR (Instr.loadAt 23 t3) fun t20 =>
 B2 PR X 9 [t20, t1] fun t22 =>
 A0 PR (Op.unary .not t22) fun t23 =>
 gj t23 false (fun J => A6 PR (Instr.loadAt 23 t3) J) fun t25 =>
 gj t23 false (fun J => J t2) fun t26 =>
 gj t23 false (fun J => B2 PR X 9 [t25, t26] J) fun t27 =>
 gj t23 false (fun J => A0 PR (Op.unary .not t27) J) fun t28 =>
 A0 PR (do pure (if ← asBool t23 then (.bool true) else t28)) fun t29 =>
 C3 t29 (
 R t17) (
 J8 t6)) fun J9 =>
 A0 PR (Op.unary .not t17) fun t19 =>
 C3 t19 (
 R (.bool false)) (
 J9 (.bool false))
theorem s9 {X : Nat → Prop} {t0 t1 t2 : Value} {R : Value → WP} {w : World} (h : V0 X t0 t1 t2 R w) : Fn PR X 4 #[t0, t1, t2] w R := D2 (args := [t0, t1, t2]) mixed Tryz.func4 (by kernel_rfl) h
end Go.Proofs.YtpbmephflllolaaGreat
namespace Go.Proofs.YtpbmephflllolaaGreat
open Go
theorem Inv.liveK_le {c : CfgV} {s : MoS} (hi : Inv c s) : (K8 s.tabs).length ≤ 1000000 := by
 have hb := v6 hi.ok
 have hsh := hi.sh
 have := Go.Proofs.YtpbmephflllolaaGreat.liveK_le (tabs := s.tabs) fun t ht => by have h := hi.tab t ht; have h1 := h.len; have h2 := h.few; omega
 omega
set_option maxHeartbeats 1000000 in
theorem A7C (w : World) (c : CfgV) (lv lu : Value) (l k : List StA) (hn : l.length ≤ 9223372036854775807) (hv : F5 w lv l.length (l.flatMap A06)) (hs : ∀ x ∈ l, A2K w x)
  (hnk : k.length ≤ 9223372036854775807) (hvk : F5 w lu k.length (k.flatMap A06)) (hsk : ∀ x ∈ k, A2K w x) :
  Fn PR B5 4 #[c.val, lv, lu] w (fun v w' => v = .bool true ∧ C0 [] w w') := by
 refine Fn.pure (s9 (TW.go (κ := false) (S := []) ?_))
 unfold V0
 obtain ⟨la, lc, rfl, hr⟩ := hv.form
 obtain ⟨ka, kc, rfl, hrk⟩ := hvk.form
 simp only [CfgV.val]
 (have zz:=trivial;repeat((first|clear zz|with_reducible first|refine A3 ?_|refine A5 fun _=>?_|refine A4 fun _=>?_);try simp(disch:=first|omega|assumption|((repeat(first|exact A1|exact uH|apply A2|apply uT));first|done|fail)|(simp;first|done|omega|fail))[]))
 rename_i bc
 refine D1 A14 (fun w' _ => B5a w') ?_
 (have zz:=trivial;repeat((first|clear zz|with_reducible first|refine A3 ?_|refine A5 fun _=>?_|refine A4 fun _=>?_);try simp(disch:=first|omega|assumption|((repeat(first|exact A1|exact uH|apply A2|apply uT));first|done|fail)|(simp;first|done|omega|fail))[]))
 refine D1 p4 (fun w' hw' => B1b w' c _ l hn (hv.ks hw'.ks (by simp)) fun x hx => (hs x hx).sl) ?_
 cases hf : A3F c (l.map (·.1.1)) with
 | false => (have zz:=trivial;repeat((first|clear zz|with_reducible first|refine A3 ?_|refine A5 fun _=>?_|refine A4 fun _=>?_);try simp(disch:=first|omega|assumption|((repeat(first|exact A1|exact uH|apply A2|apply uT));first|done|fail)|(simp;first|done|omega|fail))[])); exact B0 rfl
 | true =>
 (have zz:=trivial;repeat((first|clear zz|with_reducible first|refine A3 ?_|refine A5 fun _=>?_|refine A4 fun _=>?_);try simp(disch:=first|omega|assumption|((repeat(first|exact A1|exact uH|apply A2|apply uT));first|done|fail)|(simp;first|done|omega|fail))[]))
 refine D1 p4 (fun w' hw' => B1b w' c _ k hnk (hvk.ks hw'.ks (by simp)) fun x hx => (hsk x hx).sl) ?_
 cases hfk : A3F c (k.map (·.1.1)) with
 | false => (have zz:=trivial;repeat((first|clear zz|with_reducible first|refine A3 ?_|refine A5 fun _=>?_|refine A4 fun _=>?_);try simp(disch:=first|omega|assumption|((repeat(first|exact A1|exact uH|apply A2|apply uT));first|done|fail)|(simp;first|done|omega|fail))[])); exact B0 rfl
 | true =>
 (have zz:=trivial;repeat((first|clear zz|with_reducible first|refine A3 ?_|refine A5 fun _=>?_|refine A4 fun _=>?_);try simp(disch:=first|omega|assumption|((repeat(first|exact A1|exact uH|apply A2|apply uT));first|done|fail)|(simp;first|done|omega|fail))[]))
 obtain ⟨hc6, hl12, hfo⟩ := B1N hf
 obtain ⟨_, hk12, hfok⟩ := B1N hfk
 have hl : l.length ≤ 12 := by simpa using hl12
 have hkl : k.length ≤ 12 := by simpa using hk12
 cases hok : Y1 c with
 | false =>
  refine A0w (c := c) (fun _ => ?_) (fun _ h => by rw [hok] at h; cases h)
  (have zz:=trivial;repeat((first|clear zz|with_reducible first|refine A3 ?_|refine A5 fun _=>?_|refine A4 fun _=>?_);try simp(disch:=first|omega|assumption|((repeat(first|exact A1|exact uH|apply A2|apply uT));first|done|fail)|(simp;first|done|omega|fail))[]))
  refine A0w (c := c) (fun _ => ?_) (fun _ h => by rw [hok] at h; cases h)
  (have zz:=trivial;repeat((first|clear zz|with_reducible first|refine A3 ?_|refine A5 fun _=>?_|refine A4 fun _=>?_);try simp(disch:=first|omega|assumption|((repeat(first|exact A1|exact uH|apply A2|apply uT));first|done|fail)|(simp;first|done|omega|fail))[]))
  refine A0w (c := c) (fun _ => ?_) (fun _ h => by rw [hok] at h; cases h)
  (have zz:=trivial;repeat((first|clear zz|with_reducible first|refine A3 ?_|refine A5 fun _=>?_|refine A4 fun _=>?_);try simp(disch:=first|omega|assumption|((repeat(first|exact A1|exact uH|apply A2|apply uT));first|done|fail)|(simp;first|done|omega|fail))[]))
  exact B0 rfl
 | true =>
 refine A0w (c := c) (fun h => by rw [hok] at h; cases h) fun m1 _ hst1 hi1 => ?_
 simp only [B3, List.cons_append, List.nil_append]
 (have zz:=trivial;repeat((first|clear zz|with_reducible first|refine A3 ?_|refine A5 fun _=>?_|refine A4 fun _=>?_);try simp(disch:=first|omega|assumption|((repeat(first|exact A1|exact uH|apply A2|apply uT));first|done|fail)|(simp;first|done|omega|fail))[]))
 refine A0w (c := c) (fun h => by rw [hok] at h; cases h) fun m2 _ hst2 hi2 => ?_
 simp only [B3, List.cons_append, List.nil_append]
 (have zz:=trivial;repeat((first|clear zz|with_reducible first|refine A3 ?_|refine A5 fun _=>?_|refine A4 fun _=>?_);try simp(disch:=first|omega|assumption|((repeat(first|exact A1|exact uH|apply A2|apply uT));first|done|fail)|(simp;first|done|omega|fail))[]))
 refine A0w (c := c) (fun h => by rw [hok] at h; cases h) fun m3 _ hst3 hi3 => ?_
 simp only [B3, List.cons_append, List.nil_append]
 (have zz:=trivial;repeat((first|clear zz|with_reducible first|refine A3 ?_|refine A5 fun _=>?_|refine A4 fun _=>?_);try simp(disch:=first|omega|assumption|((repeat(first|exact A1|exact uH|apply A2|apply uT));first|done|fail)|(simp;first|done|omega|fail))[]))
 refine Sels.tw (rs := B3 m1 ++ (B3 m2 ++ (B3 m3 ++ [.pt bc (.cells #[.int .i64 c.wk, .int .i64 c.sh, .int .i64 c.cp, .int .i64 c.idle, .int .i64 c.sl] 23)]))) (by simp only [B3, List.cons_append, List.nil_append]; (repeat' constructor)) ?_
 refine k4 l.length (fun _ _ => .bool false) (fun i (y : BaH × BaH × BaH) => B3 y.1 ++ (B3 y.2.1 ++ (B3 y.2.2 ++ [.pt bc (.cells #[.int .i64 c.wk, .int .i64 c.sh, .int .i64 c.cp, .int .i64 c.idle, .int .i64 c.sl] 23)])))
  (fun i y => y.1.b = m1.b ∧ y.2.1.b = m2.b ∧ y.2.2.b = m3.b ∧ y.2.1.st = y.1.st ∧ Inv c y.1.st ∧ Inv c y.2.2.st) (m1, m2, m3) ⟨rfl, rfl, rfl, by rw [hst1, hst2], hi1, hi3⟩ ?_
 rintro i ⟨x1, x2, x3⟩ hil ⟨hb1, hb2, hb3, hst, hj1, hj3⟩ L hL
 simp only at hb1 hb2 hb3 hst hj1 hj3 ⊢
 rw [← hb1, ← hb2, ← hb3]
 have hj2 : Inv c x2.st := by rw [hst]; exact hj1
 by_cases hlt : i < l.length
 case neg =>
  obtain rfl : i = l.length := by omega
  simp only [B3, List.cons_append, List.nil_append]
  (have zz:=trivial;repeat((first|clear zz|with_reducible first|refine A3 ?_|refine A5 fun _=>?_|refine A4 fun _=>?_);try simp(disch:=first|omega|assumption|((repeat(first|exact A1|exact uH|apply A2|apply uT));first|done|fail)|(simp;first|done|omega|fail))[]))
  refine A9G hj1 (by simp only [B3]; (repeat' constructor)) fun a1 c1 => ?_
  simp only [B3, List.cons_append, List.nil_append]
  refine A9G hj2 (by simp only [B3]; (repeat' constructor)) fun a2 c2 => ?_
  rw [hst]
  simp only [B3, List.cons_append, List.nil_append]
  have hkle := hj1.liveK_le
  refine D1 A2E (fun w' hw' => B8W w' _ _ (K8 x1.st.tabs) hkle (M6.own (e := 9) (k := 1) (by (repeat constructor)) w' hw') (M6.own (e := 9) (k := 1) (by (repeat constructor)) w' hw')) ?_
  (have zz:=trivial;repeat((first|clear zz|with_reducible first|refine A3 ?_|refine A5 fun _=>?_|refine A4 fun _=>?_);try simp(disch:=first|omega|assumption|((repeat(first|exact A1|exact uH|apply A2|apply uT));first|done|fail)|(simp;first|done|omega|fail))[]))
  refine A85 hj1 (by simp only [B3]; (repeat' constructor)) fun z1 hz1 hzt1 => ?_
  simp only [B3, List.cons_append, List.nil_append]
  (have zz:=trivial;repeat((first|clear zz|with_reducible first|refine A3 ?_|refine A5 fun _=>?_|refine A4 fun _=>?_);try simp(disch:=first|omega|assumption|((repeat(first|exact A1|exact uH|apply A2|apply uT));first|done|fail)|(simp;first|done|omega|fail))[]))
  refine A85 hj2 (by simp only [B3]; (repeat' constructor)) fun z2 hz2 hzt2 => ?_
  rw [hst]
  (have zz:=trivial;repeat((first|clear zz|with_reducible first|refine A3 ?_|refine A5 fun _=>?_|refine A4 fun _=>?_);try simp(disch:=first|omega|assumption|((repeat(first|exact A1|exact uH|apply A2|apply uT));first|done|fail)|(simp;first|done|omega|fail))[AnsV.val, A4g]))
  exact B0 rfl
 have hy := List.getElem?_eq_getElem hlt
 obtain ⟨lb, lo, rfl, hrow⟩ := hr (by omega)
 obtain ⟨h1, h2⟩ := B35 hrow hy
 have hyp := hs l[i] (List.getElem_mem hlt)
 have hyo := hfo l[i].1.1 (List.mem_map_of_mem (List.getElem_mem hlt))
 generalize l[i] = y at *
 have hyp0 : F5 w y.1.2 y.1.1.pool.length (y.1.1.pool.flatMap F6) := hyp
 obtain ⟨ya, yc, hye⟩ := hyp.sl
 rw [f9] at h1
 rw [hye] at h1 hyp0
 generalize hdo : doV x1.st y.1.1 y.2 = dv at *
 obtain ⟨s2, an⟩ := dv
 (have zz:=trivial;repeat((first|clear zz|with_reducible first|refine A3 ?_|refine A5 fun _=>?_|refine A4 fun _=>?_);try simp(disch:=first|omega|assumption|((repeat(first|exact A1|exact uH|apply A2|apply uT));first|done|fail)|(simp;first|done|omega|fail))[hlt]))
 refine C27 (α := Nat × BaH) (fun z => z.2.b = x1.b ∧ z.2.st = s2 ∧ Inv c z.2.st) (fun z => .pt z.1 (.cells #[.int .i64 an.err, .int .i64 an.bk, .bool an.made, .int .i64 an.count] 39) :: (B3 z.2 ++ (B3 x2 ++ (B3 x3 ++ [.pt bc (.cells #[.int .i64 c.wk, .int .i64 c.sh, .int .i64 c.cp, .int .i64 c.idle, .int .i64 c.sl] 23)])))) (fun z => .pointer (some ⟨z.1, 0, none⟩)) ?_ ?_
 case refine_2 =>
  intro J hJ
  (have zz:=trivial;repeat((first|clear zz|with_reducible first|refine A3 ?_|refine A5 fun _=>?_|refine A4 fun _=>?_);try simp(disch:=first|omega|assumption|((repeat(first|exact A1|exact uH|apply A2|apply uT));first|done|fail)|(simp;first|done|omega|fail))[hlt, h1, h2]))
  refine ⟨?_, ?_, fun _ _ => trivial⟩
  ·refine A75 (o := y.1.1) (v := .slice ya y.1.1.pool.length yc) (now := y.2) _ hj1 P7 (fun w' hw' => A1U hw' hyp0 (by omega)) (by omega) hdo fun z hbz hstz hiz => ?_
   (have zz:=trivial;repeat((first|clear zz|with_reducible first|refine A3 ?_|refine A5 fun _=>?_|refine A4 fun _=>?_);try simp(disch:=first|omega|assumption|((repeat(first|exact A1|exact uH|apply A2|apply uT));first|done|fail)|(simp;first|done|omega|fail))[AnsV.val]))
   rename_i ba
   exact hJ (ba, z) ⟨hbz, hstz, hiz⟩
  ·(have zz:=trivial;repeat((first|clear zz|with_reducible first|refine A3 ?_|refine A5 fun _=>?_|refine A4 fun _=>?_);try simp(disch:=first|omega|assumption|((repeat(first|exact A1|exact uH|apply A2|apply uT));first|done|fail)|(simp;first|done|omega|fail))[hlt, h1, h2]))
   rename_i ba
   refine A75 (o := y.1.1) (v := .slice ya y.1.1.pool.length yc) (now := y.2) _ hj1 (by ((repeat (first | exact P7 | apply Part.skip)); first | done | fail)) (fun w' hw' => A1U hw' hyp0 (by omega)) (by omega) hdo fun z hbz hstz hiz => ?_
   simp only [B3, List.cons_append, List.nil_append]
   (have zz:=trivial;repeat((first|clear zz|with_reducible first|refine A3 ?_|refine A5 fun _=>?_|refine A4 fun _=>?_);try simp(disch:=first|omega|assumption|((repeat(first|exact A1|exact uH|apply A2|apply uT));first|done|fail)|(simp;first|done|omega|fail))[AnsV.val]))
   refine Sels.tw ?_ (hJ (ba, z) ⟨hbz, hstz, hiz⟩)
   simp only [B3, List.cons_append, List.nil_append]
   (repeat' constructor)
 rintro ⟨ba, z1⟩ ⟨hbz, hstz, hiz⟩
 simp only at hbz hstz hiz ⊢
 have hlast : ∀ (H Hk : List Res) (K : Value → WP), Part (B3 x2) H Hk → (∀ z2 : BaH, z2.b = x2.b → z2.st = s2 → TW false [] w (B3 z2 ++ Hk) (K an.val)) →
   TW false [] w H (B2 PR B5 13 [.pointer (some ⟨x2.b, 0, none⟩), y.1.1.val (.slice ya y.1.1.pool.length yc), .int .i64 y.2] K) := fun H Hk K hp hK =>
  A75 (o := y.1.1) (v := .slice ya y.1.1.pool.length yc) (now := y.2) (s2, an) hj2 hp (fun w' hw' => A1U hw' hyp0 (by omega)) (by omega) (by rw [hst]; exact hdo) fun z2 hb hs' _ => hK z2 hb hs'
 simp only [OpV.val] at hlast
 by_cases hik : i < k.length
 ·have hyk := List.getElem?_eq_getElem hik
  obtain ⟨lb', lo', rfl, hrowk⟩ := hrk (by omega)
  obtain ⟨g1, g2⟩ := B35 hrowk hyk
  have hypk := hsk k[i] (List.getElem_mem hik)
  have hyok := hfok k[i].1.1 (List.mem_map_of_mem (List.getElem_mem hik))
  generalize k[i] = u at *
  have hypk0 : F5 w u.1.2 u.1.1.pool.length (u.1.1.pool.flatMap F6) := hypk
  obtain ⟨ua, uc, hue⟩ := hypk.sl
  rw [f9] at g1
  rw [hue] at g1 hypk0
  (have zz:=trivial;repeat((first|clear zz|with_reducible first|refine A3 ?_|refine A5 fun _=>?_|refine A4 fun _=>?_);try simp(disch:=first|omega|assumption|((repeat(first|exact A1|exact uH|apply A2|apply uT));first|done|fail)|(simp;first|done|omega|fail))[hik, g1, g2]))
  refine A75 (o := u.1.1) (v := .slice ua u.1.1.pool.length uc) (now := u.2) _ hj3 (by ((repeat (first | exact P7 | apply Part.skip)); first | done | fail)) (fun w' hw' => A1U hw' hypk0 (by omega)) (by omega) rfl fun z3 hbz3 hstz3 hiz3 => ?_
  simp only [B3, List.cons_append, List.nil_append]
  (have zz:=trivial;repeat((first|clear zz|with_reducible first|refine A3 ?_|refine A5 fun _=>?_|refine A4 fun _=>?_);try simp(disch:=first|omega|assumption|((repeat(first|exact A1|exact uH|apply A2|apply uT));first|done|fail)|(simp;first|done|omega|fail))[hlt, h1, h2]))
  refine hlast _ _ _ (by simp only [B3, List.cons_append, List.nil_append]; (repeat' constructor)) fun z2 hb2' hs2' => ?_
  simp only [B3, List.cons_append, List.nil_append]
  rw [A69 (by (repeat constructor)) (by rfl)]
  (have zz:=trivial;repeat((first|clear zz|with_reducible first|refine A3 ?_|refine A5 fun _=>?_|refine A4 fun _=>?_);try simp(disch:=first|omega|assumption|((repeat(first|exact A1|exact uH|apply A2|apply uT));first|done|fail)|(simp;first|done|omega|fail))[AnsV.val]))
  refine Sels.tw ?_ (hL hlt (z1, z2, z3) ⟨hbz.trans hb1, hb2'.trans hb2, hbz3.trans hb3, by rw [hs2', hstz], hiz, hiz3⟩)
  simp only [B3, List.cons_append, List.nil_append]
  (repeat' constructor)
 ·(have zz:=trivial;repeat((first|clear zz|with_reducible first|refine A3 ?_|refine A5 fun _=>?_|refine A4 fun _=>?_);try simp(disch:=first|omega|assumption|((repeat(first|exact A1|exact uH|apply A2|apply uT));first|done|fail)|(simp;first|done|omega|fail))[hik, hlt, h1, h2]))
  refine hlast _ _ _ (by simp only [B3, List.cons_append, List.nil_append]; (repeat' constructor)) fun z2 hb2' hs2' => ?_
  simp only [B3, List.cons_append, List.nil_append]
  rw [A69 (by (repeat constructor)) (by rfl)]
  (have zz:=trivial;repeat((first|clear zz|with_reducible first|refine A3 ?_|refine A5 fun _=>?_|refine A4 fun _=>?_);try simp(disch:=first|omega|assumption|((repeat(first|exact A1|exact uH|apply A2|apply uT));first|done|fail)|(simp;first|done|omega|fail))[AnsV.val]))
  refine Sels.tw ?_ (hL hlt (z1, z2, x3) ⟨hbz.trans hb1, hb2'.trans hb2, hb3, by rw [hs2', hstz], hiz, hj3⟩)
  simp only [B3, List.cons_append, List.nil_append]
  (repeat' constructor)
end Go.Proofs.YtpbmephflllolaaGreat
