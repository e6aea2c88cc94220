/- The proof of a given statement, a part of it (Def ShBalancer Bal Bal2 Bal3 Bal4 Bal5 ShR08 ShR11 Rf11 ShR02 Rf02 Rf11b Rf12 ShR09 ShR10 ShR01 Rf01 Without Rf09 Makes Rf17a ShR07 ShR05 ShR06 ShR03 ShR04 Rf03 Rf04 Rf07 Rf08 ShR13 Rf13 Rf17b Rf17c Rf17d Rf17e Rf24 Bal6 BalT Works24 Few24 Srt Prm ShL24BalancerApart BApartW ShL24BalancerTwice BTwiceW). No condition but what each lemma says. -/
import Derived.Defers
import Derived.Test.YtpbmephflllolaaGreatD17
set_option linter.unusedVariables false
set_option linter.unusedSimpArgs false
namespace Go.Proofs.YtpbmephflllolaaGreat
open Go
def FnD (P : Program) (X : Nat → Prop) (f : FuncId) (args : Array Value) (w : World) (R : Value → WP) : Prop :=
 CallsD P f args .returning w fun e u' w' => ∃ v, e = .returned v ∧ u' = .returning ∧ R v w' ∧ Sk X w w'
def dfr (P : Program) (X : Nat → Prop) (g : Value) (A : WP) : WP :=
 match g with
 | .func (.func f) first cap => fun w => A9 P f ∧ FnD P X f (first.toList ++ cap.toList).toArray w fun _ => A
 | _ => D8
def isf (g : Value) (A : WP) : WP := fun w => (∃ f first cap, g = .func (.func f) first cap) ∧ A w
def A4e (o : Oper) : Option Operand :=
 match o.guard, o.dst with
 | none, none => match o.op with
  | .defer c => match c.callee, c.args.toList with
   | .value g, [] => some g
   | _, _ => none
  | _ => none
 | _, _ => none
def A2U : List Oper → Option (List Oper × Operand)
 | [] => none
 | o :: r => match r with
  | [] => match A4e o with | some g => some ([], g) | none => none
  | _ :: _ => match A2U r with | some (l, g) => some (o :: l, g) | none => none
def B2D : Code → Option (Array Oper × List Oper × Operand)
 | .region _ ops false => match A2U ops.toList with | some (l, g) => some (ops, l, g) | none => none
 | _ => none
def vcD (P : Program) (X : Nat → Prop) (n : Nat) (fn : D3 → WP) : Code → D3 → WP
 | .seq a b, e =>
  match B2D a with
  | some (ops, l, g) => A9K P X n ops l e fun e' => w1 (ev n e' g) fun gv => isf gv (vc P X n false b e' (fun e => dfr P X gv (fn e)) { exit := fun _ _ => D8, ret := fun e => dfr P X gv (fn e) })
  | none => vc P X n false a e (fun e' => vcD P X n fn b e') { exit := fun _ _ => D8, ret := fn }
 | _, _ => D8
def A6K (P : Program) (X : Nat → Prop) (fn : Func) (args : List Value) (R : Value → WP) : WP :=
 match fn.body with
 | none => D8
 | some c => match Nat.ble args.length fn.ntmps with
  | false => D8
  | true => match H3 c with
   | true => D8
   | false => vcD P X fn.ntmps (Y4 P fn.ntmps fn.results.toList R) c (A0e 0 args)
theorem C0u {P : Program} {X : Nat → Prop} {n : Nat} {ro : Option Nat} {ops : Array Oper} {K : D3 → WP} : ∀ (l : List Oper) (i : Nat), (∀ j o, l[j]? = some o → ops[i + j]? = some o) → ∀ (e : D3) (a : Act) (w : World),
  e.Ok n a → A9K P X n ops l e K w → Q8 P X ro ops (fun a w => ∃ e', D3.Ok n e' a ∧ K e' w) (List.range' i l.length) a w := by
 intro l
 induction l with
 | nil => intro i _ e a w hok h; exact ⟨e, hok, h⟩
 | cons o l ih =>
  intro i hi e a w hok h
  have ho : ops[i]? = some o := hi 0 o rfl
  have h2 : ∀ j o', l[j]? = some o' → ops[i + 1 + j]? = some o' := fun j o' hj => by
   have := hi (j + 1) o' (by simpa using hj)
   rw [show i + 1 + j = i + (j + 1) from by omega]; exact this
  simp only [List.length_cons, List.range'_succ, Q8]
  unfold W4
  rw [ho]; simp only []
  rcases x5 hok h with ⟨hw, hy⟩ | ⟨hw, hn, _⟩
  ·rw [if_pos hw]
   exact (B98 hok hy).mono fun v w' hv => ih (i + 1) h2 _ _ _ (hok.put _ _) hv
  ·rw [if_neg (by simp [hw])]
   exact ih (i + 1) h2 _ _ _ (hok.put _ _) hn
theorem B5c {P : Program} {X : Nat → Prop} {b : Frame} {ops : Array Oper} {Q : Act → World → Prop} (rest : List Nat) (l : List Nat) : ∀ (a : Act) (w : World), Q8 P X b.roundOf ops Q l a w → ∀ (k : List Item) (cs : List Frame),
  ∃ a' w', Q a' w' ∧ Sk X w w' ∧ a'.defers = a.defers ∧ Steps P (lone (b.atR a (.inRegion ops (l ++ rest) :: k)) cs w) (lone (b.atR a' (.inRegion ops rest :: k)) cs w') := by
 induction l with
 | nil => exact fun a w h k cs => ⟨a, w, h, Sk.refl _ _, rfl, Steps.refl _ _⟩
 | cons i l ih =>
  intro a w h k cs
  obtain ⟨a₁, w₁, hK, hs, hd, st⟩ := B3M (rest := l ++ rest) h k cs
  obtain ⟨a₂, w₂, hQ, hs₂, hd₂, st₂⟩ := ih a₁ w₁ hK k cs
  exact ⟨a₂, w₂, hQ, hs.trans hs₂, hd₂.trans hd, st.trans st₂⟩
theorem B34 : ∀ {L l : List Oper} {g : Operand}, A2U L = some (l, g) → ∃ o, L = l ++ [o] ∧ A4e o = some g := by
 intro L
 induction L with
 | nil => intro l g h; cases h
 | cons o r ih =>
  intro l g h
  cases r with
  | nil =>
   simp only [A2U] at h
   cases hd : A4e o with
   | none => rw [hd] at h; cases h
   | some g' => rw [hd] at h; cases h; exact ⟨o, rfl, hd⟩
  | cons o' r =>
   rw [A2U] at h
   cases hs : A2U (o' :: r) with
   | none => rw [hs] at h; cases h
   | some p =>
    obtain ⟨l', g'⟩ := p
    rw [hs] at h; cases h
    obtain ⟨o2, h1, h2⟩ := ih hs
    exact ⟨o2, by rw [h1]; rfl, h2⟩
theorem B5K {P : Program} {n : Nat} {b : Frame} {ops : Array Oper} {i : Nat} {o : Oper} {g : Operand} {f : FuncId} {first cap : Array Value} {e : D3} {a : Act} {w : World} (hb : b.roundOf = none)
  (ho : ops[i]? = some o) (hd : A4e o = some g) (hok : e.Ok n a) (hg : ev n e g = some (.func (.func f) first cap)) (k : List Item) (cs : List Frame) :
  Steps P (lone (b.atR a (.inRegion ops [i] :: k)) cs w) (lone (b.atR { a with defers := { target := .fn (.func f) cap, args := first ++ #[] } :: a.defers } k) cs w) := by
 obtain ⟨dst, op, type, pos, after, guard⟩ := o
 unfold A4e at hd
 cases guard <;> cases dst <;> simp only [reduceCtorEq] at hd
 cases op <;> simp only [reduceCtorEq] at hd
 rename_i c
 obtain ⟨callee, cargs, ctypes⟩ := c
 cases callee <;> simp only [reduceCtorEq] at hd
 rename_i f'
 have ha : cargs = #[] := by
  cases hc : cargs.toList with
  | nil => exact Array.toList_inj.1 (by simpa using hc)
  | cons x xs => rw [hc] at hd; cases hd
 subst ha
 simp only [Option.some.injEq] at hd
 subst hd
 have hgv := D9 hok hg
 have hgo := stepGR_op (P := P) (b := b) (a := a) (k := k) (cs := cs) (w := w) (rest := []) ho rfl
 have hr : (Oper.semAt b.roundOf a.eval ⟨none, .defer ⟨.value f', #[], ctypes⟩, type, pos, after, none⟩).run P w = .ok (.defer { target := .fn (.func f) cap, args := first ++ #[] }) w := by
  rw [hb, Oper.semAt_none]
  simp only [execOp, resolve, Array.map_empty, hgv, Deferred.ofValue]
  rfl
 refine .head (step_lone_go ?_) (.one (stepR_region_end (ops := ops)))
 rw [hgo]
 simp only [stepG.apply, Sem.runT_eq, hr]
 have hf := Frame.finish_atR b { a with defers := { target := .fn (.func f) cap, args := first ++ #[] } :: a.defers } ops i [] k undef
 rw [ho] at hf
 simp only [Option.bind_some, Act.put] at hf
 rw [← hf]
 rfl
def C6D (P : Program) (X : Nat → Prop) (n : Nat) (fn : D3 → WP) (a : Act) (w : World) : Prop :=
 ∃ e, D3.Ok n e a ∧ ((a.defers = [] ∧ fn e w) ∨ ∃ f first cap, a.defers = [{ target := .fn (.func f) cap, args := first ++ #[] }] ∧ dfr P X (.func (.func f) first cap) (fn e) w)
theorem C2S {P : Program} {X : Nat → Prop} {n : Nat} {b : Frame} {fn : D3 → WP} (hm : P.follows .mixedOrders = true) (hb : b.roundOf = none) (cs : List Frame) : ∀ (c : Code) (e : D3) (a : Act) (w : World),
  H3 c = false → e.Ok n a → a.defers = [] → vcD P X n fn c e w →
  ∃ a' w' k0, Steps P (lone (b.atR a [.code c]) cs w) (lone { b.atR a' k0 with mode := .returning } cs w') ∧ Sk X w w' ∧ C6D P X n fn a' w' := by
 intro c
 induction c with
 | seq x y _ ih =>
  intro e a w hr hok hd h
  simp only [H3, Bool.or_eq_false_iff] at hr
  simp only [vcD] at h
  cases hs : B2D x with
  | none =>
   rw [hs] at h; simp only [] at h
   obtain ⟨ex, a1, w1, ms, hq, hsk, hda, hmk, harr⟩ := B1y hm x X b false _ _ _ _ w trivial (fun _ => hb) hok h [.code y] cs
   cases ex with
   | nrm =>
    obtain ⟨⟨e1, hok1, hv⟩, hkp⟩ := hq
    have hd1 : a1.defers = [] := by rw [hkp.2 hr.1, hd]
    obtain ⟨a', w', k0, hst, hsk2, hend⟩ := ih e1 a1 w1 hr.2 hok1 hd1 hv
    exact ⟨a', w', k0, .head stepR_seq (Steps.trans harr hst), hsk.trans hsk2, hend⟩
   | ret =>
    obtain ⟨⟨e1, hok1, hv⟩, hkp⟩ := hq
    have hd1 : a1.defers = [] := by rw [hkp.2 hr.1, hd]
    obtain ⟨k0, hs0⟩ := harr
    exact ⟨a1, w1, _, .head stepR_seq (Steps.trans hs0 (.one (stepR_ret hb))), hsk, e1, hok1, .inl ⟨hd1, hv⟩⟩
   | exit i => obtain ⟨⟨_, _, hv⟩, _⟩ := hq; exact hv.elim
   | goto l => exact hq.1.elim
  | some t =>
   obtain ⟨ops, l, g⟩ := t
   rw [hs] at h; simp only [] at h
   cases x with
   | region id ops' draw =>
    cases draw with
    | true => cases hs
    | false =>
     simp only [B2D] at hs
     cases hsp : A2U ops'.toList with
     | none => rw [hsp] at hs; cases hs
     | some q =>
      obtain ⟨l', g'⟩ := q
      rw [hsp] at hs; cases hs
      obtain ⟨o, hL, hdc⟩ := B34 hsp
      have hsz : ops.size = l.length + 1 := by rw [← Array.length_toList, hL]; simp
      have hg0 : ∀ j : Nat, ops[j]? = (l ++ [o])[j]? := fun j => by rw [← hL]; simp
      have hreg := C0u (P := P) (X := X) (ro := b.roundOf) (ops := ops) l 0 (fun j o' hj => by
       rw [Nat.zero_add, hg0, List.getElem?_append_left (List.getElem?_eq_some_iff.1 hj).1]; exact hj) e a w hok h
      have hrange : List.range ops.size = List.range' 0 l.length ++ [l.length] := by
       rw [hsz, List.range_succ, List.range_eq_range']
      obtain ⟨a1, w1, ⟨e1, hok1, hv⟩, hsk, hda, hst⟩ := B5c (b := b) [l.length] (List.range' 0 l.length) a w hreg [.code y] cs
      obtain ⟨gv, hgv, hv⟩ := G6 hv
      rw [← hrange] at hst
      have hst0 : Steps P (lone (b.atR a [.code (.seq (.region id ops false) y)]) cs w) (lone (b.atR a1 [.inRegion ops [l.length], .code y]) cs w1) := .head stepR_seq (.head stepR_region hst)
      -- the value is a function's
      have hlast : ops[l.length]? = some o := by rw [hg0]; simp
      have hd1 : a1.defers = [] := by rw [hda, hd]
      -- on
      obtain ⟨⟨f, first, cap, rfl⟩, hv⟩ := hv
      have hds := B5K (P := P) (b := b) (w := w1) hb hlast hdc hok1 hgv [.code y] cs
      have hok2 : D3.Ok n e1 { a1 with defers := { target := .fn (.func f) cap, args := first ++ #[] } :: a1.defers } := hok1
      obtain ⟨ex, a2, w2, ms, hq, hsk2, hda2, hmk, harr⟩ := B1y hm y X b false _ _ _ _ w1 trivial (fun _ => hb) hok2 hv [] cs
      have fd : P9 y { a1 with defers := { target := .fn (.func f) cap, args := first ++ #[] } :: a1.defers } a2 → a2.defers = [{ target := .fn (.func f) cap, args := first ++ #[] }] := fun hkp => (hkp.2 hr.2).trans (congrArg (List.cons _) hd1)
      cases ex with
      | nrm =>
       obtain ⟨⟨e2, hok2, hv2⟩, hkp⟩ := hq
       exact ⟨a2, w2, [], (hst0.trans hds).trans (Steps.trans harr (.one (stepR_end hb))), hsk.trans hsk2, e2, hok2, .inr ⟨f, first, cap, fd hkp, hv2⟩⟩
      | ret =>
       obtain ⟨⟨e2, hok2, hv2⟩, hkp⟩ := hq
       obtain ⟨k0, hs0⟩ := harr
       exact ⟨a2, w2, _, (hst0.trans hds).trans (Steps.trans hs0 (.one (stepR_ret hb))), hsk.trans hsk2, e2, hok2, .inr ⟨f, first, cap, fd hkp, hv2⟩⟩
      | exit i => obtain ⟨⟨_, _, hv⟩, _⟩ := hq; exact hv.elim
      | goto l => exact hq.1.elim
   | _ => cases hs
 | _ => intro e a w _ _ _ h; exact h.elim
theorem A6M {P : Program} {X : Nat → Prop} {f : FuncId} {fn : Func} {args : List Value} {R : Value → WP} {w : World} (hm : P.follows .mixedOrders = true) (hf : P.funcs[f]? = some fn)
  (h : A6K P X fn args R w) : Fn P X f args.toArray w R := by
 unfold A6K at h
 cases hbody : fn.body with
 | none => rw [hbody] at h; exact h.elim
 | some c =>
  rw [hbody] at h; simp only [] at h
  cases hle : Nat.ble args.length fn.ntmps with
  | false => rw [hle] at h; exact h.elim
  | true =>
   rw [hle] at h; simp only [] at h
   have hle' : args.length ≤ fn.ntmps := by simpa using hle
   cases hr : H3 c with
   | true => rw [hr] at h; exact h.elim
   | false =>
    rw [hr] at h; simp only [] at h
    intro cs
    let b : Frame := { (default : Frame) with fn := f, kind := .normal }
    have henter : Frame.enter P f args.toArray .normal = b.atR { tmps := args.toArray ++ Array.replicate (fn.ntmps - args.toArray.size) undef, defers := [] } [.code c] := by
     simp [Frame.enter, Frame.atR, hf, hbody, b]
     rfl
    have hok : D3.Ok fn.ntmps (A0e 0 args) { tmps := args.toArray ++ Array.replicate (fn.ntmps - args.toArray.size) undef, defers := [] } := by
     refine ⟨by simp; omega, fun t v ht hg => ?_⟩
     obtain ⟨_, h2⟩ := A70 args 0 t v hg
     simp only [Nat.sub_zero] at h2
     have hlt : t < args.length := (List.getElem?_eq_some_iff.1 h2).1
     simp only []
     rw [Array.getElem?_append_left (by simpa using hlt)]
     simpa using h2
    obtain ⟨a', w', k0, hst, hsk, e', hok', hend⟩ := C2S (b := b) hm rfl cs c _ _ w hr hok rfl h
    rw [← henter] at hst
    rcases hend with ⟨hd, hfin⟩ | ⟨g, first, cap, hd, hdf⟩
    ·obtain ⟨v, hv, hR⟩ := A4D hok' hfin
     exact ⟨.returned v, w', { b.atR a' k0 with mode := .returning }, ⟨v, rfl, hR, hsk⟩, hst, rfl, rfl, hd, rfl, fn, hf, hv⟩
    ·obtain ⟨hent, hcd⟩ := hdf
     have hl : Leaves P fn a'.tmps (fun e w'' => ∃ v, e = .returned v ∧ R v w'' ∧ Sk X w w'') a'.defers .returning w' := by
      rw [hd]
      refine leaves_cons (by simp) (hent _ w') ?_
      have hcd' := hcd
      rw [show (first.toList ++ cap.toList).toArray = (first ++ #[]) ++ cap from by simp] at hcd'
      refine CallsD.mono hcd' ?_
      rintro e u' w'' ⟨v, rfl, rfl, hf2, hsk2⟩
      obtain ⟨v', hv', hR'⟩ := A4D hok' hf2
      exact ⟨v', hv', v', rfl, hR', hsk.trans hsk2⟩
     obtain ⟨e2, w2, fr, hR, hs2, hfn2, hl2⟩ := leaves_steps a'.defers .returning w' { b.atR a' k0 with mode := .returning } cs rfl rfl rfl hf rfl hl
     exact ⟨e2, w2, fr, hR, Comes.of_steps hst hs2, hfn2, hl2⟩
theorem B62 {P : Program} {X : Nat → Prop} {f : FuncId} {fn : Func} {args : List Value} {R : Value → WP} {w : World} (hm : P.follows .mixedOrders = true) (hf : P.funcs[f]? = some fn)
  (h : A69 P X fn args R w) : FnD P X f args.toArray w R := by
 unfold A69 at h
 cases hbody : fn.body with
 | none => rw [hbody] at h; exact h.elim
 | some c =>
  rw [hbody] at h; simp only [] at h
  cases hle : Nat.ble args.length fn.ntmps with
  | false => rw [hle] at h; exact h.elim
  | true =>
   rw [hle] at h; simp only [] at h
   have hle' : args.length ≤ fn.ntmps := by simpa using hle
   intro c0 cs0 hc0
   have hc : ({ c0 with mode := .returning } : Frame) = c0 := by rw [← hc0]
   let cs := c0 :: cs0
   let b : Frame := { (default : Frame) with fn := f, kind := .deferred }
   have henter : Frame.enter P f args.toArray .deferred = b.atR { tmps := args.toArray ++ Array.replicate (fn.ntmps - args.toArray.size) undef, defers := [] } [.code c] := by
    simp [Frame.enter, Frame.atR, hf, hbody, b]
    rfl
   have hok : D3.Ok fn.ntmps (A0e 0 args) { tmps := args.toArray ++ Array.replicate (fn.ntmps - args.toArray.size) undef, defers := [] } := by
    refine ⟨by simp; omega, fun t v ht hg => ?_⟩
    obtain ⟨_, h2⟩ := A70 args 0 t v hg
    simp only [Nat.sub_zero] at h2
    have hlt : t < args.length := (List.getElem?_eq_some_iff.1 h2).1
    simp only []
    rw [Array.getElem?_append_left (by simpa using hlt)]
    simpa using h2
   have ending : ∀ (a' : Act) (w' : World) (ms : List Deferred) (k0 : List Item), a'.defers = ms ++ [] → N2 w.heap.size w' ms → Sk X w w' →
     (∃ e', D3.Ok fn.ntmps e' a' ∧ ((ms = [] ∧ Y4 P fn.ntmps fn.results.toList R e' w') ∨ ∀ w'', U2 w' w'' → Y4 P fn.ntmps fn.results.toList R e' w'')) →
     ∀ (m : Machine), Steps P m (lone { b.atR a' k0 with mode := .returning } cs w') →
     ∃ e w'' fr, (∃ v, e = .returned v ∧ R v w'' ∧ Sk X w w'') ∧ Comes P m (lone fr cs w'') e ∧ fr.kind = .deferred ∧ fr.going P w'' e := by
    intro a' w' ms k0 hd hmk hsk ⟨e', hok', hfin⟩ m hs
    rcases hfin with ⟨hms, hfin⟩ | hfin
    ·subst hms
     obtain ⟨v, hv, hR⟩ := A4D hok' hfin
     exact ⟨.returned v, w', { b.atR a' k0 with mode := .returning }, ⟨v, rfl, hR, hsk⟩, hs, rfl, rfl, hd, fn, hf, hv⟩
    obtain ⟨w'', hdq, hst, hlow, hcalm⟩ := A6q (P := P) ms { b.atR a' k0 with mode := .returning } cs w' rfl (by simpa [Frame.atR] using hd) hmk
    obtain ⟨v, hv, hR⟩ := A4D hok' (hfin w'' hdq)
    refine ⟨.returned v, w'', { { b.atR a' k0 with mode := .returning } with defers := [] }, ⟨v, rfl, hR, ?_⟩, hs.trans hst, rfl, rfl, rfl, fn, hf, hv⟩
    refine ⟨by rw [hdq.1]; exact hsk.1, fun r d hr => ?_, fun r lo hx hr => ?_, hsk.2.2.2.trans hcalm⟩
    ·rw [hlow r (Array.getElem?_eq_some_iff.1 hr).1]; exact hsk.2.1 r d hr
    ·rw [hlow r (Array.getElem?_eq_some_iff.1 hr).1]; exact hsk.2.2.1 r lo hx hr
   have go : ∀ (k : D3 → WP) (ex : Nat → D3 → WP), (∀ i e, ex i e = D8) → vc P X fn.ntmps false c (A0e 0 args) k { exit := ex, ret := k } w →
     (∀ e a' w' ms, P9 c { tmps := args.toArray ++ Array.replicate (fn.ntmps - args.toArray.size) undef, defers := [] } a' → a'.defers = ms ++ [] → D3.Ok fn.ntmps e a' → k e w' →
      (ms = [] ∧ Y4 P fn.ntmps fn.results.toList R e w') ∨ ∀ w'', U2 w' w'' → Y4 P fn.ntmps fn.results.toList R e w'') →
     ∃ e w'' fr, (∃ v, e = .returned v ∧ R v w'' ∧ Sk X w w'') ∧ Comes P (lone (Frame.enter P f args.toArray .deferred) cs w) (lone fr cs w'') e ∧ fr.kind = .deferred ∧ fr.going P w'' e := by
    intro k ex hex hvc hk
    obtain ⟨e, a', w', ms, hq, hsk, hd, hmk, harr⟩ := B1y hm c X b false _ _ _ _ w trivial (fun _ => rfl) hok hvc [] cs
    rw [← henter] at harr
    cases e with
    | nrm =>
     obtain ⟨⟨e', hok', hke⟩, hkp⟩ := hq
     exact ending a' w' ms [] hd hmk hsk ⟨e', hok', hk e' a' w' ms hkp hd hok' hke⟩ _ (Steps.trans harr (.one (stepR_end rfl)))
    | ret =>
     obtain ⟨⟨e', hok', hke⟩, hkp⟩ := hq
     obtain ⟨k0, hs0⟩ := harr
     exact ending a' w' ms _ hd hmk hsk ⟨e', hok', hk e' a' w' ms hkp hd hok' hke⟩ _ (Steps.trans hs0 (.one (stepR_ret rfl)))
    | exit i => obtain ⟨⟨e', _, hke⟩, _⟩ := hq; simp only [hex] at hke; exact hke.elim
    | goto l => exact hq.1.elim
   have done : (∃ e w'' fr, (∃ v, e = .returned v ∧ R v w'' ∧ Sk X w w'') ∧ Comes P (lone (Frame.enter P f args.toArray .deferred) cs w) (lone fr cs w'') e ∧ fr.kind = .deferred ∧ fr.going P w'' e) →
     ∃ e u' w' fr, (∃ v, e = .returned v ∧ u' = FrameMode.returning ∧ R v w' ∧ Sk X w w') ∧
      Comes P (lone (Frame.enter P f args.toArray .deferred) (c0 :: cs0) w) (lone fr ({ c0 with mode := u' } :: cs0) w') e ∧ fr.kind = .deferred ∧ fr.going P w' e := by
    rintro ⟨e, w'', fr, ⟨v, rfl, hR, hsk⟩, hcm, hk, hg⟩
    exact ⟨.returned v, .returning, w'', fr, ⟨v, rfl, rfl, hR, hsk⟩, (by rw [hc]; exact hcm), hk, hg⟩
   cases hr : H3 c with
   | true =>
    rw [hr] at h
    exact done (go _ _ (fun _ _ => rfl) h fun e a' w' ms _ _ _ hke => .inr hke)
   | false =>
    rw [hr] at h
    refine done (go _ _ (fun _ _ => rfl) h fun e a' w' ms hkp hd _ hke => .inl ⟨?_, hke⟩)
    have := hkp.2 hr
    rw [hd] at this
    simpa using this
end Go.Proofs.YtpbmephflllolaaGreat
namespace Go.Proofs.YtpbmephflllolaaGreat
open Go
def A3W (X : Nat → Prop) (t0 : Value) (R : Value → WP) : WP :=
 B1 PR X (Instr.box 23 t0) fun t1 =>
 jn (n := 2) (fun t2 t3 =>
 A6 PR (Instr.loadAt 23 t1) fun t11 =>
 A0 PR (Instr.build 88 #[(0, t11)]) fun t12 =>
 B1 PR X (Instr.box 88 t12) fun t13 =>
 A0 PR (F4 t13) fun t15 =>
 A0 PR (Instr.fieldAt 88 t15 1) fun t16 =>
 A0 PR (Instr.build 92 #[]) fun t17 =>
 B1 PR X (Instr.box 92 t17) fun t18 =>
 B2 PR X 36 [t16, t18] fun t19 =>
 jn (n := 1) (fun t22 =>
 R (.tuple #[t13, (.int .i64 0)])) fun J1 =>
 A0 PR (Instr.fieldAt 23 t1 1) fun t20 =>
 A6 PR (Instr.loadAt 3 t20) fun t21 =>
 lp (n := 1) (fun L2 t22_1 =>
 A0 PR (binOp .lss 3 t22_1 t21) fun t23 =>
 jn (n := 0) (
 jn (n := 0) (
 A0 PR (binOp .add 3 t22_1 (.int .i64 1)) fun t38 =>
 L2 t38) fun J3 =>
 drw <|
 A0 PR (F4 t13) fun t26 =>
 A0 PR (Instr.fieldAt 88 t26 2) fun t27 =>
 A6 PR (Instr.loadAt 86 t27) fun t28 =>
 A0 PR (Instr.fieldAt 23 t1 2) fun t29 =>
 A6 PR (Instr.loadAt 3 t29) fun t30 =>
 B2 PR X 37 [t30] fun t31 =>
 watch PR [(none, (Instr.loadAt 86 t27), t28)] <|
 A0 PR (Instr.build 103 #[(1, t31)]) fun t32 =>
 B1 PR X (Instr.box 103 t32) fun t33 =>
 watch PR [(none, (Instr.loadAt 86 t27), t28)] <|
 B1 PR X (Instr.buildSlice 86 1 #[(0, t33)]) fun t34 =>
 watch PR [(none, (Instr.loadAt 86 t27), t28)] <|
 B1 PR X (A8 .append #[86, 86] 86 [t28, t34]) fun t35 =>
 A0 PR (F4 t13) fun t36 =>
 A0 PR (Instr.fieldAt 88 t36 2) fun t37 =>
 B9 PR X (Instr.storeAt 86 t37 t35) <|
 J3) fun J4 =>
 B8 t23 (
 J4) (
 J1 t22_1)) (.int .i64 0)) fun J5 =>
 A6 PR (Instr.loadAt 23 t1) fun t6 =>
 B2 PR X 35 [t6] fun t7 =>
 A0 PR (binOp .neq 28 t7 (.int .i64 0)) fun t9 =>
 B8 t9 (
 R (.tuple #[(.pointer none), t7])) (
 J5 (.pointer none) (.int .i64 0))
theorem A7s : A9 PR 10 := A7 Tryz.func10 (by kernel_rfl) rfl
theorem A9F {X : Nat → Prop} {t0 : Value} {R : Value → WP} {w : World} (h : A3W X t0 R w) : Fn PR X 10 #[t0] w R := C5 (args := [t0]) mixed Tryz.func10 (by kernel_rfl) h
def r9 (X : Nat → Prop) (t0 t1 t2 : Value) (R : Value → WP) : WP :=
 B1 PR X (Instr.box 42 t1) fun t4 =>
 B1 PR X (Instr.alloc 39 true (.tuple #[])) fun t6 =>
 jn (n := 0) (
 A0 PR (Instr.build 39 #[(0, (.int .i64 1))]) fun t33 =>
 B9 PR X (Instr.storeAt 39 t6 t33) <|
 A6 PR (E5 [.c 39 t6]) R) fun J1 =>
 A0 PR (Instr.fieldAt 42 t4 0) fun t7 =>
 A6 PR (Instr.loadAt 3 t7) fun t8 =>
 A0 PR (binOp .eql 3 t8 (.int .i64 0)) fun t10 =>
 B8 t10 (
 A0 PR (Instr.fieldAt 42 t4 1) fun t12 =>
 A6 PR (Instr.loadAt 9 t12) fun t13 =>
 B2 PR X 24 [t0, t13, t2] fun t15 =>
 B9 PR X (Instr.storeAt 39 t6 t15) <|
 A6 PR (E5 [.c 39 t6]) R) (
 A0 PR (binOp .eql 3 t8 (.int .i64 1)) fun t17 =>
 B8 t17 (
 A0 PR (Instr.fieldAt 42 t4 2) fun t19 =>
 A6 PR (Instr.loadAt 32 t19) fun t20 =>
 B2 PR X 26 [t0, t20] fun t21 =>
 B9 PR X (Instr.storeAt 39 t6 t21) <|
 A6 PR (E5 [.c 39 t6]) R) (
 A0 PR (binOp .eql 3 t8 (.int .i64 2)) fun t23 =>
 B8 t23 (
 A0 PR (Instr.fieldAt 42 t4 3) fun t25 =>
 A6 PR (Instr.loadAt 3 t25) fun t26 =>
 B2 PR X 27 [t0, t26, t2] fun t28 =>
 B9 PR X (Instr.storeAt 39 t6 t28) <|
 A6 PR (E5 [.c 39 t6]) R) (
 A0 PR (binOp .eql 3 t8 (.int .i64 3)) fun t30 =>
 B8 t30 (
 B2 PR X 20 [t0] fun t32 =>
 B9 PR X (Instr.storeAt 39 t6 t32) <|
 A6 PR (E5 [.c 39 t6]) R) (
 J1))))
theorem A20 : A9 PR 13 := A7 Tryz.func13 (by kernel_rfl) rfl
theorem A3D {X : Nat → Prop} {t0 t1 t2 : Value} {R : Value → WP} {w : World} (h : r9 X t0 t1 t2 R w) : Fn PR X 13 #[t0, t1, t2] w R := C5 (args := [t0, t1, t2]) mixed Tryz.func13 (by kernel_rfl) h
def U4 (X : Nat → Prop) (t0 : Value) (R : Value → WP) : WP :=
 A0 PR (F4 t0) fun t7 =>
 A0 PR (Instr.fieldAt 88 t7 2) fun t8 =>
 A6 PR (Instr.loadAt 86 t8) fun t9 =>
 B2 PR X 46 [t9] fun t10 =>
 isf t10 (
 jn (n := 2) (fun t3 t16 =>
 dfr PR X t10 (R t3)) fun J1 =>
 A0 PR (F4 t0) fun t12 =>
 A0 PR (Instr.fieldAt 88 t12 2) fun t13 =>
 A6 PR (Instr.loadAt 86 t13) fun t14 =>
 A0 PR (A8 .len #[86] 0 [t14]) fun t15 =>
 lp (n := 2) (fun L2 t3_1 t16_1 =>
 A0 PR (binOp .lss 3 t16_1 t15) fun t17 =>
 jn (n := 0) (
 jn (n := 1) (fun t3_2 =>
 A0 PR (binOp .add 3 t16_1 (.int .i64 1)) fun t27 =>
 L2 t3_2 t27) fun J3 =>
 A0 PR (Instr.indexAt 86 t14 t16_1) fun t18 =>
 A6 PR (Instr.loadAt 93 t18) fun t19 =>
 A0 PR (F4 t19) fun t22 =>
 A0 PR (Instr.fieldAt 103 t22 1) fun t23 =>
 A6 PR (Instr.loadAt 94 t23) fun t24 =>
 B2 PR X 47 [t24] fun t25 =>
 B1 PR X (A8 .append #[48, 48] 48 [t3_1, t25]) fun t26 =>
 J3 t26) fun J4 =>
 B8 t17 (
 J4) (
 J1 t3_1 t16_1)) (.slice none 0 0) (.int .i64 0))
theorem A08 (X : Nat → Prop) (t0 : Value) (R : Value → WP) : A6K PR X Tryz.f16 [t0] R = U4 X t0 R := by kernel_rfl
theorem l0 : A9 PR 16 := A7 Tryz.func16 (by kernel_rfl) rfl
theorem A2D {X : Nat → Prop} {t0 : Value} {R : Value → WP} {w : World} (h : U4 X t0 R w) : Fn PR X 16 #[t0] w R := A6M (args := [t0]) mixed Tryz.func16 (by rw [A08]; exact h)
def l9 (X : Nat → Prop) (t0 : Value) (R : Value → WP) : WP :=
 A0 PR (F4 t0) fun t4 =>
 A0 PR (Instr.fieldAt 88 t4 1) fun t5 =>
 B2 PR X 50 [t5] fun t6 =>
 A0 PR (F4 t6) fun t7 =>
 A0 PR (Instr.fieldAt 92 t7 0) fun t8 =>
 A6 PR (Instr.loadAt 32 t8) fun t9 =>
 B2 PR X 49 [t9] fun t10 =>
 R t10
theorem A1p : A9 PR 19 := A7 Tryz.func19 (by kernel_rfl) rfl
theorem A2L {X : Nat → Prop} {t0 : Value} {R : Value → WP} {w : World} (h : l9 X t0 R w) : Fn PR X 19 #[t0] w R := C5 (args := [t0]) mixed Tryz.func19 (by kernel_rfl) h
def k6 (X : Nat → Prop) (t0 : Value) (R : Value → WP) : WP :=
 B1 PR X (Instr.alloc 39 true (.tuple #[])) fun t2 =>
 B2 PR X 16 [t0] fun t4 =>
 A0 PR (A8 .len #[48] 0 [t4]) fun t5 =>
 A0 PR (Instr.build 39 #[(3, t5)]) fun t6 =>
 B9 PR X (Instr.storeAt 39 t2 t6) <|
 A6 PR (E5 [.c 39 t2]) R
theorem j1 : A9 PR 20 := A7 Tryz.func20 (by kernel_rfl) rfl
theorem A1v {X : Nat → Prop} {t0 : Value} {R : Value → WP} {w : World} (h : k6 X t0 R w) : Fn PR X 20 #[t0] w R := C5 (args := [t0]) mixed Tryz.func20 (by kernel_rfl) h
def P8 (X : Nat → Prop) (t0 t1 t2 : Value) (R : Value → WP) : WP :=
 B1 PR X (Instr.alloc 39 true (.tuple #[])) fun t6 =>
 B2 PR X 56 [t1] fun t14 =>
 A0 PR (Instr.extract t14 0) fun t15 =>
 A0 PR (Instr.extract t14 1) fun t16 =>
 B1 PR X (Instr.alloc 58 true (.tuple #[])) fun t7 =>
 B9 PR X (Instr.storeAt 58 t7 t15) <|
 A0 PR (binOp .neq 28 t16 (.int .i64 0)) fun t18 =>
 B8 t18 (
 A0 PR (Instr.build 39 #[(0, (.int .i64 9))]) fun t19 =>
 B9 PR X (Instr.storeAt 39 t6 t19) <|
 A6 PR (E5 [.c 39 t6]) R) (
 A0 PR (Instr.fieldAt 58 t7 0) fun t21 =>
 A6 PR (Instr.loadAt 56 t21) fun t22 =>
 B2 PR X 23 [t22] fun t23 =>
 A0 PR (Instr.extract t23 0) fun t24 =>
 A0 PR (Instr.extract t23 1) fun t25 =>
 drw <|
 A0 PR (F4 t0) fun t27 =>
 A0 PR (Instr.fieldAt 88 t27 2) fun t28 =>
 A6 PR (Instr.loadAt 86 t28) fun t29 =>
 A0 PR (F4 t0) fun t32 =>
 A0 PR (Instr.fieldAt 88 t32 2) fun t33 =>
 A6 PR (Instr.loadAt 86 t33) fun t34 =>
 A0 PR (A8 .len #[86] 0 [t34]) fun t35 =>
 B2 PR X 57 [t24, t35] fun t36 =>
 watch PR [(none, (Instr.loadAt 86 t28), t29)] <|
 A0 PR (Instr.indexAt 86 t29 t36) fun t37 =>
 A6 PR (Instr.loadAt 93 t37) fun t38 =>
 B1 PR X (Instr.buildSlice 86 1 #[(0, t38)]) fun t40 =>
 B2 PR X 46 [t40] fun t41 =>
 isf t41 (
 drw <|
 A0 PR (F4 t0) fun t44 =>
 A0 PR (Instr.fieldAt 88 t44 1) fun t45 =>
 A6 PR (Instr.loadAt 58 t7) fun t48 =>
 A0 PR (F4 t0) fun t52 =>
 A0 PR (Instr.fieldAt 88 t52 0) fun t53 =>
 A0 PR (Instr.fieldAt 23 t53 3) fun t54 =>
 A6 PR (Instr.loadAt 3 t54) fun t55 =>
 B2 PR X 50 [t45] fun t46 =>
 watch PR [(none, (Instr.loadAt 3 t54), t55), (none, (Instr.loadAt 58 t7), t48)] <|
 B2 PR X 22 [t48] fun t49 =>
 watch PR [(none, (Instr.loadAt 3 t54), t55)] <|
 B2 PR X 58 [t38, t46, t24, t49, t2, t55] fun t56 =>
 B9 PR X (Instr.storeAt 39 t6 t56) <|
 dfr PR X t41 (A6 PR (E5 [.c 39 t6]) R)))
theorem x9 (X : Nat → Prop) (t0 t1 t2 : Value) (R : Value → WP) : A6K PR X Tryz.f24 [t0, t1, t2] R = P8 X t0 t1 t2 R := by kernel_rfl
theorem Y1 : A9 PR 24 := A7 Tryz.func24 (by kernel_rfl) rfl
theorem A0k {X : Nat → Prop} {t0 t1 t2 : Value} {R : Value → WP} {w : World} (h : P8 X t0 t1 t2 R w) : Fn PR X 24 #[t0, t1, t2] w R := A6M (args := [t0, t1, t2]) mixed Tryz.func24 (by rw [x9]; exact h)
def j2 (X : Nat → Prop) (t0 t1 : Value) (R : Value → WP) : WP :=
 B1 PR X (Instr.alloc 39 true (.tuple #[])) fun t4 =>
 jn (n := 0) (
 drw <|
 A0 PR (F4 t0) fun t13 =>
 A0 PR (Instr.fieldAt 88 t13 1) fun t14 =>
 B2 PR X 49 [t1] fun t16 =>
 B2 PR X 59 [t1] fun t18 =>
 A0 PR (Instr.build 92 #[(0, t16), (1, t18)]) fun t19 =>
 B1 PR X (Instr.box 92 t19) fun t20 =>
 B2 PR X 36 [t14, t20] fun t21 =>
 A0 PR (Instr.build 39 #[]) fun t22 =>
 B9 PR X (Instr.storeAt 39 t4 t22) <|
 A6 PR (E5 [.c 39 t4]) R) fun J1 =>
 B2 PR X 32 [t1] fun t7 =>
 A0 PR (binOp .neq 28 t7 (.int .i64 0)) fun t9 =>
 B8 t9 (
 A0 PR (Instr.build 39 #[(0, t7)]) fun t11 =>
 B9 PR X (Instr.storeAt 39 t4 t11) <|
 A6 PR (E5 [.c 39 t4]) R) (
 J1)
theorem e6 : A9 PR 26 := A7 Tryz.func26 (by kernel_rfl) rfl
theorem A1V {X : Nat → Prop} {t0 t1 : Value} {R : Value → WP} {w : World} (h : j2 X t0 t1 R w) : Fn PR X 26 #[t0, t1] w R := C5 (args := [t0, t1]) mixed Tryz.func26 (by kernel_rfl) h
def S0 (X : Nat → Prop) (t0 t1 t2 : Value) (R : Value → WP) : WP :=
 B1 PR X (Instr.alloc 39 true (.tuple #[])) fun t6 =>
 A0 PR (binOp .lss 3 t1 (.int .i64 0)) fun t10 =>
 gj t10 false (fun J => J t1) fun t12 =>
 gj t10 false (fun J => J t0) fun t13 =>
 gj t10 false (fun J => A0 PR (F4 t13) J) fun t14 =>
 gj t10 false (fun J => A0 PR (Instr.fieldAt 88 t14 2) J) fun t15 =>
 gj t10 false (fun J => A6 PR (Instr.loadAt 86 t15) J) fun t16 =>
 gj t10 false (fun J => A0 PR (A8 .len #[86] 0 [t16]) J) fun t17 =>
 gj t10 false (fun J => A0 PR (binOp .geq 3 t12 t17) J) fun t18 =>
 A0 PR (do pure (if ← asBool t10 then (.bool true) else t18)) fun t19 =>
 B8 t19 (
 A0 PR (Instr.build 39 #[(0, (.int .i64 1))]) fun t20 =>
 B9 PR X (Instr.storeAt 39 t6 t20) <|
 A6 PR (E5 [.c 39 t6]) R) (
 A0 PR (F4 t0) fun t22 =>
 A0 PR (Instr.fieldAt 88 t22 2) fun t23 =>
 A6 PR (Instr.loadAt 86 t23) fun t24 =>
 A0 PR (Instr.indexAt 86 t24 t1) fun t26 =>
 A6 PR (Instr.loadAt 93 t26) fun t27 =>
 B1 PR X (Instr.buildSlice 86 1 #[(0, t27)]) fun t29 =>
 B2 PR X 46 [t29] fun t30 =>
 isf t30 (
 B1 PR X (Instr.alloc 39 true (.tuple #[])) fun t8 =>
 drw <|
 A0 PR (F4 t27) fun t35 =>
 A0 PR (Instr.fieldAt 103 t35 1) fun t36 =>
 A6 PR (Instr.loadAt 94 t36) fun t37 =>
 A0 PR (F4 t27) fun t39 =>
 A0 PR (Instr.fieldAt 103 t39 2) fun t40 =>
 A6 PR (Instr.loadAt 3 t40) fun t41 =>
 B2 PR X 60 [t37, t41, (.int .i64 4), t2] fun t43 =>
 A0 PR (Instr.extract t43 0) fun t44 =>
 A0 PR (Instr.extract t43 1) fun t45 =>
 A0 PR (Instr.extract t43 2) fun t46 =>
 A0 PR (F4 t27) fun t47 =>
 A0 PR (Instr.fieldAt 103 t47 1) fun t48 =>
 B9 PR X (Instr.storeAt 94 t48 t44) <|
 A0 PR (F4 t27) fun t49 =>
 A0 PR (Instr.fieldAt 103 t49 2) fun t50 =>
 B9 PR X (Instr.storeAt 3 t50 t45) <|
 A0 PR (Instr.fieldAt 39 t8 3) fun t51 =>
 B9 PR X (Instr.storeAt 3 t51 t46) <|
 A6 PR (Instr.loadAt 39 t8) fun t52 =>
 B9 PR X (Instr.storeAt 39 t6 t52) <|
 dfr PR X t30 (A6 PR (E5 [.c 39 t6]) R)))
theorem A0N (X : Nat → Prop) (t0 t1 t2 : Value) (R : Value → WP) : A6K PR X Tryz.f27 [t0, t1, t2] R = S0 X t0 t1 t2 R := by kernel_rfl
theorem e7 : A9 PR 27 := A7 Tryz.func27 (by kernel_rfl) rfl
theorem A1f {X : Nat → Prop} {t0 t1 t2 : Value} {R : Value → WP} {w : World} (h : S0 X t0 t1 t2 R w) : Fn PR X 27 #[t0, t1, t2] w R := A6M (args := [t0, t1, t2]) mixed Tryz.func27 (by rw [A0N]; exact h)
def A1b (X : Nat → Prop) (t0 : Value) (R : Value → WP) : WP :=
 B1 PR X (Instr.box 86 t0) fun t1 =>
 jn (n := 1) (fun t7 =>
 A0 PR (Instr.makeFunc (.func 87) #[] #[t1]) fun t16 =>
 R t16) fun J1 =>
 A6 PR (Instr.loadAt 86 t1) fun t5 =>
 A0 PR (A8 .len #[86] 0 [t5]) fun t6 =>
 lp (n := 1) (fun L2 t7_1 =>
 A0 PR (binOp .lss 3 t7_1 t6) fun t8 =>
 jn (n := 0) (
 jn (n := 0) (
 A0 PR (binOp .add 3 t7_1 (.int .i64 1)) fun t15 =>
 L2 t15) fun J3 =>
 A0 PR (Instr.indexAt 86 t5 t7_1) fun t9 =>
 A6 PR (Instr.loadAt 93 t9) fun t10 =>
 A0 PR (F4 t10) fun t12 =>
 A0 PR (Instr.fieldAt 103 t12 0) fun t13 =>
 B2 PR X 86 [t13] fun t14 =>
 J3) fun J4 =>
 B8 t8 (
 J4) (
 J1 t7_1)) (.int .i64 0)
theorem l4 : A9 PR 46 := A7 Tryz.func46 (by kernel_rfl) rfl
theorem A6P {X : Nat → Prop} {t0 : Value} {R : Value → WP} {w : World} (h : A1b X t0 R w) : Fn PR X 46 #[t0] w R := C5 (args := [t0]) mixed Tryz.func46 (by kernel_rfl) h
def m7 (X : Nat → Prop) (t0 t1 t2 t3 t4 t5 : Value) (R : Value → WP) : WP :=
 B1 PR X (Instr.alloc 39 true (.tuple #[])) fun t12 =>
 B2 PR X 103 [t0, t1, t2, t4] fun t24 =>
 A0 PR (Instr.extract t24 0) fun t25 =>
 A0 PR (Instr.extract t24 1) fun t26 =>
 jn (n := 1) (fun t13 =>
 jn (n := 0) (
 A0 PR (F4 t0) fun t56 =>
 A0 PR (Instr.fieldAt 103 t56 1) fun t57 =>
 A6 PR (Instr.loadAt 94 t57) fun t58 =>
 A0 PR (binOp .add 3 t4 t5) fun t63 =>
 B2 PR X 106 [t58, t2, t13, t63] fun t64 =>
 A0 PR (Instr.extract t64 0) fun t65 =>
 A0 PR (Instr.extract t64 1) fun t66 =>
 A0 PR (F4 t0) fun t69 =>
 A0 PR (Instr.fieldAt 103 t69 1) fun t70 =>
 B9 PR X (Instr.storeAt 94 t70 t65) <|
 jn (n := 0) (
 A0 PR (Op.unary .not t26) fun t77 =>
 A0 PR (Instr.build 39 #[(1, t13), (2, t77)]) fun t78 =>
 B9 PR X (Instr.storeAt 39 t12 t78) <|
 A6 PR (E5 [.c 39 t12]) R) fun J1 =>
 A0 PR (binOp .neq 28 t66 (.int .i64 0)) fun t72 =>
 B8 t72 (
 A0 PR (Instr.build 39 #[(0, t66)]) fun t74 =>
 B9 PR X (Instr.storeAt 39 t12 t74) <|
 A6 PR (E5 [.c 39 t12]) R) (
 J1)) fun J2 =>
 B8 t3 (
 A0 PR (F4 t0) fun t43 =>
 A0 PR (Instr.fieldAt 103 t43 1) fun t44 =>
 A6 PR (Instr.loadAt 94 t44) fun t45 =>
 B2 PR X 105 [t45, t2] fun t47 =>
 A0 PR (Instr.extract t47 0) fun t48 =>
 A0 PR (Instr.extract t47 1) fun t49 =>
 A0 PR (F4 t0) fun t50 =>
 A0 PR (Instr.fieldAt 103 t50 1) fun t51 =>
 B9 PR X (Instr.storeAt 94 t51 t48) <|
 A0 PR (Instr.build 39 #[(1, t13)]) fun t53 =>
 B9 PR X (Instr.storeAt 39 t12 t53) <|
 A6 PR (E5 [.c 39 t12]) R) (
 J2)) fun J3 =>
 A0 PR (Op.unary .not t26) fun t28 =>
 B8 t28 (
 B2 PR X 104 [t1, t2] fun t32 =>
 A0 PR (Instr.extract t32 0) fun t33 =>
 A0 PR (Instr.extract t32 1) fun t34 =>
 jn (n := 0) (
 J3 t33) fun J4 =>
 A0 PR (Op.unary .not t34) fun t36 =>
 B8 t36 (
 A0 PR (Instr.build 39 #[(0, (.int .i64 11))]) fun t37 =>
 B9 PR X (Instr.storeAt 39 t12 t37) <|
 A6 PR (E5 [.c 39 t12]) R) (
 J4)) (
 J3 t25)
theorem A2A : A9 PR 58 := A7 Tryz.func58 (by kernel_rfl) rfl
theorem A2m {X : Nat → Prop} {t0 t1 t2 t3 t4 t5 : Value} {R : Value → WP} {w : World} (h : m7 X t0 t1 t2 t3 t4 t5 R w) : Fn PR X 58 #[t0, t1, t2, t3, t4, t5] w R := C5 (args := [t0, t1, t2, t3, t4, t5]) mixed Tryz.func58 (by kernel_rfl) h
def y4 (X : Nat → Prop) (t0 : Value) (R : Value → WP) : WP :=
 A6 PR (Instr.loadAt 86 t0) fun t3 =>
 B2 PR X 88 [t3] fun t4 =>
 rng (N := 2) PR X (fun t5 t6 K1 =>
 bgn <|
 A0 PR (F4 t6) fun t8 =>
 A0 PR (Instr.fieldAt 103 t8 0) fun t9 =>
 B2 PR (fun _ => False) 89 [t9] fun t10 =>
 K1 none) t4 (fun j => match j with | none => (T6 (R (.tuple #[]))) | some (.exit i) => (match Nat.beq i 0 with | true => (T6 (R (.tuple #[]))) | false => (D8)) | some .ret => (T6 (R (.tuple #[]))) | some _ => D8)
theorem A2f (X : Nat → Prop) (t0 : Value) (R : Value → WP) : A69 PR X Tryz.f87 [t0] R = y4 X t0 R := by kernel_rfl
theorem b9 : A9 PR 87 := A7 Tryz.func87 (by kernel_rfl) rfl
def s4 (X : Nat → Prop) (t0 t1 t2 t3 : Value) (R : Value → WP) : WP :=
 A0 PR (F4 t0) fun t12 =>
 A0 PR (Instr.fieldAt 103 t12 1) fun t13 =>
 A6 PR (Instr.loadAt 94 t13) fun t14 =>
 B2 PR X 150 [t14, t2] fun t16 =>
 jn (n := 2) (fun t8 t9 =>
 A0 PR (F4 t0) fun t45 =>
 A0 PR (Instr.fieldAt 103 t45 1) fun t46 =>
 A6 PR (Instr.loadAt 94 t46) fun t47 =>
 A0 PR (Instr.indexAt 94 t47 t16) fun t49 =>
 A0 PR (Instr.fieldAt 160 t49 2) fun t50 =>
 A6 PR (Instr.loadAt 3 t50) fun t51 =>
 R (.tuple #[t51, (.bool true)])) fun J1 =>
 A0 PR (binOp .lss 3 t16 (.int .i64 0)) fun t18 =>
 gj t18 false (fun J => J t0) fun t20 =>
 gj t18 false (fun J => A0 PR (F4 t20) J) fun t21 =>
 gj t18 false (fun J => A0 PR (Instr.fieldAt 103 t21 1) J) fun t22 =>
 gj t18 false (fun J => A6 PR (Instr.loadAt 94 t22) J) fun t23 =>
 gj t18 false (fun J => J t16) fun t24 =>
 gj t18 false (fun J => A0 PR (Instr.indexAt 94 t23 t24) J) fun t25 =>
 gj t18 false (fun J => A0 PR (Instr.fieldAt 160 t25 3) J) fun t26 =>
 gj t18 false (fun J => A6 PR (Instr.loadAt 3 t26) J) fun t27 =>
 gj t18 false (fun J => J t3) fun t28 =>
 gj t18 false (fun J => A0 PR (binOp .lss 3 t27 t28) J) fun t29 =>
 A0 PR (do pure (if ← asBool t18 then (.bool true) else t29)) fun t30 =>
 gj t30 false (fun J => J t1) fun t32 =>
 gj t30 false (fun J => J t0) fun t33 =>
 gj t30 false (fun J => A0 PR (F4 t33) J) fun t34 =>
 gj t30 false (fun J => A0 PR (Instr.fieldAt 103 t34 1) J) fun t35 =>
 gj t30 false (fun J => A6 PR (Instr.loadAt 94 t35) J) fun t36 =>
 gj t30 false (fun J => J t16) fun t37 =>
 gj t30 false (fun J => A0 PR (Instr.indexAt 94 t36 t37) J) fun t38 =>
 gj t30 false (fun J => A0 PR (Instr.fieldAt 160 t38 2) J) fun t39 =>
 gj t30 false (fun J => A6 PR (Instr.loadAt 3 t39) J) fun t40 =>
 gj t30 false (fun J => B2 PR X 151 [t32, t40] J) fun t41 =>
 gj t30 false (fun J => A0 PR (Op.unary .not t41) J) fun t42 =>
 A0 PR (do pure (if ← asBool t30 then (.bool true) else t42)) fun t43 =>
 B8 t43 (
 R (.tuple #[(.int .i64 0), (.bool false)])) (
 J1 (.int .i64 0) (.bool false))
theorem A22 : A9 PR 103 := A7 Tryz.func103 (by kernel_rfl) rfl
theorem A26 {X : Nat → Prop} {t0 t1 t2 t3 : Value} {R : Value → WP} {w : World} (h : s4 X t0 t1 t2 t3 R w) : Fn PR X 103 #[t0, t1, t2, t3] w R := C5 (args := [t0, t1, t2, t3]) mixed Tryz.func103 (by kernel_rfl) h
def m4 (X : Nat → Prop) (t0 t1 : Value) (R : Value → WP) : WP :=
 drw <|
 A0 PR (F4 t0) fun t7 =>
 A0 PR (Instr.fieldAt 92 t7 1) fun t8 =>
 A6 PR (Instr.loadAt 90 t8) fun t9 =>
 A0 PR (F4 t0) fun t14 =>
 A0 PR (Instr.fieldAt 92 t14 0) fun t15 =>
 A6 PR (Instr.loadAt 32 t15) fun t16 =>
 A0 PR (A8 .len #[32] 0 [t16]) fun t17 =>
 A0 PR (binOp .gtr 3 t17 (.int .i64 0)) fun t18 =>
 B2 PR X 102 [t1] fun t11 =>
 watch PR [(none, (Instr.loadAt 32 t15), t16), (none, (Instr.loadAt 90 t8), t9)] <|
 B2 PR X 152 [t9, t11] fun t12 =>
 watch PR [(none, (Instr.loadAt 32 t15), t16)] <|
 R (.tuple #[t12, t18])
theorem k5 : A9 PR 104 := A7 Tryz.func104 (by kernel_rfl) rfl
theorem A2B {X : Nat → Prop} {t0 t1 : Value} {R : Value → WP} {w : World} (h : m4 X t0 t1 R w) : Fn PR X 104 #[t0, t1] w R := C5 (args := [t0, t1]) mixed Tryz.func104 (by kernel_rfl) h
def m9 (X : Nat → Prop) (t0 t1 : Value) (R : Value → WP) : WP :=
 A0 PR (F4 t0) fun t6 =>
 A0 PR (Instr.fieldAt 92 t6 0) fun t7 =>
 A6 PR (Instr.loadAt 32 t7) fun t8 =>
 B2 PR X 199 [t8, t1] fun t10 =>
 A0 PR (binOp .geq 3 t10 (.int .i64 0)) fun t11 =>
 R t11
theorem A18 : A9 PR 151 := A7 Tryz.func151 (by kernel_rfl) rfl
theorem A2j {X : Nat → Prop} {t0 t1 : Value} {R : Value → WP} {w : World} (h : m9 X t0 t1 R w) : Fn PR X 151 #[t0, t1] w R := C5 (args := [t0, t1]) mixed Tryz.func151 (by kernel_rfl) h
end Go.Proofs.YtpbmephflllolaaGreat
namespace Go.Proofs.YtpbmephflllolaaGreat
open Go
structure BakAt (w : World) (k : Nat) (pv rv : Value) (p : List D7) : Prop where
 bl : bl w k = some (.cells #[pv, rv] 92 (0, 0))
 rp : F3 w pv p.length (p.flatMap D5)
 rr : F3 w rv (F7 (E3 p)).length ((F7 (E3 p)).flatMap F1)
 len : p.length ≤ 1000
theorem BakAt.ks {κ : Bool} {S : List Nat} {w w' : World} {k : Nat} {pv rv : Value} {p : List D7} (h : BakAt w k pv rv p) (hk : KS κ S w w') (hS : ∀ g ∈ k :: (G0 pv ++ G0 rv), g ∉ S) : BakAt w' k pv rv p :=
 ⟨hk.2.1 _ _ (hS k (by simp)) rfl h.bl, h.rp.ks hk fun g hg => hS g (by simp [hg]), h.rr.ks hk fun g hg => hS g (by simp [hg]), h.len⟩
theorem BakAt.ks0 {κ : Bool} {w w' : World} {k : Nat} {pv rv : Value} {p : List D7} (h : BakAt w k pv rv p) (hk : KS κ [] w w') : BakAt w' k pv rv p := h.ks hk (by simp)
theorem BakAt.c0 {w : World} {k : Nat} {pv rv : Value} {p : List D7} (h : BakAt w k pv rv p) : w.cell? ⟨k, 0, none⟩ = some pv := by rw [G5 h.bl]; rfl
theorem BakAt.c1 {w : World} {k : Nat} {pv rv : Value} {p : List D7} (h : BakAt w k pv rv p) : w.cell? ⟨k, 1, none⟩ = some rv := by rw [G5 h.bl]; rfl
theorem C15 (w : World) (k : Nat) (pv rv : Value) (p : List D7) (id : Int) (h : BakAt w k pv rv p) :
  Fn PR B4 151 #[.pointer (some ⟨k, 0, none⟩), .int .i64 id] w (fun r w' => r = .bool (decide (0 ≤ v8 p id)) ∧ C3 [] w w') := by
 refine Fn.pure (A2j (TW.go (κ := false) (S := []) ?_))
 unfold m9
 have h0 := h.c0
 have hl := h.len
 (have zz:=trivial;repeat((first|clear zz|with_reducible first|refine A3 ?_|refine A5 fun _=>?_|refine A4 fun _=>?_);try simp(disch:=first|omega|assumption|((repeat(first|exact A1|exact uH|apply A2|apply uT));first|done|fail)|(simp;first|done|omega|fail))[h0]))
 refine D2 B1P (fun w' hw' => B4J w' pv p id (by omega) ((h.ks0 hw'.ks).rp)) ?_
 (have zz:=trivial;repeat((first|clear zz|with_reducible first|refine A3 ?_|refine A5 fun _=>?_|refine A4 fun _=>?_);try simp(disch:=first|omega|assumption|((repeat(first|exact A1|exact uH|apply A2|apply uT));first|done|fail)|(simp;first|done|omega|fail))[]))
 exact B0 rfl
theorem B4Z (w : World) (k : Nat) (pv rv : Value) (p : List D7) (key : ByteArray) (hk : key.size < 2 ^ 60) (h : BakAt w k pv rv p) :
  Fn PR B4 104 #[.pointer (some ⟨k, 0, none⟩), .string key] w (fun r w' => r = .tuple #[.int .i64 (A2G p (f9 key)), .bool (decide (0 < p.length))] ∧ C3 [] w w') := by
 refine Fn.pure (A2B (TW.go (κ := false) (S := []) ?_))
 unfold m4
 have h0 := h.c0
 have h1 := h.c1
 have hl := h.len
 obtain ⟨a, c, hpv, _⟩ := h.rp.form
 obtain ⟨a2, c2, hrv, _⟩ := h.rr.form
 subst hpv hrv
 (have zz:=trivial;repeat((first|clear zz|with_reducible first|refine A3 ?_|refine A5 fun _=>?_|refine A4 fun _=>?_);try simp(disch:=first|omega|assumption|((repeat(first|exact A1|exact uH|apply A2|apply uT));first|done|fail)|(simp;first|done|omega|fail))[h0, h1]))
 refine D2 A1E (fun w' _ => A3c w' key hk) ?_
 (have zz:=trivial;repeat((first|clear zz|with_reducible first|refine A3 ?_|refine A5 fun _=>?_|refine A4 fun _=>?_);try simp(disch:=first|omega|assumption|((repeat(first|exact A1|exact uH|apply A2|apply uT));first|done|fail)|(simp;first|done|omega|fail))[h0, h1]))
 refine D2 B1G (fun w' hw' => C1D w' _ (F7 (E3 p)) (f9 key) (by rw [g8]; have := A66 p; omega) ((h.ks0 hw'.ks).rr)) ?_
 (have zz:=trivial;repeat((first|clear zz|with_reducible first|refine A3 ?_|refine A5 fun _=>?_|refine A4 fun _=>?_);try simp(disch:=first|omega|assumption|((repeat(first|exact A1|exact uH|apply A2|apply uT));first|done|fail)|(simp;first|done|omega|fail))[h0, h1]))
 refine B0 ?_
 simp [A2G]
theorem B6l (w : World) (b k : Nat) (tv pv rv : Value) (l : List EnV) (p : List D7) (key : ByteArray) (now : Int) (hk : key.size < 2 ^ 60) (hn : l.length ≤ 1000000) (hc : w.cell? ⟨b, 2, none⟩ = some tv) (hv : F3 w tv l.length (l.flatMap F2)) (hb : BakAt w k pv rv p) :
  Fn PR B4 103 #[.pointer (some ⟨b, 0, none⟩), .pointer (some ⟨k, 0, none⟩), .string key, .int .i64 now] w (fun r w' => r = .tuple #[.int .i64 (N1 l p key now).1, .bool (N1 l p key now).2] ∧ C3 [] w w') := by
 refine Fn.pure (A26 (TW.go (κ := false) (S := []) ?_))
 unfold s4
 obtain ⟨a, c, rfl, hr⟩ := hv.form
 (have zz:=trivial;repeat((first|clear zz|with_reducible first|refine A3 ?_|refine A5 fun _=>?_|refine A4 fun _=>?_);try simp(disch:=first|omega|assumption|((repeat(first|exact A1|exact uH|apply A2|apply uT));first|done|fail)|(simp;first|done|omega|fail))[hc]))
 refine D2 r6 (fun w' hw' => A0U w' _ l key hk hn (hv.ks hw'.ks (by simp))) ?_
 by_cases c1 : D6 l key < 0
 ·(have zz:=trivial;repeat((first|clear zz|with_reducible first|refine A3 ?_|refine A5 fun _=>?_|refine A4 fun _=>?_);try simp(disch:=first|omega|assumption|((repeat(first|exact A1|exact uH|apply A2|apply uT));first|done|fail)|(simp;first|done|omega|fail))[c1]))
  exact B0 (by simp [N1, c1])
 obtain ⟨i, hi, hlt⟩ := B7D (l := l) (key := key) (by omega)
 have hx : l[i]? = some (z7 l key) := by rw [z7, hi, Int.toNat_natCast]; exact getD_some f8 hlt
 obtain ⟨g, o, rfl, hrow⟩ := hr (by omega)
 have h2 := hrow.cellAt (f := F2) (k := 4) (j := 2) (fun _ => rfl) hx rfl
 have h3 := hrow.cellAt (f := F2) (k := 4) (j := 3) (fun _ => rfl) hx rfl
 have hk1 : N1 l p key now = if (z7 l key).dl < now ∨ v8 p (z7 l key).bk < 0 then (0, false) else ((z7 l key).bk, true) := by simp [N1, c1]
 rw [hk1]
 generalize z7 l key = x at *
 rw [hi]
 have hi0 : ¬ ((i : Nat) : Int) < 0 := by omega
 by_cases c2 : x.dl < now
 ·(have zz:=trivial;repeat((first|clear zz|with_reducible first|refine A3 ?_|refine A5 fun _=>?_|refine A4 fun _=>?_);try simp(disch:=first|omega|assumption|((repeat(first|exact A1|exact uH|apply A2|apply uT));first|done|fail)|(simp;first|done|omega|fail))[hi0, hlt, h3, c2, hc]))
  exact B0 (by simp [c2])
 (have zz:=trivial;repeat((first|clear zz|with_reducible first|refine A3 ?_|refine A5 fun _=>?_|refine A4 fun _=>?_);try simp(disch:=first|omega|assumption|((repeat(first|exact A1|exact uH|apply A2|apply uT));first|done|fail)|(simp;first|done|omega|fail))[hi0, hlt, h3, c2, h2, hc]))
 refine D2 A18 (fun w' hw' => C15 w' k pv rv p x.bk (hb.ks0 hw'.ks)) ?_
 by_cases c3 : v8 p x.bk < 0
 ·have c3' : ¬ 0 ≤ v8 p x.bk := by omega
  (have zz:=trivial;repeat((first|clear zz|with_reducible first|refine A3 ?_|refine A5 fun _=>?_|refine A4 fun _=>?_);try simp(disch:=first|omega|assumption|((repeat(first|exact A1|exact uH|apply A2|apply uT));first|done|fail)|(simp;first|done|omega|fail))[c3, c3', hc]))
  exact B0 (by simp [c3])
 ·have c3' : 0 ≤ v8 p x.bk := by omega
  (have zz:=trivial;repeat((first|clear zz|with_reducible first|refine A3 ?_|refine A5 fun _=>?_|refine A4 fun _=>?_);try simp(disch:=first|omega|assumption|((repeat(first|exact A1|exact uH|apply A2|apply uT));first|done|fail)|(simp;first|done|omega|fail))[c3, c3', hlt, h2, hc]))
  exact B0 (by simp [c2, c3])
theorem C1p {κ : Bool} {S : List Nat} {w0 : World} {H Hj : List Res} {F : Value → WP} {A : (Value → WP) → WP} (v1 : Value) (hF : TW κ S w0 Hj (F v1)) (hA : ∀ J : Value → WP, TW κ S w0 Hj (J v1) → TW κ S w0 H (A J)) : TW κ S w0 H (jn (n := 1) F A) := hA F hF
def Y9 (b : Nat) (lk : Int) (tv : Value) (nx : Int) : Res := .pt b (.cells #[.int .i32 lk, .int .u32 0, tv, .int .i64 nx] 103 (0, 0))
theorem B5G (w : World) (b k : Nat) (lk nx : Int) (tv pv rv : Value) (l : List EnV) (p : List D7) (key : ByteArray) (closing : Bool) (now idle : Int) (hk : key.size < 2 ^ 60) (hks : K9 l) (hn : l.length ≤ 1000000)
  (hb : ∀ w', KS false (B3 [Y9 b lk tv nx, E8 tv l]) w w' → BakAt w' k pv rv p) (hw : LW false (B3 [Y9 b lk tv nx, E8 tv l]) w [Y9 b lk tv nx, E8 tv l] w) :
  Fn PR B4 58 #[.pointer (some ⟨b, 0, none⟩), .pointer (some ⟨k, 0, none⟩), .string key, .bool closing, .int .i64 now, .int .i64 idle] w
   (Rn (B3 [Y9 b lk tv nx, E8 tv l]) w (fun (_ : Value) u => u = (F8 l p key closing now idle).2.1.val) fun r => [Y9 b lk r nx, E8 r (F8 l p key closing now idle).1]) := by
 refine A2m (TW.goH (κ := false) ?_ hw)
 unfold m7
 have hpl : p.length ≤ 1000 := (hb w (KS.refl _ _)).len
 generalize hS : B3 [Y9 b lk tv nx, E8 tv l] = S at *
 simp only [Y9]
 refine A1W (e := 160) (k := 4) (v := tv) (q := l.length) (xs := l.flatMap F2) (by (repeat constructor)) fun ht1 ht2 ht3 => ?_
 (have zz:=trivial;repeat((first|clear zz|with_reducible first|refine A3 ?_|refine A5 fun _=>?_|refine A4 fun _=>?_);try simp(disch:=first|omega|assumption|((repeat(first|exact A1|exact uH|apply A2|apply uT));first|done|fail)|(simp;first|done|omega|fail))[]))
 refine D2 A22 (fun w' hw' => B6l w' b k tv pv rv l p key now hk hn (n9 (o := 2) (hw'.pt (by (repeat constructor))) rfl) (N0.own (e := 160) (k := 4) (by (repeat constructor)) w' hw') (hb w' hw'.ks)) ?_
 rename_i ba
 by_cases hne : (N1 l p key now).2 = false ∧ p = []
 ·have hd : F8 l p key closing now idle = (l, ⟨11, 0, false, 0⟩, false) := if_pos hne
  obtain ⟨h1, hp⟩ := hne
  have hp0 : ¬ 0 < p.length := by rw [hp]; simp
  rw [hd]
  (have zz:=trivial;repeat((first|clear zz|with_reducible first|refine A3 ?_|refine A5 fun _=>?_|refine A4 fun _=>?_);try simp(disch:=first|omega|assumption|((repeat(first|exact A1|exact uH|apply A2|apply uT));first|done|fail)|(simp;first|done|omega|fail))[h1]))
  refine D2 k5 (fun w' hw' => B4Z w' k pv rv p key hk (hb w' hw'.ks)) ?_
  (have zz:=trivial;repeat((first|clear zz|with_reducible first|refine A3 ?_|refine A5 fun _=>?_|refine A4 fun _=>?_);try simp(disch:=first|omega|assumption|((repeat(first|exact A1|exact uH|apply A2|apply uT));first|done|fail)|(simp;first|done|omega|fail))[hp0]))
  refine C4 tv (by simp [AnsV.val]) ?_
  try simp only [Y9]
  (repeat' constructor)
 have hd : F8 l p key closing now idle = if closing then (A0b l key, ⟨0, V9 l p key now, false, 0⟩, (j7 l key).isSome)
  else match G7 l (A8M l p key now idle) with
   | none => (l, ⟨12, 0, false, 0⟩, false)
   | some u => (u, ⟨0, V9 l p key now, !(N1 l p key now).2, 0⟩, true) := if_neg hne
 rw [B2T, B28]
 refine C1p (Hj := [.pt ba (.cells #[.int .i64 0, .int .i64 0, .bool false, .int .i64 0] 39), Y9 b lk tv nx, E8 tv l]) (.int .i64 (V9 l p key now)) ?_ ?_
 case refine_2 =>
  intro J hJ
  simp only [Y9] at hJ
  cases h1 : (N1 l p key now).2 with
  | true =>
   have e : V9 l p key now = (N1 l p key now).1 := by simp [V9, h1]
   rw [e] at hJ
   (have zz:=trivial;repeat((first|clear zz|with_reducible first|refine A3 ?_|refine A5 fun _=>?_|refine A4 fun _=>?_);try simp(disch:=first|omega|assumption|((repeat(first|exact A1|exact uH|apply A2|apply uT));first|done|fail)|(simp;first|done|omega|fail))[]))
   exact hJ
  | false =>
   have hp0 : ¬ p = [] := fun h => hne ⟨h1, h⟩
   have hp1 : 0 < p.length := List.length_pos_iff.2 hp0
   have e : V9 l p key now = A2G p (f9 key) := by simp [V9, h1]
   rw [e] at hJ
   (have zz:=trivial;repeat((first|clear zz|with_reducible first|refine A3 ?_|refine A5 fun _=>?_|refine A4 fun _=>?_);try simp(disch:=first|omega|assumption|((repeat(first|exact A1|exact uH|apply A2|apply uT));first|done|fail)|(simp;first|done|omega|fail))[]))
   refine D2 k5 (fun w' hw' => B4Z w' k pv rv p key hk (hb w' hw'.ks)) ?_
   (have zz:=trivial;repeat((first|clear zz|with_reducible first|refine A3 ?_|refine A5 fun _=>?_|refine A4 fun _=>?_);try simp(disch:=first|omega|assumption|((repeat(first|exact A1|exact uH|apply A2|apply uT));first|done|fail)|(simp;first|done|omega|fail))[hp1]))
   exact hJ
 ·rw [hd]
  simp only [Y9]
  cases closing with
  | true =>
   (have zz:=trivial;repeat((first|clear zz|with_reducible first|refine A3 ?_|refine A5 fun _=>?_|refine A4 fun _=>?_);try simp(disch:=first|omega|assumption|((repeat(first|exact A1|exact uH|apply A2|apply uT));first|done|fail)|(simp;first|done|omega|fail))[]))
   refine M3 A78 (fun w' hw' => A9w w' tv l key hk hks hn (N0.own (e := 160) (k := 4) (by (repeat constructor)) w' hw')) ?_
   rintro r _ rfl
   cases h2 : (j7 l key).isSome with
   | true =>
    refine A1W (e := 160) (k := 4) (v := r) (q := (A0b l key).length) (xs := (A0b l key).flatMap F2) (by (repeat constructor)) fun hr1 hr2 hr3 => ?_
    (have zz:=trivial;repeat((first|clear zz|with_reducible first|refine A3 ?_|refine A5 fun _=>?_|refine A4 fun _=>?_);try simp(disch:=first|omega|assumption|((repeat(first|exact A1|exact uH|apply A2|apply uT));first|done|fail)|(simp;first|done|omega|fail))[hr1]))
    refine C4 r (by simp [AnsV.val]) ?_
    try simp only [Y9]
    (repeat' constructor)
   | false =>
    have hdl : A0b l key = l := by
     cases h3 : j7 l key with
     | none => simp [A0b, h3]
     | some u => rw [h3] at h2; cases h2
    (have zz:=trivial;repeat((first|clear zz|with_reducible first|refine A3 ?_|refine A5 fun _=>?_|refine A4 fun _=>?_);try simp(disch:=first|omega|assumption|((repeat(first|exact A1|exact uH|apply A2|apply uT));first|done|fail)|(simp;first|done|omega|fail))[ht1]))
    refine C4 tv (by simp [AnsV.val]) ?_
    simp only [hdl]
    (repeat' constructor)
  | false =>
   (have zz:=trivial;repeat((first|clear zz|with_reducible first|refine A3 ?_|refine A5 fun _=>?_|refine A4 fun _=>?_);try simp(disch:=first|omega|assumption|((repeat(first|exact A1|exact uH|apply A2|apply uT));first|done|fail)|(simp;first|done|omega|fail))[]))
   refine M3 B1H (fun w' hw' => B3q w' tv l key (V9 l p key now) (IntKind.i64.wrap (now + idle)) hk hn (N0.own (e := 160) (k := 4) (by (repeat constructor)) w' hw')) ?_
   rintro r _ rfl
   cases h2 : G7 l (A8M l p key now idle) with
   | none =>
    have h2' : G7 l ⟨1, key, V9 l p key now, IntKind.i64.wrap (now + idle)⟩ = none := h2
    simp only [h2']
    (have zz:=trivial;repeat((first|clear zz|with_reducible first|refine A3 ?_|refine A5 fun _=>?_|refine A4 fun _=>?_);try simp(disch:=first|omega|assumption|((repeat(first|exact A1|exact uH|apply A2|apply uT));first|done|fail)|(simp;first|done|omega|fail))[ht1]))
    refine C4 tv (by simp [AnsV.val]) ?_
    try simp only [Y9]
    (repeat' constructor)
   | some u =>
    have h2' : G7 l ⟨1, key, V9 l p key now, IntKind.i64.wrap (now + idle)⟩ = some u := h2
    simp only [h2']
    simp only [Option.getD_some]
    refine A1W (e := 160) (k := 4) (v := r) (q := u.length) (xs := u.flatMap F2) (by (repeat constructor)) fun hr1 hr2 hr3 => ?_
    (have zz:=trivial;repeat((first|clear zz|with_reducible first|refine A3 ?_|refine A5 fun _=>?_|refine A4 fun _=>?_);try simp(disch:=first|omega|assumption|((repeat(first|exact A1|exact uH|apply A2|apply uT));first|done|fail)|(simp;first|done|omega|fail))[hr1]))
    refine C4 r (by simp [AnsV.val]) ?_
    try simp only [Y9]
    (repeat' constructor)
end Go.Proofs.YtpbmephflllolaaGreat
namespace Go.Proofs.YtpbmephflllolaaGreat
open Go
structure ShB where
 b : Nat
 lk : Int
 tv : Value
 l : List EnV
 nx : Nat
def G2 (t : ShB) : List Res := [Y9 t.b t.lk t.tv (t.nx : Nat), E8 t.tv t.l]
def E7 (z : Int) (t : ShB) : ShB := { t with lk := z }
def B9r (b : Nat) : Value := .pointer (some ⟨b, 0, none⟩)
def T9 (ts : List ShB) : List Value := ts.map fun t => B9r t.b
theorem B8m (ts : List ShB) : (T9 ts).length = ts.length := by simp [T9]
theorem A4U {ts : List ShB} {i : Nat} {t : ShB} (h : ts[i]? = some t) : (T9 ts)[i]? = some (.pointer (some ⟨t.b, 0, none⟩)) := by simp [T9, h, B9r]
def H5 (sv : Value) (ts : List ShB) : Res := .own 93 1 sv ts.length (T9 ts)
abbrev C6J (b : Nat) : Value := .func (.func 87) #[] #[.pointer (some ⟨b, 0, none⟩)]
theorem A6x (w : World) (sv : Value) (ts : List ShB) (hn : ts.length ≤ 1000) (hw : LW false (B3 [H5 sv ts, F5 G2 (ts.map (E7 0))]) w [H5 sv ts, F5 G2 (ts.map (E7 0))] w) :
  Fn PR B4 46 #[sv] w (Rn (B3 [H5 sv ts, F5 G2 (ts.map (E7 0))]) w (fun (bx : Nat) u => u = C6J bx) fun bx => [.pt bx (.cells #[sv] 86), H5 sv ts, F5 G2 (ts.map (E7 1))]) := by
 refine A6P (TW.goH (κ := false) ?_ hw)
 unfold A1b
 generalize B3 [H5 sv ts, F5 G2 (ts.map (E7 0))] = S at *
 simp only [H5]
 refine d9 (e := 93) (k := 1) (v := sv) (q := ts.length) (xs := T9 ts) (by (repeat constructor)) ?_
 rintro sa sc rfl
 (have zz:=trivial;repeat((first|clear zz|with_reducible first|refine A3 ?_|refine A5 fun _=>?_|refine A4 fun _=>?_);try simp(disch:=first|omega|assumption|((repeat(first|exact A1|exact uH|apply A2|apply uT));first|done|fail)|(simp;first|done|omega|fail))[]))
 rename_i bx
 rw [← C0B (E7 1) (E7 0) ts]
 refine C1w ts.length (fun i => [.pt bx (.cells #[.slice sa ts.length sc] 86), H5 (.slice sa ts.length sc) ts, F5 G2 (u5 (E7 1) (E7 0) i ts)]) ?_
 intro i hi L hL
 simp only [H5]
 by_cases hlt : i < ts.length
 ·have hx := List.getElem?_eq_getElem hlt
  have hp := A4U hx
  have hm := B4e (f := E7 1) (g := E7 0) hx
  have hms := B4a (f := E7 1) (g := E7 0) hx
  have hml := A9z (E7 1) (E7 0) i ts
  generalize ts[i] = t at *
  refine A0Q (e := 93) (k := 1) (v := .slice sa ts.length sc) (q := ts.length) (xs := T9 ts) (by (repeat constructor)) (by omega) ?_
  rintro g gc hg
  cases hg
  (have zz:=trivial;repeat((first|clear zz|with_reducible first|refine A3 ?_|refine A5 fun _=>?_|refine A4 fun _=>?_);try simp(disch:=first|omega|assumption|((repeat(first|exact A1|exact uH|apply A2|apply uT));first|done|fail)|(simp;first|done|omega|fail))[hlt, hp]))
  refine A4W (f := G2) (i := i) (by (repeat' constructor)) hm ?_
  simp only [G2, E7, Y9, List.cons_append, List.nil_append]
  refine D4 (Hc := [.pt t.b (.cells #[.int .i32 0, .int .u32 0, t.tv, .int .i64 (t.nx : Nat)] 103 (0, 0))]) A5z (fun w' _ hs => C0d w' t.b _ _ _ _ hs) (by (repeat' constructor)) ?_
  rintro _ _ rfl
  refine A6a (f := G2) (y := E7 1 t) (ls := u5 (E7 1) (E7 0) i ts) (i := i) (by simp only [G2, E7, Y9, List.cons_append, List.nil_append]; (repeat' constructor)) (by omega) ?_
  rw [hms]
  (have zz:=trivial;repeat((first|clear zz|with_reducible first|refine A3 ?_|refine A5 fun _=>?_|refine A4 fun _=>?_);try simp(disch:=first|omega|assumption|((repeat(first|exact A1|exact uH|apply A2|apply uT));first|done|fail)|(simp;first|done|omega|fail))[]))
  refine Sels.tw ?_ (hL hlt)
  try simp only [H5]
  (repeat' constructor)
 ·obtain rfl : i = ts.length := by omega
  rw [B95]
  (have zz:=trivial;repeat((first|clear zz|with_reducible first|refine A3 ?_|refine A5 fun _=>?_|refine A4 fun _=>?_);try simp(disch:=first|omega|assumption|((repeat(first|exact A1|exact uH|apply A2|apply uT));first|done|fail)|(simp;first|done|omega|fail))[]))
  refine C4 bx rfl ?_
  try simp only [H5]
  (repeat' constructor)
abbrev C0F (b : Nat) : Value := .func (.func 136) #[] #[.pointer (some ⟨b, 0, none⟩)]
def A5F (bs : List Value) : List (List Value) := (List.range bs.length).map fun j => [.int .i64 ((bs.length - 1 - j : Nat) : Int), bs.getD (bs.length - 1 - j) (.tuple #[])]
theorem A1j (bs : List Value) : (A5F bs).length = bs.length := by simp [A5F]
theorem B2G {bs : List Value} {m : Nat} {v : Value} (h : bs[m]? = some v) (hi : bs.length - (m + 1) < (A5F bs).length) : (A5F bs)[bs.length - (m + 1)] = [.int .i64 (m : Int), v] := by
 obtain ⟨hm, rfl⟩ := List.getElem?_eq_some_iff.1 h
 simp only [A5F, List.getElem_map, List.getElem_range]
 rw [show bs.length - 1 - (bs.length - (m + 1)) = m by omega]
 simp [List.getD_eq_getElem?_getD, List.getElem?_eq_getElem hm]
theorem B4B (w : World) (v : Value) (hv : ∃ a n c, v = .slice a n c) : Fn PR B4 88 #[v] w (Rn [] w (fun b u => u = C0F b) fun b => [.pt b (.cells #[v] 86)]) := by
 obtain ⟨a, n, c, rfl⟩ := hv
 refine V0 (TW.go (κ := false) (S := []) ?_)
 unfold L5
 (have zz:=trivial;repeat((first|clear zz|with_reducible first|refine A3 ?_|refine A5 fun _=>?_|refine A4 fun _=>?_);try simp(disch:=first|omega|assumption|((repeat(first|exact A1|exact uH|apply A2|apply uT));first|done|fail)|(simp;first|done|omega|fail))[]))
 rename_i b
 exact V7 b rfl (by simp)
theorem C1T (b : Nat) (v : Value) (bs : List Value) (hn : bs.length ≤ 1000) : A1F (C0F b) [.pt b (.cells #[v] 86)] (RqS v bs.length bs) (A5F bs) := by
 refine ⟨_, _, _, rfl, fun y J E hJ hE stJ stE hy w0 h0 => ?_⟩
 obtain ⟨a, c, hv, hr⟩ := (hJ _ _ _ h0).2
 subst hv
 refine T4 (T8 (TW.at (κ := true) ?_ (hJ _ _ _ h0).1))
 unfold H7
 (have zz:=trivial;repeat((first|clear zz|with_reducible first|refine A3 ?_|refine A5 fun _=>?_|refine A4 fun _=>?_);try simp(disch:=first|omega|assumption|((repeat(first|exact A1|exact uH|apply A2|apply uT));first|done|fail)|(simp;first|done|omega|fail))[]))
 refine B6B (α := Nat) (fun m => bs.length - m) (fun _ => _) (· ≤ bs.length) (fun m => m) (fun m => .int .i64 ((m : Int) - 1)) bs.length hJ stJ (by simpa using h0) (Nat.le_refl _) fun m a' hm hJm hRm L hL => ?_
 cases m with
 | zero =>
  (have zz:=trivial;repeat((first|clear zz|with_reducible first|refine A3 ?_|refine A5 fun _=>?_|refine A4 fun _=>?_);try simp(disch:=first|omega|assumption|((repeat(first|exact A1|exact uH|apply A2|apply uT));first|done|fail)|(simp;first|done|omega|fail))[]))
  exact A0L stJ (by rw [A1j]; simpa using hJm)
 | succ m =>
  obtain ⟨_, _, hv, hr⟩ := hRm
  obtain ⟨b', o, hb, hrow, hnb⟩ := hr (by omega)
  cases hv
  subst hb
  have hlt : m < bs.length := by omega
  have hx := List.getElem?_eq_getElem hlt
  have h1 := hrow.get hx
  have hat := fun hi => B2G hx hi
  generalize bs[m] = x at *
  have e : (((m + 1 : Nat) : Int) - 1) = (m : Int) := by omega
  rw [e]
  have hlen : bs.length - m = bs.length - (m + 1) + 1 := by omega
  have hL' := hL m
  simp only [hlen] at hL'
  (have zz:=trivial;repeat((first|clear zz|with_reducible first|refine A3 ?_|refine A5 fun _=>?_|refine A4 fun _=>?_);try simp(disch:=first|omega|assumption|((repeat(first|exact A1|exact uH|apply A2|apply uT));first|done|fail)|(simp;first|done|omega|fail))[hlt, h1]))
  refine A2J hJ hE stJ hy hJm (by rw [A1j]; omega) (hat _) (fun w3 h => ?_) (fun w3 h => ?_)
  ·(have zz:=trivial;repeat((first|clear zz|with_reducible first|refine A3 ?_|refine A5 fun _=>?_|refine A4 fun _=>?_);try simp(disch:=first|omega|assumption|((repeat(first|exact A1|exact uH|apply A2|apply uT));first|done|fail)|(simp;first|done|omega|fail))[]))
   exact fun w' hw' => hL' w' (by omega) (by omega) (stJ _ _ _ _ _ h (hw'.sub (by simp)))
  ·(have zz:=trivial;repeat((first|clear zz|with_reducible first|refine A3 ?_|refine A5 fun _=>?_|refine A4 fun _=>?_);try simp(disch:=first|omega|assumption|((repeat(first|exact A1|exact uH|apply A2|apply uT));first|done|fail)|(simp;first|done|omega|fail))[]))
   exact A0H stE h
theorem RqS.own {e : TypeId} {v : Value} {n : Nat} {xs : List Value} {S : List Nat} {w0 w : World} {A F : List Res} (hm : Res.own e 1 v n xs ∈ A) (hw : LW false S w0 (A ++ F) w) : RqS v n xs F w := by
 have ho : M4 w e 1 v n xs := hw.hold _ (List.mem_append_left _ hm)
 obtain ⟨a, c, rfl, hr⟩ := (M4.rd ho).form
 refine ⟨a, c, rfl, fun hn => ?_⟩
 obtain ⟨b, o, rfl, hrow⟩ := hr hn
 exact ⟨b, o, rfl, hrow, hw.notin hm (by simp [Res.foot, G0])⟩
theorem A57 (w : World) (bx : Nat) (sv : Value) (ts : List ShB) (hn : ts.length ≤ 1000) (hw : LW false (B3 [.pt bx (.cells #[sv] 86), H5 sv ts, F5 G2 (ts.map (E7 1))]) w [.pt bx (.cells #[sv] 86), H5 sv ts, F5 G2 (ts.map (E7 1))] w) :
  FnD PR B4 87 #[.pointer (some ⟨bx, 0, none⟩)] w (Rn (B3 [.pt bx (.cells #[sv] 86), H5 sv ts, F5 G2 (ts.map (E7 1))]) w (fun (_ : Unit) u => u = .tuple #[]) fun _ => [.pt bx (.cells #[sv] 86), H5 sv ts, F5 G2 (ts.map (E7 0))]) := by
 refine B62 (args := [.pointer (some ⟨bx, 0, none⟩)]) mixed Tryz.func87 ?_
 rw [A2f]
 refine TW.goH (κ := false) ?_ hw
 unfold y4
 generalize B3 [.pt bx (.cells #[sv] 86), H5 sv ts, F5 G2 (ts.map (E7 1))] = S at *
 simp only [H5]
 refine d9 (e := 93) (k := 1) (v := sv) (q := ts.length) (xs := T9 ts) (by (repeat constructor)) ?_
 rintro sa sc rfl
 (have zz:=trivial;repeat((first|clear zz|with_reducible first|refine A3 ?_|refine A5 fun _=>?_|refine A4 fun _=>?_);try simp(disch:=first|omega|assumption|((repeat(first|exact A1|exact uH|apply A2|apply uT));first|done|fail)|(simp;first|done|omega|fail))[]))
 refine M3 U9 (fun w' _ => B4B w' (.slice sa ts.length sc) ⟨_, _, _, rfl⟩) ?_
 rintro b _ rfl
 rw [← B95 (E7 1) (E7 0) ts]
 have hpl := B8m ts
 refine TW.eqH (H' := [.pt b (.cells #[.slice sa ts.length sc] 86)] ++ [.pt bx (.cells #[.slice sa ts.length sc] 86), H5 (.slice sa ts.length sc) ts, F5 G2 (u5 (E7 1) (E7 0) (ts.length - 0) ts)]) (by simp [H5]) ?_
 have hit := C1T b (.slice sa ts.length sc) (T9 ts) (by omega)
 rw [hpl] at hit
 refine v6 hit (by simp [A5F]) (fun i (_ : Unit) => i ≤ ts.length) (fun i _ => [.pt bx (.cells #[.slice sa ts.length sc] 86), H5 (.slice sa ts.length sc) ts, F5 G2 (u5 (E7 1) (E7 0) (ts.length - i) ts)])
  (fun c (y : Unit) => False) (fun y => []) () (Nat.zero_le _) ?_ ?_ ?_ ?_ (by rfl)
 ·intro i _ F w1 _ hw1
  exact RqS.own (e := 93) (by simp only [H5]; (repeat constructor)) hw1
 ·rintro i hi _ F _ K' hK _
  have hi' : i < ts.length := by rw [A1j, hpl] at hi; exact hi
  obtain ⟨m, hm⟩ : ∃ m, ts.length - i = m + 1 := ⟨ts.length - i - 1, by omega⟩
  have hmlt : m < ts.length := by omega
  have hx := List.getElem?_eq_getElem hmlt
  have hp := A4U hx
  have hg := B3Y (f := E7 1) (g := E7 0) hx
  have hms := B9j (f := E7 1) (g := E7 0) hx
  have hml := A9z (E7 1) (E7 0) (m + 1) ts
  have hat := B2G hp (by rw [A1j, hpl]; omega)
  have hidx : (T9 ts).length - (m + 1) = i := by omega
  simp only [hidx] at hat
  rw [hat]
  have hK' := hK () (by omega)
  rw [show ts.length - (i + 1) = m by omega] at hK'
  rw [hm]
  generalize ts[m] = t at *
  simp only [VF.app, List.cons_append, List.nil_append]
  (have zz:=trivial;repeat((first|clear zz|with_reducible first|refine A3 ?_|refine A5 fun _=>?_|refine A4 fun _=>?_);try simp(disch:=first|omega|assumption|((repeat(first|exact A1|exact uH|apply A2|apply uT));first|done|fail)|(simp;first|done|omega|fail))[]))
  refine A4W (f := G2) (i := m) (ls := u5 (E7 1) (E7 0) (m + 1) ts) (by (repeat' constructor)) hg ?_
  simp only [G2, E7, Y9, List.cons_append, List.nil_append]
  refine D4 (Hc := [.pt t.b (.cells #[.int .i32 1, .int .u32 0, t.tv, .int .i64 (t.nx : Nat)] 103 (0, 0))]) A4m (fun w' _ hs => B7w w' t.b _ _ _ _ hs) (by (repeat' constructor)) ?_
  rintro _ _ rfl
  refine A6a (f := G2) (y := E7 0 t) (ls := u5 (E7 1) (E7 0) (m + 1) ts) (i := m) (by simp only [G2, E7, Y9, List.cons_append, List.nil_append]; (repeat' constructor)) (by omega) ?_
  rw [hms]
  exact TW.perm hK' ((List.Perm.swap ..).trans (List.Perm.cons _ (List.Perm.swap ..)))
 ·rintro _ _
  rw [A1j, hpl, Nat.sub_self, C0B]
  (have zz:=trivial;repeat((first|clear zz|with_reducible first|refine A3 ?_|refine A5 fun _=>?_|refine A4 fun _=>?_);try simp(disch:=first|omega|assumption|((repeat(first|exact A1|exact uH|apply A2|apply uT));first|done|fail)|(simp;first|done|omega|fail))[]))
  refine C4 () rfl ?_
  try simp only [H5]
  (repeat' constructor)
 ·rintro _ _ h; exact h.elim
theorem FnD.use {P : Program} {X : Nat → Prop} {f : FuncId} {args : Array Value} {w : World} {R K : Value → WP} (h : FnD P B4 f args w R) (hk : ∀ v w', R v w' → Sk B4 w w' → K v w') : FnD P X f args w K :=
 CallsD.mono h fun _ _ w' ⟨v, he, hu, hr, hs⟩ => ⟨v, he, hu, hk v w' hr hs, hs.mono fun _ h => h.elim⟩
theorem B6H {κ : Bool} {X : Nat → Prop} {S : List Nat} {w0 : World} {H Hk Hc : List Res} {A : WP} {f : FuncId} {first cap : Array Value} {α : Type} {φ : α → Value → Prop} {Hn : α → List Res} (he : A9 PR f)
  (hf : ∀ w, LW κ S w0 H w → LW false (B3 Hc) w Hc w → FnD PR B4 f (first.toList ++ cap.toList).toArray w (Rn (B3 Hc) w φ Hn)) (hp : Part Hc H Hk) (hK : ∀ a v, φ a v → TW κ S w0 (Hn a ++ Hk) A) : TW κ S w0 H (dfr PR X (.func (.func f) first cap) A) := fun w hw =>
 ⟨he, (hf w hw ((hw.perm hp.perm).sub (List.sublist_append_left _ _)).self).use fun v w' ⟨a, h1, h2⟩ hsk => hK a v h1 w' ((hw.perm hp.perm).part (h2.high fun _ => hsk))⟩
theorem B5x {κ : Bool} {S : List Nat} {w0 : World} {H : List Res} {A : WP} {f : FuncId} {first cap : Array Value} (h : TW κ S w0 H A) : TW κ S w0 H (isf (.func (.func f) first cap) A) := fun w hw => ⟨⟨_, _, _, rfl⟩, h w hw⟩
end Go.Proofs.YtpbmephflllolaaGreat
namespace Go.Proofs.YtpbmephflllolaaGreat
open Go
structure BaH where
 b : Nat
 k : Nat
 pv : Value
 rv : Value
 sv : Value
 c : CfgV
 pool : List D7
 ts : List ShB
def BaH.st (m : BaH) : MoS := ⟨m.c, m.pool, m.ts.map fun t => (t.l, t.nx)⟩
def L7 (b k : Nat) (c : CfgV) (sv : Value) : Res := .pt b (.cells #[.int .i64 c.wk, .int .i64 c.sh, .int .i64 c.cp, .int .i64 c.idle, .int .i64 c.sl, .pointer (some ⟨k, 0, none⟩), sv] 88 (0, 0))
def A45 (k : Nat) (pv rv : Value) (p : List D7) : List Res := [.pt k (.cells #[pv, rv] 92 (0, 0)), .own 75 2 pv p.length (p.flatMap D5), .own 217 2 rv (F7 (E3 p)).length ((F7 (E3 p)).flatMap F1)]
def B6 (m : BaH) : List Res := [L7 m.b m.k m.c m.sv, .pt m.k (.cells #[m.pv, m.rv] 92 (0, 0)), .own 75 2 m.pv m.pool.length (m.pool.flatMap D5), .own 217 2 m.rv (F7 (E3 m.pool)).length ((F7 (E3 m.pool)).flatMap F1), H5 m.sv m.ts, F5 G2 (m.ts.map (E7 0))]
abbrev BDo (w : World) (m : BaH) (r : MoS × AnsV) : Value → WP := Rn (B3 (B6 m)) w (fun (m' : BaH) u => u = r.2.val ∧ m'.b = m.b ∧ m'.st = r.1) B6
section
variable {κ : Bool} {S : List Nat} {w0 w : World} {H Hk Hc : List Res} {K : Value → WP}
theorem B9c {k : Nat} {pv rv : Value} {p : List D7} (hw : LW κ S w0 H w) (hp : Part (Hc ++ A45 k pv rv p) H Hk) (hl : p.length ≤ 1000) : ∀ w', KS false (B3 Hc) w w' → BakAt w' k pv rv p := fun w' hk => by
 have h1 := hw.perm hp.perm
 rw [List.append_assoc] at h1
 have hd := (List.pairwise_append.1 h1.dis).2.2
 have st : ∀ r ∈ A45 k pv rv p, r.holds w' := fun r hr =>
  Res.stable (fun b hb o ho e => hk.2.1 b o (fun hf => by
   obtain ⟨s, hs, hbs⟩ := M8.1 hf
   exact hd s hs r (List.mem_append_left _ hr) b hbs hb) ho e) (h1.hold r (List.mem_append_right _ (List.mem_append_left _ hr)))
 exact ⟨(st _ (List.mem_cons_self ..)).1, M4.rd (st (.own 75 2 pv p.length (p.flatMap D5)) (by simp [A45])), M4.rd (st (.own 217 2 rv (F7 (E3 p)).length ((F7 (E3 p)).flatMap F1)) (by simp [A45])), hl⟩
end
theorem C0P {X : Nat → Prop} {κ : Bool} {S : List Nat} {w0 : World} {H Hk : List Res} {K : Value → WP} {b k k' : Nat} {c : CfgV} {sv : Value} {d : Array Value} {T2 : TypeId} (hp : Part [L7 b k c sv, .pt k' (.cells d T2 (0, 0))] H Hk) (hd : 0 < d.size)
  (hK : TW κ S w0 (L7 b k' c sv :: .pt k' (.cells d T2 (0, 0)) :: Hk) (K (.tuple #[]))) : TW κ S w0 H (B2 PR X 36 [.pointer (some ⟨b, 5, none⟩), .pointer (some ⟨k', 0, none⟩)] K) := by
 refine TW.perm ?_ hp.perm
 refine D4 (Hc := [L7 b k c sv]) (Hk := .pt k' (.cells d T2 (0, 0)) :: Hk) L6 (fun w' hw' hs => B0v w' b k' _ _ _ _ _ _ _ _ d T2 hd hs (hw'.hold (.pt k' (.cells d T2 (0, 0))) (by simp)).1 (fun e => ?_)) (Part.cons Sel.here Part.nil) ?_
 ·have := (List.pairwise_cons.1 hw'.dis).1 (.pt k' (.cells d T2 (0, 0))) (by simp) b (by simp [L7, Res.foot])
  exact this (by simp [Res.foot, e])
 ·rintro _ _ rfl
  exact hK
theorem B9E (w : World) (m : BaH) (hl : m.pool.length ≤ 1000) (hw : LW false (B3 (B6 m)) w (B6 m) w) :
  Fn PR B4 19 #[.pointer (some ⟨m.b, 0, none⟩)] w (Rn (B3 (B6 m)) w (fun r u => u = r) fun r => .own 75 2 r m.pool.length (m.pool.flatMap D5) :: B6 m) := by
 refine A2L (TW.goH (κ := false) ?_ hw)
 unfold l9
 generalize B3 (B6 m) = S at *
 simp only [B6, L7]
 (have zz:=trivial;repeat((first|clear zz|with_reducible first|refine A3 ?_|refine A5 fun _=>?_|refine A4 fun _=>?_);try simp(disch:=first|omega|assumption|((repeat(first|exact A1|exact uH|apply A2|apply uT));first|done|fail)|(simp;first|done|omega|fail))[]))
 refine D2 M0 (fun w' hw' => B3a w' m.b m.k _ _ _ (hw'.pt (by (repeat constructor))) rfl (hw'.pt (o := .cells #[m.pv, m.rv] 92 (0, 0)) (by (repeat constructor))) rfl) ?_
 refine d9 (e := 75) (k := 2) (v := m.pv) (q := m.pool.length) (xs := m.pool.flatMap D5) (by (repeat constructor)) ?_
 intro pa pc hpv
 rw [hpv]
 (have zz:=trivial;repeat((first|clear zz|with_reducible first|refine A3 ?_|refine A5 fun _=>?_|refine A4 fun _=>?_);try simp(disch:=first|omega|assumption|((repeat(first|exact A1|exact uH|apply A2|apply uT));first|done|fail)|(simp;first|done|omega|fail))[]))
 refine M3 P2 (fun w' hw' => B06 w' (.slice pa m.pool.length pc) m.pool.length (m.pool.flatMap D5) (by omega) (H9 (k := 2) (fun _ => rfl) _) (A9C _) (N0.own (e := 75) (k := 2) (by (repeat constructor)) w' hw')) ?_
 rintro _ r rfl
 refine C4 r rfl ?_
 try simp only [B6, L7, hpv]
 (repeat' constructor)
structure PoolBt (w : World) (m : BaH) (v : Value) (p : List D7) : Prop where
 rd : F3 w v p.length (p.flatMap D5)
 off : 0 < p.length → ∀ g ∈ G0 v, g ∉ B3 (B6 m)
 len : p.length ≤ 1000
 form : v.cells = #[v] ∧ plain v = true
theorem PoolBt.at {w w' : World} {m : BaH} {v : Value} {p : List D7} {κ : Bool} (h : PoolBt w m v p) (hk : KS κ (B3 (B6 m)) w w') : F3 w' v p.length (p.flatMap D5) :=
 h.rd.ks0 (fun e => by rw [List.length_eq_zero_iff.1 e]; rfl) hk h.off
theorem A8j (w : World) (m : BaH) (p : List D7) (v : Value) (hv : PoolBt w m v p) (hw : LW false (B3 (B6 m)) w (B6 m) w) :
  Fn PR B4 26 #[.pointer (some ⟨m.b, 0, none⟩), v] w (BDo w m (W5 m.st p)) := by
 refine A1V (TW.goH (κ := false) ?_ hw)
 unfold j2
 obtain ⟨a, c, hvf, _⟩ := hv.rd.form
 have hv2 := hv
 subst hvf
 have hlen := hv.len
 unfold BDo
 generalize hS : B3 (B6 m) = S at *
 simp only [B6, L7]
 (have zz:=trivial;repeat((first|clear zz|with_reducible first|refine A3 ?_|refine A5 fun _=>?_|refine A4 fun _=>?_);try simp(disch:=first|omega|assumption|((repeat(first|exact A1|exact uH|apply A2|apply uT));first|done|fail)|(simp;first|done|omega|fail))[]))
 refine D2 A4c (fun w' hw' => A61 w' (.slice a p.length c) p (by omega) (hv.at (by rw [hS]; exact hw'.ks))) ?_
 by_cases c1 : P0 p = 0
 ·have e : W5 m.st p = ({ m.st with pool := p }, ⟨0, 0, false, 0⟩) := if_pos c1
  rw [e]
  (have zz:=trivial;repeat((first|clear zz|with_reducible first|refine A3 ?_|refine A5 fun _=>?_|refine A4 fun _=>?_);try simp(disch:=first|omega|assumption|((repeat(first|exact A1|exact uH|apply A2|apply uT));first|done|fail)|(simp;first|done|omega|fail))[c1]))
  refine M3 P2 (fun w' hw' => B06 w' (.slice a p.length c) p.length (p.flatMap D5) (by omega) (H9 (k := 2) (fun _ => rfl) _) (A9C _) (hv.at (by rw [hS]; exact hw'.ks))) ?_
  rintro _ r rfl
  refine d9 (e := 75) (k := 2) (v := r) (q := p.length) (xs := p.flatMap D5) (by (repeat constructor)) ?_
  rintro ra rc rfl
  (have zz:=trivial;repeat((first|clear zz|with_reducible first|refine A3 ?_|refine A5 fun _=>?_|refine A4 fun _=>?_);try simp(disch:=first|omega|assumption|((repeat(first|exact A1|exact uH|apply A2|apply uT));first|done|fail)|(simp;first|done|omega|fail))[]))
  refine M3 B1k (fun w' hw' => C4N w' (.slice a p.length c) p hlen (hv.at (by rw [hS]; exact hw'.ks))) ?_
  rintro _ r rfl
  refine d9 (e := 217) (k := 2) (v := r) (q := (F7 (E3 p)).length) (xs := (F7 (E3 p)).flatMap F1) (by (repeat constructor)) ?_
  rintro qa qc rfl
  (have zz:=trivial;repeat((first|clear zz|with_reducible first|refine A3 ?_|refine A5 fun _=>?_|refine A4 fun _=>?_);try simp(disch:=first|omega|assumption|((repeat(first|exact A1|exact uH|apply A2|apply uT));first|done|fail)|(simp;first|done|omega|fail))[]))
  rename_i bk
  refine C0P (b := m.b) (k := m.k) (c := m.c) (sv := m.sv) (d := #[.slice ra p.length rc, .slice qa (F7 (E3 p)).length qc]) (T2 := 92) (by simp only [L7]; (repeat' constructor)) (by simp) ?_
  simp only [L7]
  (have zz:=trivial;repeat((first|clear zz|with_reducible first|refine A3 ?_|refine A5 fun _=>?_|refine A4 fun _=>?_);try simp(disch:=first|omega|assumption|((repeat(first|exact A1|exact uH|apply A2|apply uT));first|done|fail)|(simp;first|done|omega|fail))[]))
  refine C4 { m with k := bk, pv := .slice ra p.length rc, rv := .slice qa (F7 (E3 p)).length qc, pool := p } ⟨by simp [AnsV.val], rfl, rfl⟩ ?_
  try simp only [B6, L7]
  (repeat' constructor)
 ·have e : W5 m.st p = (m.st, ⟨P0 p, 0, false, 0⟩) := if_neg c1
  rw [e]
  (have zz:=trivial;repeat((first|clear zz|with_reducible first|refine A3 ?_|refine A5 fun _=>?_|refine A4 fun _=>?_);try simp(disch:=first|omega|assumption|((repeat(first|exact A1|exact uH|apply A2|apply uT));first|done|fail)|(simp;first|done|omega|fail))[c1]))
  refine C4 m ⟨by simp [AnsV.val], rfl, rfl⟩ ?_
  try simp only [B6, L7]
  (repeat' constructor)
end Go.Proofs.YtpbmephflllolaaGreat
namespace Go.Proofs.YtpbmephflllolaaGreat
open Go
theorem B26 {ts : List ShB} {i : Nat} {t u : ShB} (h : ts[i]? = some t) (hb : u.b = t.b) : T9 (ts.set i u) = T9 ts := by
 obtain ⟨hi, rfl⟩ := List.getElem?_eq_some_iff.1 h
 simp only [T9, List.map_set, hb]
 apply List.ext_getElem?
 intro j
 by_cases hj : i = j
 ·subst hj; simp [hi]
 ·rw [List.getElem?_set_ne hj]
theorem C0E {ts : List ShB} {i : Nat} {t : ShB} (h : ts[i]? = some t) : (ts.map (E7 0))[i]? = some (E7 0 t) := by simp [h]
theorem A63 (v : Value) (t : ShB) : H5 v [t] = .own 93 1 v 1 [.pointer (some ⟨t.b, 0, none⟩)] := rfl
structure BaOk (c : CfgV) (m : BaH) : Prop where
 few : m.ts.length ≤ 16
 pos : 0 < m.ts.length
 sh : m.c.sh = m.ts.length
 cfg : m.c = c
 len : ∀ t ∈ m.ts, t.l.length ≤ 64
 keys : ∀ t ∈ m.ts, K9 t.l
 pool : m.pool.length ≤ 1000
theorem BaOk.of {c : CfgV} {m : BaH} (h : Inv c m.st) : BaOk c m := by
 have hb := A0Z h.ok
 have hl : m.st.tabs.length = m.ts.length := by simp [BaH.st]
 have hsh := h.sh
 have hc : m.c = c := h.cfg
 have e : (MoH.mk 0 .nilIface .nilIface m.c m.pool (m.ts.map fun t : ShB => ((.nilIface, t.l), t.nx))).st = m.st := by simp [MoH.st, BaH.st]
 have h2 : Inv c (MoH.mk 0 .nilIface .nilIface m.c m.pool (m.ts.map fun t : ShB => ((.nilIface, t.l), t.nx))).st := by rw [e]; exact h
 have hp : m.pool.length ≤ 1000 := h2.ok2.pool
 refine ⟨by omega, by omega, by rw [hc]; omega, hc, fun t ht => ?_, fun t ht => ?_, hp⟩
 ·have := h.tab (t.l, t.nx) (List.mem_map.2 ⟨t, ht, rfl⟩); have h1 := this.len; have h2 := this.few; simp only at h1; omega
 ·exact (h.tab (t.l, t.nx) (List.mem_map.2 ⟨t, ht, rfl⟩)).keys
theorem B9V {X : Nat → Prop} {S : List Nat} {w0 : World} {H Hk : List Res} {K : Value → WP} {b k : Nat} {lk nx : Int} {tv pv rv : Value} {l : List EnV} {p : List D7} {key : ByteArray} {cl : Bool} {now idle : Int} (hk : key.size < 2 ^ 60) (hks : K9 l) (hn : l.length ≤ 1000000) (hl : p.length ≤ 1000)
  (hp : Part ([Y9 b lk tv nx, E8 tv l] ++ A45 k pv rv p) H Hk) (hK : ∀ r, TW false S w0 ([Y9 b lk r nx, E8 r (F8 l p key cl now idle).1] ++ (A45 k pv rv p ++ Hk)) (K (F8 l p key cl now idle).2.1.val)) :
  TW false S w0 H (B2 PR X 58 [.pointer (some ⟨b, 0, none⟩), .pointer (some ⟨k, 0, none⟩), .string key, .bool cl, .int .i64 now, .int .i64 idle] K) := by
 refine TW.perm (H' := [Y9 b lk tv nx, E8 tv l] ++ (A45 k pv rv p ++ Hk)) ?_ (by rw [← List.append_assoc]; exact hp.perm)
 refine D4 (Hc := [Y9 b lk tv nx, E8 tv l]) A2A (fun w' hw' hs => B5G w' b k lk nx tv pv rv l p key cl now idle hk hks hn
  (B9c (Hc := [Y9 b lk tv nx, E8 tv l]) (Hk := Hk) hw' (by rw [← List.append_assoc]; exact a6) hl) hs) a6 ?_
 rintro r _ rfl
 exact hK r
set_option maxHeartbeats 1000000 in
theorem A6g (w : World) (m : BaH) (pk : ByteArray) (now : Int) (c : CfgV) (hpk : pk.size < 2 ^ 40) (hm : BaOk c m) (hw : LW false (B3 (B6 m)) w (B6 m) w) :
  Fn PR B4 24 #[.pointer (some ⟨m.b, 0, none⟩), .string pk, .int .i64 now] w (BDo w m (m0 m.st pk now)) := by
 refine A0k (TW.goH (κ := false) ?_ hw)
 unfold P8
 unfold BDo
 have hlen := hm.few
 generalize hS : B3 (B6 m) = S at *
 simp only [B6, L7, H5]
 refine d9 (e := 93) (k := 1) (v := m.sv) (q := m.ts.length) (xs := T9 m.ts) (by (repeat constructor)) ?_
 intro sa sc hsv
 rw [hsv]
 (have zz:=trivial;repeat((first|clear zz|with_reducible first|refine A3 ?_|refine A5 fun _=>?_|refine A4 fun _=>?_);try simp(disch:=first|omega|assumption|((repeat(first|exact A1|exact uH|apply A2|apply uT));first|done|fail)|(simp;first|done|omega|fail))[]))
 refine D2 A8G (fun w' hw' => A93 w' pk hpk) ?_
 by_cases c1 : (G1 pk).2.2 = 0
 case neg =>
  have e : m0 m.st pk now = (m.st, ⟨9, 0, false, 0⟩) := by unfold m0; simp only; rw [if_pos c1]
  rw [e]
  (have zz:=trivial;repeat((first|clear zz|with_reducible first|refine A3 ?_|refine A5 fun _=>?_|refine A4 fun _=>?_);try simp(disch:=first|omega|assumption|((repeat(first|exact A1|exact uH|apply A2|apply uT));first|done|fail)|(simp;first|done|omega|fail))[packet.val, U7, c1]))
  refine C4 m ⟨by simp [AnsV.val], rfl, rfl⟩ ?_
  try simp only [B6, L7, H5, hsv]
  (repeat' constructor)
 have hk := B0z (G1 pk).1
 (have zz:=trivial;repeat((first|clear zz|with_reducible first|refine A3 ?_|refine A5 fun _=>?_|refine A4 fun _=>?_);try simp(disch:=first|omega|assumption|((repeat(first|exact A1|exact uH|apply A2|apply uT));first|done|fail)|(simp;first|done|omega|fail))[packet.val, U7, c1]))
 refine D2 (u := A4M (G1 pk).1) A8b (fun w' hw' => B9K w' (G1 pk).1) ?_
 (have zz:=trivial;repeat((first|clear zz|with_reducible first|refine A3 ?_|refine A5 fun _=>?_|refine A4 fun _=>?_);try simp(disch:=first|omega|assumption|((repeat(first|exact A1|exact uH|apply A2|apply uT));first|done|fail)|(simp;first|done|omega|fail))[A4M]))
 rename_i b4 b6
 have hsh := hm.sh
 have hpos := hm.pos
 rw [show (if Y0 (G1 pk).1 = true then A24 (G1 pk).1 else P5) = x6 (G1 pk).1 from rfl]
 generalize hkey : x6 (G1 pk).1 = key at *
 have e : m0 m.st pk now = ({ m.st with tabs := m.st.tabs.set (Q1 key m.c.sh) ((F8 (m.st.tabs.getD (Q1 key m.c.sh) ([], 0)).1 m.pool key (j9 (G1 pk).1 (G1 pk).2.1) now m.c.idle).1, (m.st.tabs.getD (Q1 key m.c.sh) ([], 0)).2) },
   (F8 (m.st.tabs.getD (Q1 key m.c.sh) ([], 0)).1 m.pool key (j9 (G1 pk).1 (G1 pk).2.1) now m.c.idle).2.1) := by
  unfold m0; simp only; rw [if_neg (by rw [c1]; simp), hkey]; rfl
 rw [e]
 refine D2 A9E (fun w' hw' => B9m w' key (m.ts.length : Nat) hk (by omega)) ?_
 rw [← hsh]
 have hlt : Q1 key m.c.sh < m.ts.length := by
  unfold Q1; rw [if_neg (by omega), hsh, Int.toNat_natCast]; exact Nat.mod_lt _ hpos
 generalize Q1 key m.c.sh = i at *
 obtain ⟨t, hx⟩ : ∃ x, m.ts[i]? = some x := ⟨_, List.getElem?_eq_getElem hlt⟩
 have hxm := List.mem_of_getElem? hx
 have hgd : m.st.tabs.getD i ([], 0) = (t.l, t.nx) := by simp [BaH.st, List.getD_eq_getElem?_getD, hx]
 rw [hgd]
 simp only
 have hp := A4U hx
 refine A0Q (e := 93) (k := 1) (v := .slice sa m.ts.length sc) (q := m.ts.length) (xs := T9 m.ts) (by (repeat constructor)) (by omega) ?_
 rintro g gc hg
 cases hg
 (have zz:=trivial;repeat((first|clear zz|with_reducible first|refine A3 ?_|refine A5 fun _=>?_|refine A4 fun _=>?_|refine D0 fun _=>?_|refine C9 (hK:=fun _=>?_)|refine C6 (hK:=fun _=>?_)|refine C8 (hK:=fun _=>?_)|refine C7 (hK:=fun _=>?_)|refine D1 (hK:=fun _=>?_));try simp(disch:=first|omega|assumption|((repeat(first|exact A1|exact uH|apply A2|apply uT));first|done|fail)|(simp;first|done|omega|fail))[hlt, hp]))
 rename_i gs
 refine A4W (f := G2) (i := i) (by (repeat' constructor)) (C0E hx) ?_
 simp only [G2, List.cons_append, List.nil_append]
 refine A7A (f := G2) (x := E7 0 t) (by simp only [G2]; (repeat' constructor)) ?_
 refine D4 (Hc := [.own 93 1 (.slice (some ⟨gs, 0, none⟩) 1 1) 1 [.pointer (some ⟨t.b, 0, none⟩)], F5 G2 [E7 0 t]]) l4 (fun w' _ hs => A6x w' _ [t] (by simp) hs) (by (repeat' constructor)) ?_
 rintro bx _ rfl
 simp only [A63, List.map_cons, List.map_nil, List.cons_append, List.nil_append]
 refine B5x ?_
 (have zz:=trivial;repeat((first|clear zz|with_reducible first|refine A3 ?_|refine A5 fun _=>?_|refine A4 fun _=>?_);try simp(disch:=first|omega|assumption|((repeat(first|exact A1|exact uH|apply A2|apply uT));first|done|fail)|(simp;first|done|omega|fail))[]))
 refine D2 M0 (fun w' hw' => B3a w' m.b m.k _ _ _ (hw'.pt (by (repeat constructor))) rfl (hw'.pt (o := .cells #[m.pv, m.rv] 92 (0, 0)) (by (repeat constructor))) rfl) ?_
 (have zz:=trivial;repeat((first|clear zz|with_reducible first|refine A3 ?_|refine A5 fun _=>?_|refine A4 fun _=>?_);try simp(disch:=first|omega|assumption|((repeat(first|exact A1|exact uH|apply A2|apply uT));first|done|fail)|(simp;first|done|omega|fail))[]))
 rw [B85 (by (repeat constructor)) (by rfl)]
 (have zz:=trivial;repeat((first|clear zz|with_reducible first|refine A3 ?_|refine A5 fun _=>?_|refine A4 fun _=>?_);try simp(disch:=first|omega|assumption|((repeat(first|exact A1|exact uH|apply A2|apply uT));first|done|fail)|(simp;first|done|omega|fail))[]))
 refine D2 A55 (fun w' _ => B6L w' (G1 pk).1 (G1 pk).2.1) ?_
 (have zz:=trivial;repeat((first|clear zz|with_reducible first|refine A3 ?_|refine A5 fun _=>?_|refine A4 fun _=>?_);try simp(disch:=first|omega|assumption|((repeat(first|exact A1|exact uH|apply A2|apply uT));first|done|fail)|(simp;first|done|omega|fail))[]))
 generalize j9 (G1 pk).1 (G1 pk).2.1 = cl at *
 refine A4z (f := G2) (x := E7 1 t) (by (repeat' constructor)) ?_
 simp only [G2, E7, List.cons_append, List.nil_append]
 have hkey2 := hm.keys _ hxm
 have hlen2 := hm.len _ hxm
 refine B9V (nx := (t.nx : Nat)) (tv := t.tv) (pv := m.pv) (rv := m.rv) (l := t.l) (p := m.pool) hk hkey2 (by omega) hm.pool (by simp only [A45, List.cons_append, List.nil_append]; (repeat' constructor)) fun r => ?_
 simp only [A45, List.cons_append, List.nil_append]
 (have zz:=trivial;repeat((first|clear zz|with_reducible first|refine A3 ?_|refine A5 fun _=>?_|refine A4 fun _=>?_);try simp(disch:=first|omega|assumption|((repeat(first|exact A1|exact uH|apply A2|apply uT));first|done|fail)|(simp;first|done|omega|fail))[AnsV.val]))
 refine A7A (f := G2) (x := E7 1 ⟨t.b, 1, r, (F8 t.l m.pool key cl now m.c.idle).1, t.nx⟩) (by simp only [G2, E7]; (repeat' constructor)) ?_
 refine B6H (Hc := [.pt bx (.cells #[.slice (some ⟨gs, 0, none⟩) 1 1] 86), .own 93 1 (.slice (some ⟨gs, 0, none⟩) 1 1) 1 [.pointer (some ⟨t.b, 0, none⟩)], F5 G2 [E7 1 ⟨t.b, 1, r, (F8 t.l m.pool key cl now m.c.idle).1, t.nx⟩]]) b9
  (fun w' _ hs => A57 w' bx _ [⟨t.b, 1, r, (F8 t.l m.pool key cl now m.c.idle).1, t.nx⟩] (by simp) hs) (by (repeat' constructor)) ?_
 rintro _ _ rfl
 simp only [A63, List.map_cons, List.map_nil, List.cons_append, List.nil_append]
 refine A4z (f := G2) (x := E7 0 ⟨t.b, 1, r, (F8 t.l m.pool key cl now m.c.idle).1, t.nx⟩) (by (repeat' constructor)) ?_
 simp only [G2, List.cons_append, List.nil_append]
 refine A6a (f := G2) (y := E7 0 ⟨t.b, 1, r, (F8 t.l m.pool key cl now m.c.idle).1, t.nx⟩) (ls := m.ts.map (E7 0)) (i := i) (by simp only [G2, List.cons_append, List.nil_append]; (repeat' constructor)) (by simpa using hlt) ?_
 (have zz:=trivial;repeat((first|clear zz|with_reducible first|refine A3 ?_|refine A5 fun _=>?_|refine A4 fun _=>?_);try simp(disch:=first|omega|assumption|((repeat(first|exact A1|exact uH|apply A2|apply uT));first|done|fail)|(simp;first|done|omega|fail))[]))
 refine C4 { m with sv := .slice (some ⟨g, 0, none⟩) m.ts.length sc, ts := m.ts.set i ⟨t.b, 1, r, (F8 t.l m.pool key cl now m.c.idle).1, t.nx⟩ } ⟨by simp [AnsV.val], rfl, by simp [BaH.st, List.map_set]⟩ ?_
 simp only [B6, L7, H5, B26 hx, List.length_set, List.map_set]
 (repeat' constructor)
set_option maxHeartbeats 1000000 in
theorem A9U (w : World) (m : BaH) (j now : Int) (c : CfgV) (hm : BaOk c m) (hw : LW false (B3 (B6 m)) w (B6 m) w) :
  Fn PR B4 27 #[.pointer (some ⟨m.b, 0, none⟩), .int .i64 j, .int .i64 now] w (BDo w m (A1r m.st j now)) := by
 refine A1f (TW.goH (κ := false) ?_ hw)
 unfold S0
 unfold BDo
 have hlen := hm.few
 have hstl : m.st.tabs.length = m.ts.length := by simp [BaH.st]
 generalize hS : B3 (B6 m) = S at *
 simp only [B6, L7, H5]
 refine d9 (e := 93) (k := 1) (v := m.sv) (q := m.ts.length) (xs := T9 m.ts) (by (repeat constructor)) ?_
 intro sa sc hsv
 rw [hsv]
 by_cases c1 : j < 0
 ·have e : A1r m.st j now = (m.st, ⟨1, 0, false, 0⟩) := if_pos (Or.inl c1)
  rw [e]
  (have zz:=trivial;repeat((first|clear zz|with_reducible first|refine A3 ?_|refine A5 fun _=>?_|refine A4 fun _=>?_);try simp(disch:=first|omega|assumption|((repeat(first|exact A1|exact uH|apply A2|apply uT));first|done|fail)|(simp;first|done|omega|fail))[c1]))
  refine C4 m ⟨by simp [AnsV.val], rfl, rfl⟩ ?_
  simp only [B6, L7, H5, hsv]
  (repeat' constructor)
 by_cases c2 : (m.ts.length : Int) ≤ j
 ·have e : A1r m.st j now = (m.st, ⟨1, 0, false, 0⟩) := if_pos (Or.inr (by rw [hstl]; exact c2))
  rw [e]
  (have zz:=trivial;repeat((first|clear zz|with_reducible first|refine A3 ?_|refine A5 fun _=>?_|refine A4 fun _=>?_);try simp(disch:=first|omega|assumption|((repeat(first|exact A1|exact uH|apply A2|apply uT));first|done|fail)|(simp;first|done|omega|fail))[c1, c2]))
  refine C4 m ⟨by simp [AnsV.val], rfl, rfl⟩ ?_
  simp only [B6, L7, H5, hsv]
  (repeat' constructor)
 obtain ⟨i, hi⟩ : ∃ i : Nat, j = i := ⟨j.toNat, by omega⟩
 rw [hi] at c1 c2 ⊢
 have hlt : i < m.ts.length := by omega
 obtain ⟨t, hx⟩ : ∃ x, m.ts[i]? = some x := ⟨_, List.getElem?_eq_getElem hlt⟩
 have hxm := List.mem_of_getElem? hx
 have hgd : m.st.tabs.getD i ([], 0) = (t.l, t.nx) := by simp [BaH.st, List.getD_eq_getElem?_getD, hx]
 have e : A1r m.st i now = ({ m.st with tabs := m.st.tabs.set i ((H2 t.l t.nx 4 now).1, (H2 t.l t.nx 4 now).2.1) }, ⟨0, 0, false, ((H2 t.l t.nx 4 now).2.2 : Nat)⟩) := by
  unfold A1r
  rw [if_neg (by rw [hstl]; omega)]
  simp only [Int.toNat_natCast, hgd]
 rw [e]
 have hp := A4U hx
 refine A0Q (e := 93) (k := 1) (v := .slice sa m.ts.length sc) (q := m.ts.length) (xs := T9 m.ts) (by (repeat constructor)) (by omega) ?_
 rintro g gc hg
 cases hg
 have hi0 : ¬ ((i : Nat) : Int) < 0 := by omega
 (have zz:=trivial;repeat((first|clear zz|with_reducible first|refine A3 ?_|refine A5 fun _=>?_|refine A4 fun _=>?_|refine D0 fun _=>?_|refine C9 (hK:=fun _=>?_)|refine C6 (hK:=fun _=>?_)|refine C8 (hK:=fun _=>?_)|refine C7 (hK:=fun _=>?_)|refine D1 (hK:=fun _=>?_));try simp(disch:=first|omega|assumption|((repeat(first|exact A1|exact uH|apply A2|apply uT));first|done|fail)|(simp;first|done|omega|fail))[hi0, c2, hlt, hp]))
 rename_i gs
 refine A4W (f := G2) (i := i) (by (repeat' constructor)) (C0E hx) ?_
 simp only [G2, List.cons_append, List.nil_append]
 refine A7A (f := G2) (x := E7 0 t) (by simp only [G2]; (repeat' constructor)) ?_
 refine D4 (Hc := [.own 93 1 (.slice (some ⟨gs, 0, none⟩) 1 1) 1 [.pointer (some ⟨t.b, 0, none⟩)], F5 G2 [E7 0 t]]) l4 (fun w' _ hs => A6x w' _ [t] (by simp) hs) (by (repeat' constructor)) ?_
 rintro bx _ rfl
 simp only [A63, List.map_cons, List.map_nil, List.cons_append, List.nil_append]
 refine B5x ?_
 refine A4z (f := G2) (x := E7 1 t) (by (repeat' constructor)) ?_
 simp only [G2, E7, Y9, List.cons_append, List.nil_append]
 have hkey2 := hm.keys _ hxm
 have hlen2 := hm.len _ hxm
 (have zz:=trivial;repeat((first|clear zz|with_reducible first|refine A3 ?_|refine A5 fun _=>?_|refine A4 fun _=>?_);try simp(disch:=first|omega|assumption|((repeat(first|exact A1|exact uH|apply A2|apply uT));first|done|fail)|(simp;first|done|omega|fail))[]))
 refine M3 A9s (fun w' hw' => C1K w' t.tv t.l t.nx 4 now hkey2 (by omega) (N0.own (e := 160) (k := 4) (by (repeat constructor)) w' hw')) ?_
 rintro r _ rfl
 refine A1W (e := 160) (k := 4) (v := r) (q := (H2 t.l t.nx 4 now).1.length) (xs := (H2 t.l t.nx 4 now).1.flatMap F2) (by (repeat constructor)) fun hr1 hr2 hr3 => ?_
 (have zz:=trivial;repeat((first|clear zz|with_reducible first|refine A3 ?_|refine A5 fun _=>?_|refine A4 fun _=>?_);try simp(disch:=first|omega|assumption|((repeat(first|exact A1|exact uH|apply A2|apply uT));first|done|fail)|(simp;first|done|omega|fail))[hr1]))
 refine A7A (f := G2) (x := E7 1 ⟨t.b, 1, r, (H2 t.l t.nx 4 now).1, (H2 t.l t.nx 4 now).2.1⟩) (by simp only [G2, E7, Y9]; (repeat' constructor)) ?_
 refine B6H (Hc := [.pt bx (.cells #[.slice (some ⟨gs, 0, none⟩) 1 1] 86), .own 93 1 (.slice (some ⟨gs, 0, none⟩) 1 1) 1 [.pointer (some ⟨t.b, 0, none⟩)], F5 G2 [E7 1 ⟨t.b, 1, r, (H2 t.l t.nx 4 now).1, (H2 t.l t.nx 4 now).2.1⟩]]) b9
  (fun w' _ hs => A57 w' bx _ [⟨t.b, 1, r, (H2 t.l t.nx 4 now).1, (H2 t.l t.nx 4 now).2.1⟩] (by simp) hs) (by (repeat' constructor)) ?_
 rintro _ _ rfl
 simp only [A63, List.map_cons, List.map_nil, List.cons_append, List.nil_append]
 refine A4z (f := G2) (x := E7 0 ⟨t.b, 1, r, (H2 t.l t.nx 4 now).1, (H2 t.l t.nx 4 now).2.1⟩) (by (repeat' constructor)) ?_
 simp only [G2, List.cons_append, List.nil_append]
 refine A6a (f := G2) (y := E7 0 ⟨t.b, 1, r, (H2 t.l t.nx 4 now).1, (H2 t.l t.nx 4 now).2.1⟩) (ls := m.ts.map (E7 0)) (i := i) (by simp only [G2, List.cons_append, List.nil_append]; (repeat' constructor)) (by simpa using hlt) ?_
 (have zz:=trivial;repeat((first|clear zz|with_reducible first|refine A3 ?_|refine A5 fun _=>?_|refine A4 fun _=>?_);try simp(disch:=first|omega|assumption|((repeat(first|exact A1|exact uH|apply A2|apply uT));first|done|fail)|(simp;first|done|omega|fail))[]))
 refine C4 { m with sv := .slice (some ⟨g, 0, none⟩) m.ts.length sc, ts := m.ts.set i ⟨t.b, 1, r, (H2 t.l t.nx 4 now).1, (H2 t.l t.nx 4 now).2.1⟩ } ⟨by simp [AnsV.val], rfl, by simp [BaH.st, List.map_set]⟩ ?_
 simp only [B6, L7, H5, B26 hx, List.length_set, List.map_set]
 (repeat' constructor)
end Go.Proofs.YtpbmephflllolaaGreat
namespace Go.Proofs.YtpbmephflllolaaGreat
open Go
theorem A59 (l : List EnV) : (A0T l).length = S1 l 1 := by
 have : ∀ (m : List EnV) (i : Nat), (N8 i m).length = S1 m 1 := by
  intro m
  induction m with
  | nil => intro i; simp [N8, S1]
  | cons x m ih =>
   intro i
   have h := ih (i + 1)
   by_cases c : x.st = 1
   ·simp [N8, S1, c, h]
   ·simp [N8, S1, c, h]
 simp only [A0T, List.length_map, F9, this]
def K8 (tabs : List (List EnV × Nat)) : List ByteArray := tabs.flatMap fun t => A0T t.1
theorem B7l (tabs : List (List EnV × Nat)) : (K8 tabs).length = B5a tabs := by
 unfold K8 B5a
 induction tabs with
 | nil => rfl
 | cons t tabs ih => rw [List.flatMap_cons, List.length_append, ih, A59]; simp
theorem liveK_le {tabs : List (List EnV × Nat)} (h : ∀ t ∈ tabs, t.1.length ≤ 64) : (K8 tabs).length ≤ tabs.length * 64 := by
 unfold K8
 induction tabs with
 | nil => simp
 | cons t tabs ih =>
  have h1 := ih fun t ht => h t (by simp [ht])
  have h2 := h t (by simp)
  have h3 : (A0T t.1).length ≤ t.1.length := by rw [A59]; exact List.countP_le_length
  rw [List.flatMap_cons, List.length_append, List.length_cons]; omega
set_option maxHeartbeats 1000000 in
theorem B19 (w : World) (m : BaH) (c : CfgV) (hm : BaOk c m) (hw : LW false (B3 (B6 m)) w (B6 m) w) :
  Fn PR B4 16 #[.pointer (some ⟨m.b, 0, none⟩)] w (Rn (B3 (B6 m)) w (fun (r : Value) u => u = r) fun r => .own 9 1 r (K8 m.st.tabs).length ((K8 m.st.tabs).map Value.string) :: B6 m) := by
 refine A2D (TW.goH (κ := false) ?_ hw)
 unfold U4
 have hlen := hm.few
 obtain ⟨tb, htb⟩ : ∃ tb, tb = m.st.tabs := ⟨_, rfl⟩
 have htl : tb.length = m.ts.length := by rw [htb]; simp [BaH.st]
 have hall : ∀ t ∈ tb, t.1.length ≤ 64 := fun t ht => by
  rw [htb] at ht
  obtain ⟨x, hx, rfl⟩ := List.mem_map.1 ht; exact hm.len x hx
 rw [← htb]
 generalize hS : B3 (B6 m) = S at *
 simp only [B6, L7, H5]
 refine d9 (e := 93) (k := 1) (v := m.sv) (q := m.ts.length) (xs := T9 m.ts) (by (repeat constructor)) ?_
 intro sa sc hsv
 rw [hsv]
 (have zz:=trivial;repeat((first|clear zz|with_reducible first|refine A3 ?_|refine A5 fun _=>?_|refine A4 fun _=>?_);try simp(disch:=first|omega|assumption|((repeat(first|exact A1|exact uH|apply A2|apply uT));first|done|fail)|(simp;first|done|omega|fail))[]))
 refine D4 (Hc := [H5 (.slice sa m.ts.length sc) m.ts, F5 G2 (m.ts.map (E7 0))]) l4 (fun w' _ hs => A6x w' _ m.ts (by omega) hs) (by simp only [H5]; (repeat' constructor)) ?_
 rintro bx _ rfl
 simp only [H5, List.cons_append, List.nil_append]
 refine B5x ?_
 refine p8 9 1 ?_
 (have zz:=trivial;repeat((first|clear zz|with_reducible first|refine A3 ?_|refine A5 fun _=>?_|refine A4 fun _=>?_);try simp(disch:=first|omega|assumption|((repeat(first|exact A1|exact uH|apply A2|apply uT));first|done|fail)|(simp;first|done|omega|fail))[]))
 refine Sels.tw (rs := [.own 9 1 (.slice none 0 0) 0 [], .pt bx (.cells #[.slice sa m.ts.length sc] 86), .own 93 1 (.slice sa m.ts.length sc) m.ts.length (T9 m.ts), F5 G2 (m.ts.map (E7 1)), .pt m.b (.cells #[.int .i64 m.c.wk, .int .i64 m.c.sh, .int .i64 m.c.cp, .int .i64 m.c.idle, .int .i64 m.c.sl, .pointer (some ⟨m.k, 0, none⟩), .slice sa m.ts.length sc] 88 (0, 0)),
  .pt m.k (.cells #[m.pv, m.rv] 92 (0, 0)), .own 75 2 m.pv m.pool.length (m.pool.flatMap D5), .own 217 2 m.rv (F7 (E3 m.pool)).length ((F7 (E3 m.pool)).flatMap F1)]) (by (repeat' constructor)) ?_
 refine n7 (α := Option Addr × Nat) m.ts.length (fun i x => .slice x.1 (K8 (tb.take i)).length x.2) (fun i x => [.own 9 1 (.slice x.1 (K8 (tb.take i)).length x.2) (K8 (tb.take i)).length ((K8 (tb.take i)).map Value.string), .pt bx (.cells #[.slice sa m.ts.length sc] 86), .own 93 1 (.slice sa m.ts.length sc) m.ts.length (T9 m.ts), F5 G2 (m.ts.map (E7 1)), .pt m.b (.cells #[.int .i64 m.c.wk, .int .i64 m.c.sh, .int .i64 m.c.cp, .int .i64 m.c.idle, .int .i64 m.c.sl, .pointer (some ⟨m.k, 0, none⟩), .slice sa m.ts.length sc] 88 (0, 0)),
  .pt m.k (.cells #[m.pv, m.rv] 92 (0, 0)), .own 75 2 m.pv m.pool.length (m.pool.flatMap D5), .own 217 2 m.rv (F7 (E3 m.pool)).length ((F7 (E3 m.pool)).flatMap F1)]) (fun _ _ => True) (none, 0) trivial ?_
 rintro i ⟨xa, xc⟩ hi _ L hL
 have hsum : (K8 (tb.take i)).length ≤ 1024 := by
  have h1 := liveK_le (tabs := tb.take i) fun t ht => hall t (List.mem_of_mem_take ht)
  have h2 : (tb.take i).length ≤ 16 := by rw [List.length_take]; omega
  omega
 by_cases hlt : i < m.ts.length
 ·have hx := List.getElem?_eq_getElem hlt
  have hp := A4U hx
  have hxm := List.getElem_mem hlt
  have hlk : (m.ts.map (E7 1))[i]? = some (E7 1 m.ts[i]) := by simp [hlt]
  have hst : K8 (tb.take (i + 1)) = K8 (tb.take i) ++ A0T (m.ts[i]).l := by
   have hx2 : tb[i]? = some ((m.ts[i]).l, (m.ts[i]).nx) := by rw [htb]; simp [BaH.st, hlt]
   rw [List.take_add_one, hx2]; simp [K8, List.flatMap_append]
  simp only [hst] at hL
  have hl64 := hm.len _ hxm
  have hkl : (A0T (m.ts[i]).l).length ≤ 64 := by rw [A59]; exact Nat.le_trans List.countP_le_length hl64
  generalize m.ts[i] = t at *
  refine A0Q (e := 93) (k := 1) (v := .slice sa m.ts.length sc) (q := m.ts.length) (xs := T9 m.ts) (by (repeat constructor)) (by omega) ?_
  rintro g gc hg
  cases hg
  refine A4W (f := G2) (i := i) (ls := m.ts.map (E7 1)) (by (repeat' constructor)) hlk ?_
  simp only [G2, E7, Y9, List.cons_append, List.nil_append]
  (have zz:=trivial;repeat((first|clear zz|with_reducible first|refine A3 ?_|refine A5 fun _=>?_|refine A4 fun _=>?_);try simp(disch:=first|omega|assumption|((repeat(first|exact A1|exact uH|apply A2|apply uT));first|done|fail)|(simp;first|done|omega|fail))[hlt, hp]))
  refine M3 A91 (fun w' hw' => C1V w' t.tv t.l (by omega) (N0.own (e := 160) (k := 4) (by (repeat constructor)) w' hw')) ?_
  rintro _ r rfl
  refine A0J (e := 9) (k := 1) (q := (K8 (tb.take i)).length) (r := (A0T t.l).length) (xs := (K8 (tb.take i)).map Value.string) (news := (A0T t.l).map Value.string) (by (repeat constructor)) (N0.own (by (repeat constructor))) (by decide) (by simp) (by simp [List.all_map, Function.comp_def]) (by simp only [maxLen]; omega) (by omega) fun a' c' => ?_
  refine A6a (f := G2) (y := E7 1 t) (ls := m.ts.map (E7 1)) (i := i) (by simp only [G2, E7, Y9, List.cons_append, List.nil_append]; (repeat' constructor)) (by simpa using hlt) ?_
  have hsame : (m.ts.map (E7 1)).set i (E7 1 t) = m.ts.map (E7 1) := by
   obtain ⟨h1, h2⟩ := List.getElem?_eq_some_iff.1 hlk
   rw [← h2]; exact List.set_getElem_self h1
  rw [hsame]
  (have zz:=trivial;repeat((first|clear zz|with_reducible first|refine A3 ?_|refine A5 fun _=>?_|refine A4 fun _=>?_);try simp(disch:=first|omega|assumption|((repeat(first|exact A1|exact uH|apply A2|apply uT));first|done|fail)|(simp;first|done|omega|fail))[]))
  have h := hL hlt (a', c') trivial
  simp only [List.length_append, List.map_append] at h
  exact Sels.tw (by (repeat' constructor)) h
 ·obtain rfl : i = m.ts.length := by omega
  rw [← htl, List.take_length]
  (have zz:=trivial;repeat((first|clear zz|with_reducible first|refine A3 ?_|refine A5 fun _=>?_|refine A4 fun _=>?_);try simp(disch:=first|omega|assumption|((repeat(first|exact A1|exact uH|apply A2|apply uT));first|done|fail)|(simp;first|done|omega|fail))[]))
  rw [htl]
  refine B6H (Hc := [.pt bx (.cells #[.slice sa m.ts.length sc] 86), H5 (.slice sa m.ts.length sc) m.ts, F5 G2 (m.ts.map (E7 1))]) b9
   (fun w' _ hs => A57 w' bx _ m.ts (by omega) hs) (by simp only [H5]; (repeat' constructor)) ?_
  rintro _ _ rfl
  simp only [H5, List.cons_append, List.nil_append]
  refine C4 (.slice xa (K8 tb).length xc) rfl ?_
  try simp only [B6, L7, H5, hsv]
  (repeat' constructor)
end Go.Proofs.YtpbmephflllolaaGreat
namespace Go.Proofs.YtpbmephflllolaaGreat
open Go
end Go.Proofs.YtpbmephflllolaaGreat
namespace Go.Proofs.YtpbmephflllolaaGreat
open Go
end Go.Proofs.YtpbmephflllolaaGreat
namespace Go.Proofs.YtpbmephflllolaaGreat
open Go
end Go.Proofs.YtpbmephflllolaaGreat
namespace Go.Proofs.YtpbmephflllolaaGreat
open Go
end Go.Proofs.YtpbmephflllolaaGreat
namespace Go.Proofs.YtpbmephflllolaaGreat
open Go
end Go.Proofs.YtpbmephflllolaaGreat
namespace Go.Proofs.YtpbmephflllolaaGreat
open Go
end Go.Proofs.YtpbmephflllolaaGreat
namespace Go.Proofs.YtpbmephflllolaaGreat
open Go
end Go.Proofs.YtpbmephflllolaaGreat
namespace Go.Proofs.YtpbmephflllolaaGreat
open Go
end Go.Proofs.YtpbmephflllolaaGreat
namespace Go.Proofs.YtpbmephflllolaaGreat
open Go
end Go.Proofs.YtpbmephflllolaaGreat
namespace Go.Proofs.YtpbmephflllolaaGreat
open Go
end Go.Proofs.YtpbmephflllolaaGreat
namespace Go.Proofs.YtpbmephflllolaaGreat
open Go
end Go.Proofs.YtpbmephflllolaaGreat
namespace Go.Proofs.YtpbmephflllolaaGreat
open Go
section
variable {κ : Bool} {X : Nat → Prop} {S : List Nat} {w0 : World} {H H' Hk : List Res} {K : Value → WP} {K0 : WP}
end
end Go.Proofs.YtpbmephflllolaaGreat
namespace Go.Proofs.YtpbmephflllolaaGreat
open Go
theorem N0.mono {κ : Bool} {S : List Nat} {w0 : World} {H H' : List Res} {v : Value} {n : Nat} {xs : List Value} (h : N0 κ S w0 H v n xs) (hs : H.Sublist H') : N0 κ S w0 H' v n xs := fun w hw => h w (hw.sub hs)
def RdC (w : World) (v : Value) (l : List (Nat × Int)) : Prop := F3 w v l.length (l.flatMap F1) ∧ ∃ a c, v = .slice a l.length c ∧ l.length ≤ c
theorem RdC.ks {w w' : World} {v : Value} {l : List (Nat × Int)} (h : RdC w v l) (hk : KS false [] w w') : RdC w' v l := ⟨h.1.ks hk (by simp), h.2⟩
end Go.Proofs.YtpbmephflllolaaGreat
namespace Go.Proofs.YtpbmephflllolaaGreat
open Go
end Go.Proofs.YtpbmephflllolaaGreat
namespace Go.Proofs.YtpbmephflllolaaGreat
open Go
end Go.Proofs.YtpbmephflllolaaGreat
namespace Go.Proofs.YtpbmephflllolaaGreat
open Go
end Go.Proofs.YtpbmephflllolaaGreat
namespace Go.Proofs.YtpbmephflllolaaGreat
open Go
end Go.Proofs.YtpbmephflllolaaGreat
namespace Go.Proofs.YtpbmephflllolaaGreat
open Go
end Go.Proofs.YtpbmephflllolaaGreat
namespace Go.Proofs.YtpbmephflllolaaGreat
open Go
end Go.Proofs.YtpbmephflllolaaGreat
namespace Go.Proofs.YtpbmephflllolaaGreat
open Go
end Go.Proofs.YtpbmephflllolaaGreat
namespace Go.Proofs.YtpbmephflllolaaGreat
open Go
end Go.Proofs.YtpbmephflllolaaGreat
namespace Go.Proofs.YtpbmephflllolaaGreat
open Go
end Go.Proofs.YtpbmephflllolaaGreat
namespace Go.Proofs.YtpbmephflllolaaGreat
open Go
end Go.Proofs.YtpbmephflllolaaGreat
namespace Go.Proofs.YtpbmephflllolaaGreat
open Go
end Go.Proofs.YtpbmephflllolaaGreat
namespace Go.Proofs.YtpbmephflllolaaGreat
open Go
end Go.Proofs.YtpbmephflllolaaGreat
namespace Go.Proofs.YtpbmephflllolaaGreat
open Go
theorem N0.slice {κ : Bool} {S : List Nat} {w0 : World} {H : List Res} {v : Value} {n : Nat} {xs : List Value} {K0 : WP} (h : N0 κ S w0 H v n xs) (hK : ∀ a c, v = .slice a n c → TW κ S w0 H K0) : TW κ S w0 H K0 := fun w hw => by
 obtain ⟨a, c, e, _⟩ := (h w hw).form
 exact hK a c e w hw
end Go.Proofs.YtpbmephflllolaaGreat
namespace Go.Proofs.YtpbmephflllolaaGreat
open Go
structure RmH where
 pv : Value
 tv : Value
 lv : Value
 c : CfgV
 pool : List D7
 ts : List (Value × List EnV)
 pl : List Nat
def RmH.cs (r : RmH) : Array Value := #[.int .i64 r.c.wk, .int .i64 r.c.sh, .int .i64 r.c.cp, .int .i64 r.c.idle, .int .i64 r.c.sl, r.pv, r.tv, r.lv]
end Go.Proofs.YtpbmephflllolaaGreat
namespace Go.Proofs.YtpbmephflllolaaGreat
open Go
def RmH.val (r : RmH) : Value := .agg r.cs
def RmH.st (r : RmH) : MoS := ⟨r.c, r.pool, (r.ts.map (·.2)).zip r.pl⟩
section
variable (w : World) (r : RmH) (o : OpV) (v : Value) (now : Int)
end
end Go.Proofs.YtpbmephflllolaaGreat
namespace Go.Proofs.YtpbmephflllolaaGreat
open Go
end Go.Proofs.YtpbmephflllolaaGreat
namespace Go.Proofs.YtpbmephflllolaaGreat
open Go
section
variable {w0 : World} {H Hk : List Res} {K : Value → WP} {K0 : WP}
end
structure RmS where
 pa : Option Addr
 pc : Nat
 ta : Option Addr
 tc : Nat
 la : Option Addr
 lc : Nat
 pool : List D7
 ts : List (Value × List EnV)
 pl : List Nat
def RmS.cs (c : CfgV) (x : RmS) : Array Value := #[.int .i64 c.wk, .int .i64 c.sh, .int .i64 c.cp, .int .i64 c.idle, .int .i64 c.sl, .slice x.pa x.pool.length x.pc, .slice x.ta x.ts.length x.tc, .slice x.la x.pl.length x.lc]
end Go.Proofs.YtpbmephflllolaaGreat
namespace Go.Proofs.YtpbmephflllolaaGreat
open Go
theorem H4.str_at {w : World} {b o : Nat} {l : List ByteArray} (h : H4 w b o (l.map Value.string)) {i : Nat} {x : ByteArray} (hx : l[i]? = some x) : w.cell? ⟨b, o + i, none⟩ = some (.string x) := h.get (by simp [hx])
theorem B9Y (w : World) (va vb : Value) (l : List ByteArray) (hl : l.length ≤ 1000000) (ha : F3 w va l.length (l.map Value.string)) (hb : F3 w vb l.length (l.map Value.string)) :
  Fn PR B4 15 #[va, vb] w (fun u w' => u = .bool true ∧ C3 [] w w') := by
 refine Fn.pure (A3E (TW.go (κ := false) (S := []) ?_))
 unfold s5
 obtain ⟨a1, c1, rfl, h1⟩ := ha.form
 obtain ⟨a2, c2, rfl, h2⟩ := hb.form
 (have zz:=trivial;repeat((first|clear zz|with_reducible first|refine A3 ?_|refine A5 fun _=>?_|refine A4 fun _=>?_);try simp(disch:=first|omega|assumption|((repeat(first|exact A1|exact uH|apply A2|apply uT));first|done|fail)|(simp;first|done|omega|fail))[]))
 refine n7 (α := Unit) l.length (fun _ _ => .bool false) (fun _ _ => []) (fun _ _ => True) () trivial ?_
 rintro i _ hi _ L hL
 by_cases hlt : i < l.length
 ·have hx := List.getElem?_eq_getElem hlt
  obtain ⟨b1, o1, rfl, r1⟩ := h1 (by omega)
  obtain ⟨b2, o2, rfl, r2⟩ := h2 (by omega)
  have e1 := r1.str_at hx
  have e2 := r2.str_at hx
  (have zz:=trivial;repeat((first|clear zz|with_reducible first|refine A3 ?_|refine A5 fun _=>?_|refine A4 fun _=>?_);try simp(disch:=first|omega|assumption|((repeat(first|exact A1|exact uH|apply A2|apply uT));first|done|fail)|(simp;first|done|omega|fail))[hlt, e1, e2]))
  exact hL hlt () trivial
 ·obtain rfl : i = l.length := by omega
  (have zz:=trivial;repeat((first|clear zz|with_reducible first|refine A3 ?_|refine A5 fun _=>?_|refine A4 fun _=>?_);try simp(disch:=first|omega|assumption|((repeat(first|exact A1|exact uH|apply A2|apply uT));first|done|fail)|(simp;first|done|omega|fail))[]))
  exact B0 rfl
end Go.Proofs.YtpbmephflllolaaGreat
namespace Go.Proofs.YtpbmephflllolaaGreat
open Go
theorem B0x (w : World) (m : BaH) (c : CfgV) (hm : BaOk c m) (hw : LW false (B3 (B6 m)) w (B6 m) w) :
  Fn PR B4 20 #[.pointer (some ⟨m.b, 0, none⟩)] w (BDo w m (A7C m.st)) := by
 refine A1v (TW.goH (κ := false) ?_ hw)
 unfold k6
 unfold BDo
 generalize hS : B3 (B6 m) = S at *
 (have zz:=trivial;repeat((first|clear zz|with_reducible first|refine A3 ?_|refine A5 fun _=>?_|refine A4 fun _=>?_);try simp(disch:=first|omega|assumption|((repeat(first|exact A1|exact uH|apply A2|apply uT));first|done|fail)|(simp;first|done|omega|fail))[]))
 refine D4 (Hc := B6 m) l0 (fun w' _ hs => B19 w' m c hm hs) (by simp only [B6]; (repeat' constructor)) ?_
 rintro _ r rfl
 simp only [B6, L7, H5, List.cons_append, List.nil_append]
 refine d9 (e := 9) (k := 1) (v := r) (q := (K8 m.st.tabs).length) (xs := (K8 m.st.tabs).map Value.string) (by (repeat constructor)) ?_
 rintro ra rc rfl
 (have zz:=trivial;repeat((first|clear zz|with_reducible first|refine A3 ?_|refine A5 fun _=>?_|refine A4 fun _=>?_);try simp(disch:=first|omega|assumption|((repeat(first|exact A1|exact uH|apply A2|apply uT));first|done|fail)|(simp;first|done|omega|fail))[]))
 refine C4 m ⟨by simp [AnsV.val, A7C, B7l], rfl, rfl⟩ ?_
 try simp only [B6, L7, H5]
 (repeat' constructor)
theorem B9A {X : Nat → Prop} {κ : Bool} {S : List Nat} {w0 : World} {H Hk : List Res} {K : Value → WP} {b k' : Nat} {c0 c1 c2 c3 c4 c5 c6 : Value} {T : TypeId} {d : Array Value} {T2 : TypeId} (hp : Part [.pt b (.cells #[c0, c1, c2, c3, c4, c5, c6] T (0, 0)), .pt k' (.cells d T2 (0, 0))] H Hk) (hd : 0 < d.size)
  (hK : TW κ S w0 (.pt b (.cells #[c0, c1, c2, c3, c4, .pointer (some ⟨k', 0, none⟩), c6] T (0, 0)) :: .pt k' (.cells d T2 (0, 0)) :: Hk) (K (.tuple #[]))) : TW κ S w0 H (B2 PR X 36 [.pointer (some ⟨b, 5, none⟩), .pointer (some ⟨k', 0, none⟩)] K) := by
 refine TW.perm ?_ hp.perm
 refine D4 (Hc := [.pt b (.cells #[c0, c1, c2, c3, c4, c5, c6] T (0, 0))]) (Hk := .pt k' (.cells d T2 (0, 0)) :: Hk) L6 (fun w' hw' hs => B0v w' b k' _ _ _ _ _ _ _ _ d T2 hd hs (hw'.hold (.pt k' (.cells d T2 (0, 0))) (by simp)).1 (fun e => ?_)) (Part.cons Sel.here Part.nil) ?_
 ·have := (List.pairwise_cons.1 hw'.dis).1 (.pt k' (.cells d T2 (0, 0))) (by simp) b (by simp [Res.foot])
  exact this (by simp [Res.foot, e])
 ·rintro _ _ rfl
  exact hK
set_option maxHeartbeats 1000000 in
theorem C0n (w : World) (c : CfgV) : Fn PR B4 10 #[c.val] w (Rn [] w (fun (m : BaH) u => if Z4 c then u = .tuple #[.pointer (some ⟨m.b, 0, none⟩), .int .i64 0] ∧ m.st = ⟨c, [], A42 c⟩ else u = .tuple #[.pointer none, .int .i64 1])
  fun m => if Z4 c then B6 m else []) := by
 refine A9F (TW.go (κ := false) (S := []) ?_)
 unfold A3W
 simp only [CfgV.val]
 (have zz:=trivial;repeat((first|clear zz|with_reducible first|refine A3 ?_|refine A5 fun _=>?_|refine A4 fun _=>?_);try simp(disch:=first|omega|assumption|((repeat(first|exact A1|exact uH|apply A2|apply uT));first|done|fail)|(simp;first|done|omega|fail))[]))
 rename_i bc
 refine D2 A9g (fun w' _ => B7g w' c) ?_
 cases hok : Z4 c with
 | false =>
  (have zz:=trivial;repeat((first|clear zz|with_reducible first|refine A3 ?_|refine A5 fun _=>?_|refine A4 fun _=>?_);try simp(disch:=first|omega|assumption|((repeat(first|exact A1|exact uH|apply A2|apply uT));first|done|fail)|(simp;first|done|omega|fail))[]))
  exact C4 ⟨0, 0, .nilIface, .nilIface, .nilIface, c, [], []⟩ (by simp) Sels.nil
 | true =>
  have hb : 1 ≤ c.sh ∧ c.sh ≤ 16 ∧ 1 ≤ c.cp ∧ c.cp ≤ 64 := by
   simp [Z4, l7] at hok; omega
  obtain ⟨n, hn⟩ : ∃ n : Nat, c.sh = n := ⟨c.sh.toNat, by omega⟩
  obtain ⟨k, hk⟩ : ∃ k : Nat, c.cp = k := ⟨c.cp.toNat, by omega⟩
  rw [hn] at hb
  rw [hk] at hb
  (have zz:=trivial;repeat((first|clear zz|with_reducible first|refine A3 ?_|refine A5 fun _=>?_|refine A4 fun _=>?_);try simp(disch:=first|omega|assumption|((repeat(first|exact A1|exact uH|apply A2|apply uT));first|done|fail)|(simp;first|done|omega|fail))[hn, hk]))
  rename_i bb bk
  refine B9A (b := bb) (k' := bk) (d := #[.slice none 0 0, .slice none 0 0]) (by (repeat' constructor)) (by simp) ?_
  refine p8 93 1 ?_
  refine C2W (f := G2) ?_
  (have zz:=trivial;repeat((first|clear zz|with_reducible first|refine A3 ?_|refine A5 fun _=>?_|refine A4 fun _=>?_);try simp(disch:=first|omega|assumption|((repeat(first|exact A1|exact uH|apply A2|apply uT));first|done|fail)|(simp;first|done|omega|fail))[hn, hk]))
  refine Sels.tw (rs := [.own 93 1 (.slice none 0 0) 0 [], .pt bb (.cells #[.int .i64 c.wk, .int .i64 n, .int .i64 k, .int .i64 c.idle, .int .i64 c.sl, .pointer (some ⟨bk, 0, none⟩), .slice none 0 0] 88), F5 G2 [], .pt bk (.cells #[.slice none 0 0, .slice none 0 0] 92),
   .pt bc (.cells #[.int .i64 c.wk, .int .i64 n, .int .i64 k, .int .i64 c.idle, .int .i64 c.sl] 23)]) (by (repeat' constructor)) ?_
  refine B42 n (fun i (x : List ShB × Option Addr × Nat) => [.own 93 1 (.slice x.2.1 i x.2.2) i (T9 x.1), .pt bb (.cells #[.int .i64 c.wk, .int .i64 n, .int .i64 k, .int .i64 c.idle, .int .i64 c.sl, .pointer (some ⟨bk, 0, none⟩), .slice x.2.1 i x.2.2] 88), F5 G2 x.1, .pt bk (.cells #[.slice none 0 0, .slice none 0 0] 92),
   .pt bc (.cells #[.int .i64 c.wk, .int .i64 n, .int .i64 k, .int .i64 c.idle, .int .i64 c.sl] 23)]) (fun i x => x.1.length = i ∧ x.1.map (E7 0) = x.1 ∧ x.1.map (fun t => (t.l, t.nx)) = List.replicate i (newE k, 0)) ([], none, 0) ⟨rfl, rfl, rfl⟩ ?_
  rintro i ⟨ts, xa, xc⟩ hi ⟨hlen, hlk, hmap⟩ L hL
  simp only at hlen hlk hmap hL ⊢
  by_cases hlt : i < n
  ·(have zz:=trivial;repeat((first|clear zz|with_reducible first|refine A3 ?_|refine A5 fun _=>?_|refine A4 fun _=>?_);try simp(disch:=first|omega|assumption|((repeat(first|exact A1|exact uH|apply A2|apply uT));first|done|fail)|(simp;first|done|omega|fail))[hlt]))
   refine M3 A5c (fun w' _ => A7c w' k (by omega)) ?_
   rintro _ r rfl
   refine A1W (e := 160) (k := 4) (v := r) (q := (newE k).length) (xs := (newE k).flatMap F2) (by (repeat constructor)) fun hr1 hr2 hr3 => ?_
   have hr4 : r.cells.toList = [r] := by rw [hr1]
   (have zz:=trivial;repeat((first|clear zz|with_reducible first|refine A3 ?_|refine A5 fun _=>?_|refine A4 fun _=>?_|refine D0 fun _=>?_|refine C9 (hK:=fun _=>?_)|refine C6 (hK:=fun _=>?_)|refine C8 (hK:=fun _=>?_)|refine C7 (hK:=fun _=>?_)|refine D1 (hK:=fun _=>?_));try simp(disch:=first|omega|assumption|((repeat(first|exact A1|exact uH|apply A2|apply uT));first|done|fail)|(simp;first|done|omega|fail))[hlt, hr1]))
   rename_i bs gs
   refine A0J (e := 93) (k := 1) (q := i) (r := 1) (xs := T9 ts) (news := [.pointer (some ⟨bs, 0, none⟩)]) (by (repeat constructor)) (N0.own (by (repeat constructor))) (by decide) (by simp) (by simp) (by simp only [maxLen]; omega) (by omega) fun a' c' => ?_
   (have zz:=trivial;repeat((first|clear zz|with_reducible first|refine A3 ?_|refine A5 fun _=>?_|refine A4 fun _=>?_);try simp(disch:=first|omega|assumption|((repeat(first|exact A1|exact uH|apply A2|apply uT));first|done|fail)|(simp;first|done|omega|fail))[hlt]))
   refine C0y (f := G2) (y := ⟨bs, 0, r, newE k, 0⟩) (ls := ts) (by simp only [G2, Y9, List.cons_append, List.nil_append]; (repeat' constructor)) ?_
   refine Sels.tw ?_ (hL hlt (ts ++ [⟨bs, 0, r, newE k, 0⟩], a', c') ⟨by simp [hlen], by rw [List.map_append, hlk]; rfl, by rw [List.map_append, hmap, List.replicate_succ']; rfl⟩)
   simp only [T9, List.map_append, List.map_cons, List.map_nil, B9r]
   (repeat' constructor)
  ·obtain rfl : i = n := by omega
   (have zz:=trivial;repeat((first|clear zz|with_reducible first|refine A3 ?_|refine A5 fun _=>?_|refine A4 fun _=>?_);try simp(disch:=first|omega|assumption|((repeat(first|exact A1|exact uH|apply A2|apply uT));first|done|fail)|(simp;first|done|omega|fail))[]))
   refine p8 75 2 ?_
   refine p8 217 2 ?_
   refine C4 ⟨bb, bk, .slice none 0 0, .slice none 0 0, .slice xa i xc, c, [], ts⟩ ⟨rfl, ?_⟩ ?_
   ·simp only [BaH.st, hmap, A42, hn, hk, Int.toNat_natCast]
   ·have hs0 : F7 (E3 []) = [] := List.length_eq_zero_iff.1 (by rw [g8]; rfl)
    simp only [B6, L7, H5, hn, hk, hlen, hlk, hs0, List.length_nil, List.flatMap_nil]
    (repeat' constructor)
theorem C19 (w : World) (m : BaH) (o : OpV) (v : Value) (now : Int) (c : CfgV) (hv : PoolBt w m v o.pool) (hpk : o.packet.size < 2 ^ 40) (hm : BaOk c m) (hw : LW false (B3 (B6 m)) w (B6 m) w) :
  Fn PR B4 13 #[.pointer (some ⟨m.b, 0, none⟩), o.val v, .int .i64 now] w (BDo w m (y5 m.st o now)) := by
 refine A3D (TW.goH (κ := false) (S := B3 (B6 m)) ?_ hw)
 unfold r9
 simp only [OpV.val]
 unfold BDo
 generalize hS : B3 (B6 m) = S at *
 have hc1 : v.cells.size = 1 := by rw [hv.form.1]; rfl
 by_cases k0 : o.kind = 0
 ·rw [B4n _ _ _ k0]
  (have zz:=trivial;repeat((first|clear zz|with_reducible first|refine A3 ?_|refine A5 fun _=>?_|refine A4 fun _=>?_);try simp(disch:=first|omega|assumption|((repeat(first|exact A1|exact uH|apply A2|apply uT));first|done|fail)|(simp;first|done|omega|fail))[k0]))
  refine D4 (Hc := B6 m) Y1 (fun w' hw' hs => A6g w' m o.packet now c hpk hm hs) (by simp only [B6]; (repeat' constructor)) ?_
  rintro m' _ ⟨rfl, hb, hst⟩
  simp only [B6, L7, H5, List.cons_append, List.nil_append]
  (have zz:=trivial;repeat((first|clear zz|with_reducible first|refine A3 ?_|refine A5 fun _=>?_|refine A4 fun _=>?_);try simp(disch:=first|omega|assumption|((repeat(first|exact A1|exact uH|apply A2|apply uT));first|done|fail)|(simp;first|done|omega|fail))[AnsV.val]))
  refine C4 m' ⟨by simp [AnsV.val], hb, hst⟩ ?_
  simp only [B6, L7, H5]
  (repeat' constructor)
 by_cases k1 : o.kind = 1
 ·rw [B7v _ _ _ k1]
  (have zz:=trivial;repeat((first|clear zz|with_reducible first|refine A3 ?_|refine A5 fun _=>?_|refine A4 fun _=>?_);try simp(disch:=first|omega|assumption|((repeat(first|exact A1|exact uH|apply A2|apply uT));first|done|fail)|(simp;first|done|omega|fail))[k0, k1]))
  refine D4 (Hc := B6 m) e6 (fun w' hw' hs => A8j w' m o.pool v ⟨hv.at (by rw [hS]; exact hw'.ks), hv.off, hv.len, hv.form⟩ hs) (by simp only [B6]; (repeat' constructor)) ?_
  rintro m' _ ⟨rfl, hb, hst⟩
  simp only [B6, L7, H5, List.cons_append, List.nil_append]
  (have zz:=trivial;repeat((first|clear zz|with_reducible first|refine A3 ?_|refine A5 fun _=>?_|refine A4 fun _=>?_);try simp(disch:=first|omega|assumption|((repeat(first|exact A1|exact uH|apply A2|apply uT));first|done|fail)|(simp;first|done|omega|fail))[AnsV.val]))
  refine C4 m' ⟨by simp [AnsV.val], hb, hst⟩ ?_
  simp only [B6, L7, H5]
  (repeat' constructor)
 by_cases k2 : o.kind = 2
 ·rw [B63 _ _ _ k2]
  (have zz:=trivial;repeat((first|clear zz|with_reducible first|refine A3 ?_|refine A5 fun _=>?_|refine A4 fun _=>?_);try simp(disch:=first|omega|assumption|((repeat(first|exact A1|exact uH|apply A2|apply uT));first|done|fail)|(simp;first|done|omega|fail))[k0, k1, k2]))
  refine D4 (Hc := B6 m) e7 (fun w' hw' hs => A9U w' m o.shard now c hm hs) (by simp only [B6]; (repeat' constructor)) ?_
  rintro m' _ ⟨rfl, hb, hst⟩
  simp only [B6, L7, H5, List.cons_append, List.nil_append]
  (have zz:=trivial;repeat((first|clear zz|with_reducible first|refine A3 ?_|refine A5 fun _=>?_|refine A4 fun _=>?_);try simp(disch:=first|omega|assumption|((repeat(first|exact A1|exact uH|apply A2|apply uT));first|done|fail)|(simp;first|done|omega|fail))[AnsV.val]))
  refine C4 m' ⟨by simp [AnsV.val], hb, hst⟩ ?_
  simp only [B6, L7, H5]
  (repeat' constructor)
 by_cases k3 : o.kind = 3
 ·rw [C1Q _ _ _ k3]
  (have zz:=trivial;repeat((first|clear zz|with_reducible first|refine A3 ?_|refine A5 fun _=>?_|refine A4 fun _=>?_);try simp(disch:=first|omega|assumption|((repeat(first|exact A1|exact uH|apply A2|apply uT));first|done|fail)|(simp;first|done|omega|fail))[k0, k1, k2, k3]))
  refine D4 (Hc := B6 m) j1 (fun w' hw' hs => B0x w' m c hm hs) (by simp only [B6]; (repeat' constructor)) ?_
  rintro m' _ ⟨rfl, hb, hst⟩
  simp only [B6, L7, H5, List.cons_append, List.nil_append]
  (have zz:=trivial;repeat((first|clear zz|with_reducible first|refine A3 ?_|refine A5 fun _=>?_|refine A4 fun _=>?_);try simp(disch:=first|omega|assumption|((repeat(first|exact A1|exact uH|apply A2|apply uT));first|done|fail)|(simp;first|done|omega|fail))[AnsV.val]))
  refine C4 m' ⟨by simp [AnsV.val], hb, hst⟩ ?_
  simp only [B6, L7, H5]
  (repeat' constructor)
 ·rw [B4k _ _ _ (by omega)]
  simp only [B6, L7, H5]
  (have zz:=trivial;repeat((first|clear zz|with_reducible first|refine A3 ?_|refine A5 fun _=>?_|refine A4 fun _=>?_);try simp(disch:=first|omega|assumption|((repeat(first|exact A1|exact uH|apply A2|apply uT));first|done|fail)|(simp;first|done|omega|fail))[k0, k1, k2, k3]))
  refine C4 m ⟨by simp [AnsV.val], rfl, rfl⟩ ?_
  try simp only [B6, L7, H5]
  (repeat' constructor)
end Go.Proofs.YtpbmephflllolaaGreat
namespace Go.Proofs.YtpbmephflllolaaGreat
open Go
section
variable {S : List Nat} {w0 w : World} {H Hk : List Res} {K : Value → WP}
theorem B6E {m : BaH} : PoolBt w m (.slice none 0 0) [] := ⟨Or.inl ⟨rfl, rfl, none, 0, rfl⟩, fun h => by simp at h, by simp, rfl, rfl⟩
theorem A9A {κ : Bool} {m : BaH} {v : Value} {p : List D7} {e : TypeId} (hw : LW κ S w0 (B6 m ++ Hk) w) (hm : Res.own e 2 v p.length (p.flatMap D5) ∈ Hk) (hl : p.length ≤ 1000) : PoolBt w m v p := by
 have h := hw.hold _ (List.mem_append_right _ hm)
 obtain ⟨a, c, e⟩ := M4.form h
 refine ⟨M4.rd h, fun _ g hg hf => ?_, hl, by rw [e]; rfl, by rw [e]; rfl⟩
 obtain ⟨s, hs, hbs⟩ := M8.1 hf
 exact (List.pairwise_append.1 hw.dis).2.2 s hs _ hm g hbs hg
theorem A2K {κ : Bool} {m : BaH} {v : Value} {p : List D7} (hw : LW κ [] w0 (B6 m ++ Hk) w) (h : F3 w0 v p.length (p.flatMap D5)) (hl : p.length ≤ 1000) : PoolBt w m v p := by
 refine ⟨h.ks hw.ks (by simp), fun h0 g hg hf => ?_, hl, by obtain ⟨a, c, e, _⟩ := h.form; rw [e]; exact ⟨rfl, rfl⟩⟩
 have h1 := B2F h (by rw [H9 (k := 2) fun _ => rfl]; omega) h0 g hg
 obtain ⟨s, hs, hbs⟩ := M8.1 hf
 rcases (hw.own s (List.mem_append_left _ hs) g hbs).1 with h2 | h2
 ·cases h2
 ·omega
theorem B5s {m : BaH} {o : OpV} {v : Value} {now : Int} {c : CfgV} (r : MoS × AnsV) (hi : Inv c m.st) (hp : Part (B6 m) H Hk) (hpa : ∀ w, LW false S w0 (B6 m ++ Hk) w → PoolBt w m v o.pool) (hpk : o.packet.size < 2 ^ 40) (hr : y5 m.st o now = r)
  (hK : ∀ m' : BaH, m'.b = m.b → m'.st = r.1 → Inv c m'.st → TW false S w0 (B6 m' ++ Hk) (K r.2.val)) : TW false S w0 H (B2 PR B4 13 [.pointer (some ⟨m.b, 0, none⟩), o.val v, .int .i64 now] K) := by
 subst hr
 refine TW.perm ?_ hp.perm
 refine D4 (Hc := B6 m) A20 (fun w' hw hs => C19 w' m o v now c (hpa w' hw) hpk (BaOk.of hi) hs) a6 ?_
 rintro m' _ ⟨rfl, hb, hst⟩
 exact hK m' hb hst (by rw [hst]; exact hi.do' o now)
theorem B4w {m : BaH} {pk : ByteArray} {now : Int} {c : CfgV} (r : MoS × AnsV) (hi : Inv c m.st) (hp : Part (B6 m) H Hk) (hpk : pk.size < 2 ^ 40) (hr : m0 m.st pk now = r)
  (hK : ∀ m' : BaH, m'.b = m.b → m'.st = r.1 → Inv c m'.st → TW false S w0 (B6 m' ++ Hk) (K r.2.val)) : TW false S w0 H (B2 PR B4 24 [.pointer (some ⟨m.b, 0, none⟩), .string pk, .int .i64 now] K) := by
 subst hr
 refine D4 (Hc := B6 m) Y1 (fun w' hw hs => A6g w' m pk now c hpk (BaOk.of hi) hs) hp ?_
 rintro m' _ ⟨rfl, hb, hst⟩
 exact hK m' hb hst (by rw [hst, ← B4n m.st ⟨0, pk, [], 0⟩ now rfl]; exact hi.do' _ now)
theorem A8u {m : BaH} {p : List D7} {v : Value} {c : CfgV} (r : MoS × AnsV) (hi : Inv c m.st) (hp : Part (B6 m) H Hk) (hpa : ∀ w, LW false S w0 (B6 m ++ Hk) w → PoolBt w m v p) (hr : W5 m.st p = r)
  (hK : ∀ m' : BaH, m'.b = m.b → m'.st = r.1 → Inv c m'.st → TW false S w0 (B6 m' ++ Hk) (K r.2.val)) : TW false S w0 H (B2 PR B4 26 [.pointer (some ⟨m.b, 0, none⟩), v] K) := by
 subst hr
 refine TW.perm ?_ hp.perm
 refine D4 (Hc := B6 m) e6 (fun w' hw hs => A8j w' m p v (hpa w' hw) hs) a6 ?_
 rintro m' _ ⟨rfl, hb, hst⟩
 exact hK m' hb hst (by rw [hst, ← B7v m.st ⟨1, P5, p, 0⟩ 0 rfl]; exact hi.do' _ 0)
theorem B6v {m : BaH} {j now : Int} {c : CfgV} (r : MoS × AnsV) (hi : Inv c m.st) (hp : Part (B6 m) H Hk) (hr : A1r m.st j now = r)
  (hK : ∀ m' : BaH, m'.b = m.b → m'.st = r.1 → Inv c m'.st → TW false S w0 (B6 m' ++ Hk) (K r.2.val)) : TW false S w0 H (B2 PR B4 27 [.pointer (some ⟨m.b, 0, none⟩), .int .i64 j, .int .i64 now] K) := by
 subst hr
 refine D4 (Hc := B6 m) e7 (fun w' hw hs => A9U w' m j now c (BaOk.of hi) hs) hp ?_
 rintro m' _ ⟨rfl, hb, hst⟩
 exact hK m' hb hst (by rw [hst, ← B63 m.st ⟨2, P5, [], j⟩ now rfl]; exact hi.do' _ now)
theorem C0v {m : BaH} {c : CfgV} (hi : Inv c m.st) (hp : Part (B6 m) H Hk)
  (hK : ∀ m' : BaH, m'.b = m.b → m'.st = m.st → TW false S w0 (B6 m' ++ Hk) (K (A7C m.st).2.val)) : TW false S w0 H (B2 PR B4 20 [.pointer (some ⟨m.b, 0, none⟩)] K) := by
 refine D4 (Hc := B6 m) j1 (fun w' hw hs => B0x w' m c (BaOk.of hi) hs) hp ?_
 rintro m' _ ⟨rfl, hb, hst⟩
 exact hK m' hb hst
theorem B0A {m : BaH} {c : CfgV} (hi : Inv c m.st) (hp : Part (B6 m) H Hk)
  (hK : ∀ a b, TW false S w0 (.own 9 1 (.slice a (K8 m.st.tabs).length b) (K8 m.st.tabs).length ((K8 m.st.tabs).map Value.string) :: (B6 m ++ Hk)) (K (.slice a (K8 m.st.tabs).length b))) : TW false S w0 H (B2 PR B4 16 [.pointer (some ⟨m.b, 0, none⟩)] K) := by
 refine D4 (Hc := B6 m) l0 (fun w' hw hs => B19 w' m c (BaOk.of hi) hs) hp ?_
 rintro _ r rfl
 refine d9 (e := 9) (k := 1) (v := r) (q := (K8 m.st.tabs).length) (xs := (K8 m.st.tabs).map Value.string) (by simp) ?_
 rintro a b rfl
 exact hK a b
theorem C1F {m : BaH} {c : CfgV} (hi : Inv c m.st) (hp : Part (B6 m) H Hk) (hK : ∀ a b, TW false S w0 (.own 75 2 (.slice a m.pool.length b) m.pool.length (m.pool.flatMap D5) :: (B6 m ++ Hk)) (K (.slice a m.pool.length b))) : TW false S w0 H (B2 PR B4 19 [.pointer (some ⟨m.b, 0, none⟩)] K) := by
 refine D4 (Hc := B6 m) A1p (fun w' hw hs => B9E w' m (BaOk.of hi).pool hs) hp ?_
 rintro _ r rfl
 refine d9 (e := 75) (k := 2) (v := r) (q := m.pool.length) (xs := m.pool.flatMap D5) (by simp) ?_
 rintro a b rfl
 exact hK a b
theorem A4p {c : CfgV} (h0 : Z4 c = false → TW false S w0 H (K (.tuple #[.pointer none, .int .i64 1])))
  (h1 : ∀ m : BaH, Z4 c = true → m.st = ⟨c, [], A42 c⟩ → Inv c m.st → TW false S w0 (B6 m ++ H) (K (.tuple #[.pointer (some ⟨m.b, 0, none⟩), .int .i64 0]))) : TW false S w0 H (B2 PR B4 10 [c.val] K) := by
 refine M3 A7s (fun w' _ => C0n w' c) ?_
 rintro m u hm
 cases hc : Z4 c with
 | false =>
  simp only [hc, Bool.false_eq_true, if_false] at hm ⊢
  subst hm
  exact h0 hc
 | true =>
  simp only [hc, if_true] at hm ⊢
  obtain ⟨rfl, e⟩ := hm
  exact h1 m hc e (by rw [e]; exact Inv.new hc)
end
end Go.Proofs.YtpbmephflllolaaGreat
namespace Go.Proofs.YtpbmephflllolaaGreat
open Go
theorem C17 : A1r (wk2 0) 0 6 = (wk1, ⟨0, 0, false, 1⟩) := by kernel_rfl
theorem C2Z : A1r wk1 1 6 = (wk1, ⟨1, 0, false, 0⟩) := by kernel_rfl
theorem B6Q (w : World) : Fn PR B4 8 #[] w (fun v w' => v = .bool true ∧ C3 [] w w') := by
 refine Fn.pure (A27 (TW.go (κ := false) (S := []) ?_))
 unfold r7
 (have zz:=trivial;repeat((first|clear zz|with_reducible first|refine A3 ?_|refine A5 fun _=>?_|refine A4 fun _=>?_);try simp(disch:=first|omega|assumption|((repeat(first|exact A1|exact uH|apply A2|apply uT));first|done|fail)|(simp;first|done|omega|fail))[]))
 refine A4p (c := wkC) (fun h => by rw [C1m] at h; cases h) fun m _ hst hi => ?_
 (have zz:=trivial;repeat((first|clear zz|with_reducible first|refine A3 ?_|refine A5 fun _=>?_|refine A4 fun _=>?_);try simp(disch:=first|omega|assumption|((repeat(first|exact A1|exact uH|apply A2|apply uT));first|done|fail)|(simp;first|done|omega|fail))[]))
 refine A4p (c := ⟨0, 0, 0, 0, 0⟩) (fun _ => ?_) (fun _ h => by rw [C1L] at h; cases h)
 (have zz:=trivial;repeat((first|clear zz|with_reducible first|refine A3 ?_|refine A5 fun _=>?_|refine A4 fun _=>?_);try simp(disch:=first|omega|assumption|((repeat(first|exact A1|exact uH|apply A2|apply uT));first|done|fail)|(simp;first|done|omega|fail))[]))
 refine D2 B0B (fun w' _ => B2k w' wkK 0) ?_
 rw [C2E]
 (have zz:=trivial;repeat((first|clear zz|with_reducible first|refine A3 ?_|refine A5 fun _=>?_|refine A4 fun _=>?_);try simp(disch:=first|omega|assumption|((repeat(first|exact A1|exact uH|apply A2|apply uT));first|done|fail)|(simp;first|done|omega|fail))[]))
 refine B4w (wk0, ⟨11, 0, false, 0⟩) hi (by ((repeat (first | exact a6 | apply Part.skip)); first | done | fail)) B45 (by rw [hst]; exact C6b) fun m1 hb1 hst1 hi1 => ?_
 rw [← hb1]
 clear hst hi hb1
 (have zz:=trivial;repeat((first|clear zz|with_reducible first|refine A3 ?_|refine A5 fun _=>?_|refine A4 fun _=>?_|refine D0 fun _=>?_|refine C9 (hK:=fun _=>?_)|refine C6 (hK:=fun _=>?_)|refine C8 (hK:=fun _=>?_)|refine C7 (hK:=fun _=>?_)|refine D1 (hK:=fun _=>?_));try simp(disch:=first|omega|assumption|((repeat(first|exact A1|exact uH|apply A2|apply uT));first|done|fail)|(simp;first|done|omega|fail))[AnsV.val]))
 refine A8u (p := [(7, 1)]) (wk1, ⟨0, 0, false, 0⟩) hi1 (by ((repeat (first | exact a6 | apply Part.skip)); first | done | fail)) (fun _ h => A9A (p := [(7, 1)]) h A1 (by decide)) (by rw [hst1]; exact C6v) fun m2 hb2 hst2 hi2 => ?_
 rw [← hb2]
 clear hst1 hi1 hb2
 (have zz:=trivial;repeat((first|clear zz|with_reducible first|refine A3 ?_|refine A5 fun _=>?_|refine A4 fun _=>?_);try simp(disch:=first|omega|assumption|((repeat(first|exact A1|exact uH|apply A2|apply uT));first|done|fail)|(simp;first|done|omega|fail))[AnsV.val]))
 refine B4w (wk2 0, ⟨0, 7, true, 0⟩) hi2 (by ((repeat (first | exact a6 | apply Part.skip)); first | done | fail)) B45 (by rw [hst2]; exact C6q) fun m1 hb1 hst1 hi1 => ?_
 rw [← hb1]
 clear hst2 hi2 hb1
 (have zz:=trivial;repeat((first|clear zz|with_reducible first|refine A3 ?_|refine A5 fun _=>?_|refine A4 fun _=>?_);try simp(disch:=first|omega|assumption|((repeat(first|exact A1|exact uH|apply A2|apply uT));first|done|fail)|(simp;first|done|omega|fail))[AnsV.val]))
 refine C0v hi1 (by ((repeat (first | exact a6 | apply Part.skip)); first | done | fail)) fun m2 hb2 hst2 => ?_
 have hi2 : Inv wkC m2.st := by rw [hst2]; exact hi1
 rw [hst1] at hst2
 rw [← hb2, hst1, show (A7C (wk2 0)).2 = ⟨0, 0, false, 1⟩ from rfl]
 clear hst1 hi1 hb2
 (have zz:=trivial;repeat((first|clear zz|with_reducible first|refine A3 ?_|refine A5 fun _=>?_|refine A4 fun _=>?_);try simp(disch:=first|omega|assumption|((repeat(first|exact A1|exact uH|apply A2|apply uT));first|done|fail)|(simp;first|done|omega|fail))[AnsV.val]))
 refine B6v (wk1, ⟨0, 0, false, 1⟩) hi2 (by ((repeat (first | exact a6 | apply Part.skip)); first | done | fail)) (by rw [hst2]; exact C17) fun m1 hb1 hst1 hi1 => ?_
 rw [← hb1]
 clear hst2 hi2 hb1
 (have zz:=trivial;repeat((first|clear zz|with_reducible first|refine A3 ?_|refine A5 fun _=>?_|refine A4 fun _=>?_);try simp(disch:=first|omega|assumption|((repeat(first|exact A1|exact uH|apply A2|apply uT));first|done|fail)|(simp;first|done|omega|fail))[AnsV.val]))
 refine B6v (wk1, ⟨1, 0, false, 0⟩) hi1 (by ((repeat (first | exact a6 | apply Part.skip)); first | done | fail)) (by rw [hst1]; exact C2Z) fun m2 hb2 hst2 hi2 => ?_
 rw [← hb2]
 clear hst1 hi1 hb2
 simp only [B6, List.cons_append, List.nil_append]
 (have zz:=trivial;repeat((first|clear zz|with_reducible first|refine A3 ?_|refine A5 fun _=>?_|refine A4 fun _=>?_);try simp(disch:=first|omega|assumption|((repeat(first|exact A1|exact uH|apply A2|apply uT));first|done|fail)|(simp;first|done|omega|fail))[AnsV.val]))
 refine B0A hi2 (by simp only [B6]; (repeat' constructor)) fun a b => ?_
 have hlv : K8 m2.st.tabs = [] := by rw [hst2]; rfl
 simp only [hlv, B6, List.cons_append, List.nil_append]
 (have zz:=trivial;repeat((first|clear zz|with_reducible first|refine A3 ?_|refine A5 fun _=>?_|refine A4 fun _=>?_);try simp(disch:=first|omega|assumption|((repeat(first|exact A1|exact uH|apply A2|apply uT));first|done|fail)|(simp;first|done|omega|fail))[AnsV.val]))
 have hp2 : m2.pool = [(7, 1)] := congrArg MoS.pool hst2
 refine C1F hi2 (by simp only [B6]; (repeat' constructor)) fun a b => ?_
 rw [hp2]
 simp only [B6, List.cons_append, List.nil_append]
 (have zz:=trivial;repeat((first|clear zz|with_reducible first|refine A3 ?_|refine A5 fun _=>?_|refine A4 fun _=>?_);try simp(disch:=first|omega|assumption|((repeat(first|exact A1|exact uH|apply A2|apply uT));first|done|fail)|(simp;first|done|omega|fail))[AnsV.val]))
 refine B5s (o := ⟨9, P5, [], 0⟩) (wk1, ⟨1, 0, false, 0⟩) hi2 (by simp only [B6, hp2]; (repeat' constructor)) (fun _ _ => B6E) (by simp) (by rw [hst2, B4k _ _ _ (Or.inr (by decide))]) fun m1 hb1 hst1 hi1 => ?_
 (have zz:=trivial;repeat((first|clear zz|with_reducible first|refine A3 ?_|refine A5 fun _=>?_|refine A4 fun _=>?_);try simp(disch:=first|omega|assumption|((repeat(first|exact A1|exact uH|apply A2|apply uT));first|done|fail)|(simp;first|done|omega|fail))[AnsV.val]))
 exact B0 rfl
end Go.Proofs.YtpbmephflllolaaGreat
namespace Go.Proofs.YtpbmephflllolaaGreat
open Go
theorem B8u (w : World) (c : CfgV) (v : Value) (l : List ((OpV × Value) × Int)) (hn : l.length ≤ 9223372036854775807) (hv : F3 w v l.length (l.flatMap A2V)) (hp : ∀ s ∈ l, B3e s.1) :
  Fn PR B4 9 #[c.val, v] w (fun r w' => r = .bool (A5Q c (l.map (·.1.1))) ∧ C3 [] w w') := by
 refine Fn.pure (A4d (TW.go (κ := false) (S := []) ?_))
 unfold y6
 obtain ⟨a, cc, rfl, hr⟩ := hv.form
 obtain ⟨n, hnn⟩ : ∃ n, n = min l.length 13 := ⟨_, rfl⟩
 simp only [CfgV.val]
 (have zz:=trivial;repeat((first|clear zz|with_reducible first|refine A3 ?_|refine A5 fun _=>?_|refine A4 fun _=>?_);try simp(disch:=first|omega|assumption|((repeat(first|exact A1|exact uH|apply A2|apply uT));first|done|fail)|(simp;first|done|omega|fail))[]))
 rename_i bc
 refine p8 42 4 ?_
 refine n7 n (fun i (x : Option Addr × Nat) => .slice x.1 i x.2) (fun i x => [.own 42 4 (.slice x.1 i x.2) i (((l.map (·.1)).take i).flatMap m5), .pt bc (.cells #[.int .i64 c.wk, .int .i64 c.sh, .int .i64 c.cp, .int .i64 c.idle, .int .i64 c.sl] 23)]) (fun i x => True) (none, 0) trivial ?_ (by simp)
 rintro i ⟨xa, xc⟩ hi _ L hL
 by_cases hlt : i < n
 ·have hil : i < l.length := by omega
  have hx := List.getElem?_eq_getElem hil
  obtain ⟨b, o, rfl, hrow⟩ := hr (by omega)
  have h1 := hrow.partAt (f := A2V) (k := 5) (fun _ => rfl) hx 0 4 (by omega)
  rw [show ((A2V l[i]).drop 0).take 4 = m5 l[i].1 from rfl, Nat.add_zero] at h1
  have c1 : (i : Int) ≤ 12 := by omega
  have hst : ((l.map (·.1)).take (i + 1)).flatMap m5 = ((l.map (·.1)).take i).flatMap m5 ++ m5 l[i].1 := by
   rw [List.take_add_one, List.getElem?_map, hx]; simp [List.flatMap_append]
  (have zz:=trivial;repeat((first|clear zz|with_reducible first|refine A3 ?_|refine A5 fun _=>?_|refine A4 fun _=>?_|refine D0 fun _=>?_|refine C9 (hK:=fun _=>?_)|refine C6 (hK:=fun _=>?_)|refine C8 (hK:=fun _=>?_)|refine C7 (hK:=fun _=>?_)|refine D1 (hK:=fun _=>?_));try simp(disch:=first|omega|assumption|((repeat(first|exact A1|exact uH|apply A2|apply uT));first|done|fail)|(simp;first|done|omega|fail))[hil, h1, c1, m5]))
  obtain ⟨pa, pc, hpl⟩ := hp l[i] (List.getElem_mem hil)
  refine A0J (e := 42) (k := 4) (q := i) (r := 1) (xs := ((l.map (·.1)).take i).flatMap m5) (news := m5 l[i].1) (by (repeat constructor)) (N0.own (by (repeat constructor))) (by decide) rfl (by simp [m5, hpl]) (by simp only [maxLen]; omega) (by omega) fun a' c' => ?_
  (have zz:=trivial;repeat((first|clear zz|with_reducible first|refine A3 ?_|refine A5 fun _=>?_|refine A4 fun _=>?_);try simp(disch:=first|omega|assumption|((repeat(first|exact A1|exact uH|apply A2|apply uT));first|done|fail)|(simp;first|done|omega|fail))[]))
  have h2 := hL hlt (a', c') trivial
  rw [hst] at h2
  exact Sels.tw (by (repeat' constructor)) h2
 ·have hin : i = n := by omega
  have hce : (c.val : Value) = .agg #[.int .i64 c.wk, .int .i64 c.sh, .int .i64 c.cp, .int .i64 c.idle, .int .i64 c.sl] := rfl
  have hlen : (((l.map (·.1)).take i)).length = i := by simp; omega
  have hm : ((l.map (·.1)).take i).map (·.1) = (l.map (·.1.1)).take 13 := by
   rw [List.map_take, List.map_map, hin, hnn]
   by_cases h : l.length ≤ 13
   ·rw [Nat.min_eq_left h, List.take_of_length_le (by simp), List.take_of_length_le (by simp; omega)]; rfl
   ·rw [Nat.min_eq_right (by omega)]; rfl
  have hfin : p7 c = true → ∀ K : Value → WP, (∀ H : List Res, TW false [] w H (K (.bool (A5Q c (l.map (·.1.1)))))) → TW false [] w [.own 42 4 (.slice xa i xc) i (((l.map (·.1)).take i).flatMap m5), .pt bc (.cells #[.int .i64 c.wk, .int .i64 c.sh, .int .i64 c.cp, .int .i64 c.idle, .int .i64 c.sl] 23)]
    (B2 PR B4 34 [.slice xa i xc, .int .i64 12] K) := fun hs K hK => by
   refine D2 A34 (fun w' hw' => by
    have := B8Z w' (.slice xa i xc) ((l.map (·.1)).take i) 12 (by omega) (by rw [hlen]; exact N0.own (by (repeat constructor)) w' hw') fun o ho => by
     obtain ⟨s, hs, rfl⟩ := List.mem_map.1 (List.mem_of_mem_take ho)
     exact hp s hs
    exact this) ?_
   have e : A5Q c (l.map (·.1.1)) = A0j (((l.map (·.1)).take i).map (·.1)) 12 := by rw [hm, A5Q, hs]; simp
   rw [← e]; exact hK _
  by_cases hil : i < l.length
  ·have c1 : ¬ (i : Int) ≤ 12 := by omega
   (have zz:=trivial;repeat((first|clear zz|with_reducible first|refine A3 ?_|refine A5 fun _=>?_|refine A4 fun _=>?_);try simp(disch:=first|omega|assumption|((repeat(first|exact A1|exact uH|apply A2|apply uT));first|done|fail)|(simp;first|done|omega|fail))[hil, c1]))
   refine D2 p4 (fun w' _ => B29 w' c) ?_
   cases hs : p7 c with
   | true =>
    (have zz:=trivial;repeat((first|clear zz|with_reducible first|refine A3 ?_|refine A5 fun _=>?_|refine A4 fun _=>?_);try simp(disch:=first|omega|assumption|((repeat(first|exact A1|exact uH|apply A2|apply uT));first|done|fail)|(simp;first|done|omega|fail))[]))
    refine hfin hs _ fun H => ?_
    (have zz:=trivial;repeat((first|clear zz|with_reducible first|refine A3 ?_|refine A5 fun _=>?_|refine A4 fun _=>?_);try simp(disch:=first|omega|assumption|((repeat(first|exact A1|exact uH|apply A2|apply uT));first|done|fail)|(simp;first|done|omega|fail))[]))
    exact B0 rfl
   | false => (have zz:=trivial;repeat((first|clear zz|with_reducible first|refine A3 ?_|refine A5 fun _=>?_|refine A4 fun _=>?_);try simp(disch:=first|omega|assumption|((repeat(first|exact A1|exact uH|apply A2|apply uT));first|done|fail)|(simp;first|done|omega|fail))[])); exact B0 (by simp [A5Q, hs])
  ·(have zz:=trivial;repeat((first|clear zz|with_reducible first|refine A3 ?_|refine A5 fun _=>?_|refine A4 fun _=>?_);try simp(disch:=first|omega|assumption|((repeat(first|exact A1|exact uH|apply A2|apply uT));first|done|fail)|(simp;first|done|omega|fail))[hil]))
   refine D2 p4 (fun w' _ => B29 w' c) ?_
   cases hs : p7 c with
   | true =>
    (have zz:=trivial;repeat((first|clear zz|with_reducible first|refine A3 ?_|refine A5 fun _=>?_|refine A4 fun _=>?_);try simp(disch:=first|omega|assumption|((repeat(first|exact A1|exact uH|apply A2|apply uT));first|done|fail)|(simp;first|done|omega|fail))[]))
    refine hfin hs _ fun H => ?_
    (have zz:=trivial;repeat((first|clear zz|with_reducible first|refine A3 ?_|refine A5 fun _=>?_|refine A4 fun _=>?_);try simp(disch:=first|omega|assumption|((repeat(first|exact A1|exact uH|apply A2|apply uT));first|done|fail)|(simp;first|done|omega|fail))[]))
    exact B0 rfl
   | false => (have zz:=trivial;repeat((first|clear zz|with_reducible first|refine A3 ?_|refine A5 fun _=>?_|refine A4 fun _=>?_);try simp(disch:=first|omega|assumption|((repeat(first|exact A1|exact uH|apply A2|apply uT));first|done|fail)|(simp;first|done|omega|fail))[])); exact B0 (by simp [A5Q, hs])
end Go.Proofs.YtpbmephflllolaaGreat
namespace Go.Proofs.YtpbmephflllolaaGreat
open Go
abbrev B13 (b : Nat) : Value := .func (.func 119) #[] #[.pointer (some ⟨b, 0, none⟩)]
def bkA (x : D7) : List Value := [.agg #[.int .i64 x.1, .int .i64 x.2]]
theorem B69 (w : World) (v : Value) (hv : ∃ a n c, v = .slice a n c) : Fn PR B4 67 #[v] w (Rn [] w (fun b u => u = B13 b) fun b => [.pt b (.cells #[v] 32)]) := by
 obtain ⟨a, n, c, rfl⟩ := hv
 refine j3 (TW.go (κ := false) (S := []) ?_)
 unfold P3
 (have zz:=trivial;repeat((first|clear zz|with_reducible first|refine A3 ?_|refine A5 fun _=>?_|refine A4 fun _=>?_);try simp(disch:=first|omega|assumption|((repeat(first|exact A1|exact uH|apply A2|apply uT));first|done|fail)|(simp;first|done|omega|fail))[]))
 rename_i b
 exact V7 b rfl (by simp)
theorem C0s (b : Nat) (v : Value) (p : List D7) (hn : p.length ≤ 1000000) : A1F (B13 b) [.pt b (.cells #[v] 32)] (RqS v p.length (p.flatMap D5)) (p.map bkA) := by
 refine ⟨_, _, _, rfl, fun y J E hJ hE stJ stE hy w0 h0 => ?_⟩
 obtain ⟨a, c, hv, hr⟩ := (hJ _ _ _ h0).2
 subst hv
 refine d6 (d3 (TW.at (κ := true) ?_ (hJ _ _ _ h0).1))
 unfold N5
 (have zz:=trivial;repeat((first|clear zz|with_reducible first|refine A3 ?_|refine A5 fun _=>?_|refine A4 fun _=>?_);try simp(disch:=first|omega|assumption|((repeat(first|exact A1|exact uH|apply A2|apply uT));first|done|fail)|(simp;first|done|omega|fail))[]))
 refine A1Q p.length (fun i => i) (fun _ => _) hJ stJ h0 fun i a' hi hJi hRi L hL => ?_
 by_cases hlt : i < p.length
 ·obtain ⟨_, _, hv, hr⟩ := hRi
  obtain ⟨b', o, hb, hrow, hnb⟩ := hr (by omega)
  cases hv
  subst hb
  have hx := List.getElem?_eq_getElem hlt
  have h1 := hrow.at (f := D5) (k := 2) (fun _ => rfl) hx
  have hat : (p.map bkA)[i]'(by simpa using hlt) = bkA p[i] := by simp
  generalize p[i] = x at *
  rw [D5] at h1
  (have zz:=trivial;repeat((first|clear zz|with_reducible first|refine A3 ?_|refine A5 fun _=>?_|refine A4 fun _=>?_);try simp(disch:=first|omega|assumption|((repeat(first|exact A1|exact uH|apply A2|apply uT));first|done|fail)|(simp;first|done|omega|fail))[hlt, h1]))
  refine A2J hJ hE stJ hy hJi (by simpa using hlt) hat (fun w3 h => ?_) (fun w3 h => ?_)
  ·(have zz:=trivial;repeat((first|clear zz|with_reducible first|refine A3 ?_|refine A5 fun _=>?_|refine A4 fun _=>?_);try simp(disch:=first|omega|assumption|((repeat(first|exact A1|exact uH|apply A2|apply uT));first|done|fail)|(simp;first|done|omega|fail))[]))
   exact fun w' hw' => hL hlt w' (stJ _ _ _ _ _ h (hw'.sub (by simp)))
  ·(have zz:=trivial;repeat((first|clear zz|with_reducible first|refine A3 ?_|refine A5 fun _=>?_|refine A4 fun _=>?_);try simp(disch:=first|omega|assumption|((repeat(first|exact A1|exact uH|apply A2|apply uT));first|done|fail)|(simp;first|done|omega|fail))[]))
   exact A0H stE h
 ·obtain rfl : i = p.length := by omega
  (have zz:=trivial;repeat((first|clear zz|with_reducible first|refine A3 ?_|refine A5 fun _=>?_|refine A4 fun _=>?_);try simp(disch:=first|omega|assumption|((repeat(first|exact A1|exact uH|apply A2|apply uT));first|done|fail)|(simp;first|done|omega|fail))[]))
  exact A0L stJ (by simpa using hJi)
theorem B5U (w : World) (b : Nat) (v : Value) (p : List D7) (hn : p.length ≤ 1000) (hv : F3 w v p.length (p.flatMap D5)) (hS : 0 < p.length → ∀ g ∈ G0 v, g ∉ [b])
  (hw : LW false [b] w [.pt b (.cells #[v] 32)] w) :
  Fn PR B4 168 #[.slice none 0 0, B13 b] w (Rn [b] w (fun (r : Value) u => u = r) fun r => [.own 75 2 r p.length (p.flatMap D5)]) := by
 refine d7 (TW.goH (κ := false) (S := [b]) ?_ hw)
 unfold N4
 (have zz:=trivial;repeat((first|clear zz|with_reducible first|refine A3 ?_|refine A5 fun _=>?_|refine A4 fun _=>?_);try simp(disch:=first|omega|assumption|((repeat(first|exact A1|exact uH|apply A2|apply uT));first|done|fail)|(simp;first|done|omega|fail))[]))
 rename_i bt
 refine p8 75 2 ?_
 refine Sels.tw (rs := [.pt b (.cells #[v] 32), .own 75 2 (.slice none 0 0) 0 [], .pt bt (.cells #[.slice none 0 0] 32)]) (by (repeat' constructor)) ?_
 refine v6 (C0s b v p (by omega)) (by intro y hy; obtain ⟨p, _, rfl⟩ := List.mem_map.1 hy; rfl) (fun i (x : Option Addr × Nat) => True) (fun i x => [.own 75 2 (.slice x.1 i x.2) i ((p.take i).flatMap D5), .pt bt (.cells #[.slice x.1 i x.2] 32)])
  (fun c (y : Unit) => False) (fun y => []) (none, 0) trivial ?_ ?_ ?_ ?_ (by simp)
 ·intro i _ F w1 _ hw
  exact RqS.of2 hv (fun h => by rw [H9 (k := 2) fun _ => rfl]; omega) hS hw
 ·rintro i hi ⟨xa, xc⟩ F _ K' hK _
  have hi' : i < p.length := by simpa using hi
  have hst : (p.take (i + 1)).flatMap D5 = (p.take i).flatMap D5 ++ D5 p[i] := by
   rw [List.take_add_one, List.getElem?_eq_getElem hi', List.flatMap_append]; simp
  simp only [hst] at hK
  simp only [List.getElem_map]
  have hl0 : ((p.take i).flatMap D5).length = i * 2 := by rw [H9 (k := 2) fun _ => rfl, List.length_take]; congr 1; omega
  generalize p[i] = q at *
  simp only [bkA, VF.app, D5] at *
  (have zz:=trivial;repeat((first|clear zz|with_reducible first|refine A3 ?_|refine A5 fun _=>?_|refine A4 fun _=>?_|refine D0 fun _=>?_|refine C9 (hK:=fun _=>?_)|refine C6 (hK:=fun _=>?_)|refine C8 (hK:=fun _=>?_)|refine C7 (hK:=fun _=>?_)|refine D1 (hK:=fun _=>?_));try simp(disch:=first|omega|assumption|((repeat(first|exact A1|exact uH|apply A2|apply uT));first|done|fail)|(simp;first|done|omega|fail))[]))
  refine A0J (e := 75) (k := 2) (q := i) (r := 1) (xs := (p.take i).flatMap D5) (news := [.int .i64 q.1, .int .i64 q.2]) (by (repeat constructor)) (N0.own (by (repeat constructor))) (by decide) (by simp) (by simp) (by simp only [maxLen]; omega) (by omega) fun a' c' => ?_
  (have zz:=trivial;repeat((first|clear zz|with_reducible first|refine A3 ?_|refine A5 fun _=>?_|refine A4 fun _=>?_);try simp(disch:=first|omega|assumption|((repeat(first|exact A1|exact uH|apply A2|apply uT));first|done|fail)|(simp;first|done|omega|fail))[]))
  exact TW.sub (hK (a', c') trivial) (by ((try simp only [List.cons_append, List.nil_append, List.append_assoc]); (repeat (first | exact List.Sublist.refl _ | exact List.nil_sublist _ | with_reducible apply List.Sublist.cons_cons | apply List.Sublist.cons)); first | done | fail))
 ·rintro ⟨xa, xc⟩ _
  simp only [List.length_map, List.take_length]
  (have zz:=trivial;repeat((first|clear zz|with_reducible first|refine A3 ?_|refine A5 fun _=>?_|refine A4 fun _=>?_);try simp(disch:=first|omega|assumption|((repeat(first|exact A1|exact uH|apply A2|apply uT));first|done|fail)|(simp;first|done|omega|fail))[]))
  refine C4 (.slice xa p.length xc) rfl ?_
  exact Sels.cons Sel.here Sels.nil
 ·rintro _ _ h; exact h.elim
theorem B3n (w : World) (b : Nat) (v : Value) (p : List D7) (hn : p.length ≤ 1000) (hv : F3 w v p.length (p.flatMap D5)) (hS : 0 < p.length → ∀ g ∈ G0 v, g ∉ [b])
  (hw : LW false [b] w [.pt b (.cells #[v] 32)] w) :
  Fn PR B4 117 #[B13 b] w (Rn [b] w (fun (r : Value) u => u = r) fun r => [.own 75 2 r p.length (p.flatMap D5)]) := by
 refine A0m (TW.goH (κ := false) (S := [b]) ?_ hw)
 unfold c7
 refine D4 (Hc := [.pt b (.cells #[v] 32)]) Z6 (fun w' hw' hs => B5U w' b v p hn (hv.ks0 (fun h => by rw [List.length_eq_zero_iff.1 h]; rfl) hw'.ks hS) hS hs) (by (repeat' constructor)) ?_
 rintro _ r rfl
 exact C4 r rfl (by (repeat' constructor))
theorem B2Z {p : List D7} {j : Nat} {x : D7} (hj : j < p.length) : A2k (p.flatMap D5) (j * 2) [.int .i64 x.1, .int .i64 x.2] = (p.set j x).flatMap D5 := by
 have h1 := A3S (f := D5) (k := 2) (fun _ => rfl) p j x hj
 rw [← h1]; rfl
theorem B7A {p : List D7} {i j : Nat} {x y : D7} (hx : p[i]? = some x) (hy : p[j]? = some y) (hij : i ≠ j) : ((p.set i y).set j x).Perm p := by
 obtain ⟨hi, rfl⟩ := List.getElem?_eq_some_iff.1 hx
 obtain ⟨hj, rfl⟩ := List.getElem?_eq_some_iff.1 hy
 exact List.set_set_perm hi hj
def C2a (x y : D7) : Int := if x.1 < y.1 then -1 else if y.1 < x.1 then 1 else 0
theorem C08 (w : World) (x y : D7) : Fn PR B4 68 #[.agg #[.int .i64 x.1, .int .i64 x.2], .agg #[.int .i64 y.1, .int .i64 y.2]] w (fun v w' => v = .int .i64 (C2a x y) ∧ C3 [] w w') := by
 refine Fn.pure (A7W (TW.go (κ := false) (S := []) ?_))
 unfold A16
 (have zz:=trivial;repeat((first|clear zz|with_reducible first|refine A3 ?_|refine A5 fun _=>?_|refine A4 fun _=>?_);try simp(disch:=first|omega|assumption|((repeat(first|exact A1|exact uH|apply A2|apply uT));first|done|fail)|(simp;first|done|omega|fail))[]))
 refine D2 A0r (fun w' _ => (B3j w' x.1 y.1).mono fun v w2 ⟨h1, h2⟩ => ⟨h1, h2 ▸ C3.refl _ _⟩) ?_
 exact B0 rfl
abbrev B9G : Value := .func (.func 68) #[] #[]
def g9 (v : Value) (n : Nat) (q : List D7) : Res := .own 75 2 v n (q.flatMap D5)
theorem C0e (w : World) (v : Value) (p : List D7) (hn : p.length ≤ 1000) (hw : LW false (B3 [g9 v p.length p]) w [g9 v p.length p] w) :
  Fn PR B4 206 #[v, .int .i64 0, .int .i64 (p.length : Nat), B9G] w (Rn (B3 [g9 v p.length p]) w (fun (q : List D7) u => u = .tuple #[] ∧ q.Perm p) fun q => [g9 v p.length q]) := by
 refine g5 (TW.goH (κ := false) ?_ hw)
 unfold N7
 generalize B3 [g9 v p.length p] = S at *
 simp only [g9]
 refine d9 (e := 75) (k := 2) (v := v) (q := p.length) (xs := p.flatMap D5) (by (repeat constructor)) ?_
 rintro a c rfl
 (have zz:=trivial;repeat((first|clear zz|with_reducible first|refine A3 ?_|refine A5 fun _=>?_|refine A4 fun _=>?_);try simp(disch:=first|omega|assumption|((repeat(first|exact A1|exact uH|apply A2|apply uT));first|done|fail)|(simp;first|done|omega|fail))[]))
 refine B10 (fun x : Nat × List D7 => [.own 75 2 (.slice a p.length c) p.length (x.2.flatMap D5)]) (fun x => 1 ≤ x.1 ∧ x.1 ≤ p.length + 1 ∧ x.2.Perm p) (fun x => p.length + 1 - x.1) (1, p) (fun x => .int .i64 (x.1 : Nat)) ⟨Nat.le_refl _, by simp, List.Perm.refl _⟩ ?_
 rintro ⟨i, q⟩ ⟨h1, h2, hq⟩ L hL
 simp only at h1 h2 hq ⊢
 have hql := hq.length_eq
 by_cases hlt : i < p.length
 ·(have zz:=trivial;repeat((first|clear zz|with_reducible first|refine A3 ?_|refine A5 fun _=>?_|refine A4 fun _=>?_);try simp(disch:=first|omega|assumption|((repeat(first|exact A1|exact uH|apply A2|apply uT));first|done|fail)|(simp;first|done|omega|fail))[hlt]))
  refine B10 (fun x : Nat × List D7 => [.own 75 2 (.slice a p.length c) p.length (x.2.flatMap D5)]) (fun x => x.1 ≤ i ∧ x.2.Perm p) (fun x => x.1) (i, q) (fun x => .int .i64 (x.1 : Nat)) ⟨Nat.le_refl _, hq⟩ ?_
  rintro ⟨j, q'⟩ ⟨hj, hq'⟩ L3 hL3
  simp only at hj hq' ⊢
  have hql' := hq'.length_eq
  have hcont : TW false S w [.own 75 2 (.slice a p.length c) p.length (q'.flatMap D5)] (L (.int .i64 ((i : Int) + 1))) := by
   have := hL (i + 1, q') ⟨by show 1 ≤ i + 1; omega, by show i + 1 ≤ p.length + 1; omega, hq'⟩ (by show p.length + 1 - (i + 1) < p.length + 1 - i; omega)
   simpa using this
  cases j with
  | zero =>
   (have zz:=trivial;repeat((first|clear zz|with_reducible first|refine A3 ?_|refine A5 fun _=>?_|refine A4 fun _=>?_);try simp(disch:=first|omega|assumption|((repeat(first|exact A1|exact uH|apply A2|apply uT));first|done|fail)|(simp;first|done|omega|fail))[]))
   exact hcont
  | succ k =>
   have hx := List.getElem?_eq_getElem (show k + 1 < q'.length by omega)
   have hy := List.getElem?_eq_getElem (show k < q'.length by omega)
   have hsw := B7A hx hy (by omega)
   generalize q'[k + 1] = x at *
   generalize q'[k] = y at *
   have r1 := A3H (f := D5) (k := 2) (fun _ => rfl) hx
   have r2 := A3H (f := D5) (k := 2) (fun _ => rfl) hy
   rw [D5] at r1 r2
   have e : (((k + 1 : Nat) : Int) - 1) = (k : Int) := by omega
   have hk1 : k + 1 < p.length := by omega
   have hk0 : k < p.length := by omega
   refine A0Q (e := 75) (k := 2) (v := .slice a p.length c) (q := p.length) (xs := q'.flatMap D5) (by (repeat constructor)) (by omega) ?_
   rintro g gc hg
   cases hg
   (have zz:=trivial;repeat((first|clear zz|with_reducible first|refine A3 ?_|refine A5 fun _=>?_|refine A4 fun _=>?_);try simp(disch:=first|omega|assumption|((repeat(first|exact A1|exact uH|apply A2|apply uT));first|done|fail)|(simp;first|done|omega|fail))[e, hk1, hk0, r1, r2]))
   refine D2 A6F (fun w' _ => C08 w' x y) ?_
   have hpos : (0 : Int) < (k : Int) + 1 := by omega
   by_cases hc : C2a x y < 0
   ·(have zz:=trivial;repeat((first|clear zz|with_reducible first|refine A3 ?_|refine A5 fun _=>?_|refine A4 fun _=>?_);try simp(disch:=first|omega|assumption|((repeat(first|exact A1|exact uH|apply A2|apply uT));first|done|fail)|(simp;first|done|omega|fail))[hpos, hc, e, hk1, hk0, r1, r2]))
    refine A05 (by (repeat constructor)) (by simp) (by rw [H9 (k := 2) fun _ => rfl]; omega) (by simp) ?_
    rw [show (Value.agg #[.int .i64 y.1, .int .i64 y.2]).cells.toList = [.int .i64 y.1, .int .i64 y.2] from rfl, B2Z (by omega)]
    (have zz:=trivial;repeat((first|clear zz|with_reducible first|refine A3 ?_|refine A5 fun _=>?_|refine A4 fun _=>?_);try simp(disch:=first|omega|assumption|((repeat(first|exact A1|exact uH|apply A2|apply uT));first|done|fail)|(simp;first|done|omega|fail))[hpos, hc, e, hk1, hk0]))
    refine A05 (by (repeat constructor)) (by simp) (by rw [H9 (k := 2) fun _ => rfl, List.length_set]; omega) (by simp) ?_
    rw [show (Value.agg #[.int .i64 x.1, .int .i64 x.2]).cells.toList = [.int .i64 x.1, .int .i64 x.2] from rfl, B2Z (by rw [List.length_set]; omega)]
    (have zz:=trivial;repeat((first|clear zz|with_reducible first|refine A3 ?_|refine A5 fun _=>?_|refine A4 fun _=>?_);try simp(disch:=first|omega|assumption|((repeat(first|exact A1|exact uH|apply A2|apply uT));first|done|fail)|(simp;first|done|omega|fail))[hpos, hc, e, hk1, hk0]))
    exact hL3 (k, (q'.set (k + 1) y).set k x) ⟨by show k ≤ i; omega, hsw.trans hq'⟩ (by show k < k + 1; omega)
   ·(have zz:=trivial;repeat((first|clear zz|with_reducible first|refine A3 ?_|refine A5 fun _=>?_|refine A4 fun _=>?_);try simp(disch:=first|omega|assumption|((repeat(first|exact A1|exact uH|apply A2|apply uT));first|done|fail)|(simp;first|done|omega|fail))[hpos, hc]))
    exact hcont
 ·have : i = p.length ∨ i = p.length + 1 := by omega
  (have zz:=trivial;repeat((first|clear zz|with_reducible first|refine A3 ?_|refine A5 fun _=>?_|refine A4 fun _=>?_);try simp(disch:=first|omega|assumption|((repeat(first|exact A1|exact uH|apply A2|apply uT));first|done|fail)|(simp;first|done|omega|fail))[hlt]))
  exact C4 q ⟨rfl, hq⟩ (by (repeat' constructor))
theorem B9H {κ : Bool} {S : List Nat} {w0 : World} {H : List Res} {F : Value → Value → WP} {A : (Value → Value → WP) → WP} (hA : ∀ J : Value → Value → WP, J = F → TW κ S w0 H (A J)) : TW κ S w0 H (jn (n := 2) F A) := hA F rfl
theorem B8V (w : World) (v : Value) (p : List D7) (hn : p.length ≤ 19) (hw : LW false (B3 [g9 v p.length p]) w [g9 v p.length p] w) :
  Fn PR B4 169 #[v, .int .i64 (p.length : Nat), B9G] w (Rn (B3 [g9 v p.length p]) w (fun (q : List D7) u => u = .tuple #[] ∧ q.Perm p) fun q => [g9 v p.length q]) := by
 refine q5 (TW.goH (κ := false) ?_ hw)
 unfold S7
 generalize hS : B3 [g9 v p.length p] = S at *
 have h20 : ¬ (20 : Int) ≤ (p.length : Nat) := by omega
 have h21 : ¬ (20 : Int) < (p.length : Nat) := by omega
 refine B9H fun J hJ => ?_
 refine B6e (fun _ : Unit => [g9 v p.length p]) (fun _ => True) (fun _ => 0) () (fun _ => .int .i64 0) (fun _ => .int .i64 20) trivial ?_
 rintro _ _ L hL
 (have zz:=trivial;repeat((first|clear zz|with_reducible first|refine A3 ?_|refine A5 fun _=>?_|refine A4 fun _=>?_);try simp(disch:=first|omega|assumption|((repeat(first|exact A1|exact uH|apply A2|apply uT));first|done|fail)|(simp;first|done|omega|fail))[h20]))
 rw [hJ]
 refine D4 (Hc := [g9 v p.length p]) d5 (fun w' hw' hs => C0e w' v p (by omega) hs) (by (repeat' constructor)) ?_
 rintro q _ ⟨rfl, hq⟩
 refine C0A (fun _ : Unit => [g9 v p.length q]) (fun _ => True) (fun _ => 0) () (fun _ => .int .i64 0) (fun _ => .int .i64 20) (fun _ => .int .i64 20) trivial ?_
 rintro _ _ L2 hL2
 (have zz:=trivial;repeat((first|clear zz|with_reducible first|refine A3 ?_|refine A5 fun _=>?_|refine A4 fun _=>?_);try simp(disch:=first|omega|assumption|((repeat(first|exact A1|exact uH|apply A2|apply uT));first|done|fail)|(simp;first|done|omega|fail))[h21]))
 exact C4 q ⟨rfl, hq⟩ (by (repeat' constructor))
theorem B1f (w : World) (v : Value) (p : List D7) (hn : p.length ≤ 19) (hw : LW false (B3 [g9 v p.length p]) w [g9 v p.length p] w) :
  Fn PR B4 118 #[v, B9G] w (Rn (B3 [g9 v p.length p]) w (fun (q : List D7) u => u = .tuple #[] ∧ q.Perm p) fun q => [g9 v p.length q]) := by
 refine V6 (TW.goH (κ := false) ?_ hw)
 unfold L0
 generalize hS : B3 [g9 v p.length p] = S at *
 refine d9 (e := 75) (k := 2) (v := v) (q := p.length) (xs := p.flatMap D5) (by exact List.mem_cons_self ..) ?_
 rintro a c rfl
 (have zz:=trivial;repeat((first|clear zz|with_reducible first|refine A3 ?_|refine A5 fun _=>?_|refine A4 fun _=>?_);try simp(disch:=first|omega|assumption|((repeat(first|exact A1|exact uH|apply A2|apply uT));first|done|fail)|(simp;first|done|omega|fail))[]))
 refine D4 (Hc := [g9 (.slice a p.length c) p.length p]) n0 (fun w' hw' hs => B8V w' _ p hn hs) (by (repeat' constructor)) ?_
 rintro q _ ⟨rfl, hq⟩
 exact C4 q ⟨rfl, hq⟩ (by (repeat' constructor))
theorem B7b (w : World) (v : Value) (p : List D7) (hn : p.length ≤ 19) (hv : F3 w v p.length (p.flatMap D5)) :
  Fn PR B4 31 #[v] w (Rn [] w (fun (x : Value × List D7) u => u = x.1 ∧ x.2.Perm p) fun x => [g9 x.1 p.length x.2]) := by
 refine B0U (TW.go (κ := false) (S := []) ?_)
 unfold A4b
 refine M3 g6 (fun w' _ => B69 w' v (by obtain ⟨a, c, rfl, _⟩ := hv.form; exact ⟨a, _, c, rfl⟩)) ?_
 rintro b _ rfl
 have hoff : ∀ w', LW false [] w [.pt b (.cells #[v] 32)] w' → 0 < p.length → ∀ g ∈ G0 v, g ∉ [b] := fun w' hw' h0 g hg hgb => by
  have hlt := B2F hv (by rw [H9 (k := 2) fun _ => rfl]; omega) h0 g hg
  rcases (hw'.own _ A1 b (by simp [Res.foot])).1 with h | h
  ·simp at h
  ·simp at hgb; omega
 refine D4 (Hc := [.pt b (.cells #[v] 32)]) (φ := fun (x : Value × List D7) u => u = x.1 ∧ x.2.Perm p) (Hn := fun x => [g9 x.1 p.length x.2]) k8 (fun w' hw' hs => ?_) (by (repeat' constructor)) ?_
 ·have hv' := hv.ks hw'.ks (by simp)
  have ho := hoff w' hw'
  refine l3 (TW.goH (κ := false) (S := [b]) ?_ hs)
  unfold Q4
  refine D4 (Hc := [.pt b (.cells #[v] 32)]) A0S (fun w2 hw2 hs2 => B3n w2 b v p (by omega) (hv'.ks0 (fun h => by rw [List.length_eq_zero_iff.1 h]; rfl) hw2.ks ho) ho hs2) (by (repeat' constructor)) ?_
  rintro _ r rfl
  refine D4 (Hc := [g9 r p.length p]) U8 (fun w2 hw2 hs2 => B1f w2 r p hn hs2) (by simp only [g9]; (repeat' constructor)) ?_
  rintro q _ ⟨rfl, hq⟩
  exact C4 (r, q) ⟨rfl, hq⟩ (by (repeat' constructor))
 rintro x u ⟨rfl, hq⟩
 exact C4 x ⟨rfl, hq⟩ (by (repeat' constructor))
end Go.Proofs.YtpbmephflllolaaGreat
namespace Go.Proofs.YtpbmephflllolaaGreat
open Go
section
variable {p q : List D7}
theorem B5A (h : p.Perm q) (id : Int) : v8 p id < 0 ↔ v8 q id < 0 := by
 have h1 := A8Z (fun x : D7 => decide (x.1 = id)) p
 have h2 := A8Z (fun x : D7 => decide (x.1 = id)) q
 have ha : (p.any fun x => decide (x.1 = id)) = (q.any fun x => decide (x.1 = id)) := by
  rw [Bool.eq_iff_iff, List.any_eq_true, List.any_eq_true]
  exact ⟨fun ⟨x, hx, hy⟩ => ⟨x, h.mem_iff.1 hx, hy⟩, fun ⟨x, hx, hy⟩ => ⟨x, h.mem_iff.2 hx, hy⟩⟩
 unfold v8
 rw [ha] at h1
 have h3 := h1.trans h2.symm
 simp only [decide_eq_decide] at h3
 constructor <;> intro h <;> omega
theorem nil_perm (h : p.Perm q) : p = [] ↔ q = [] := ⟨fun e => by rw [e] at h; exact List.nil_perm.1 h, fun e => by rw [e] at h; exact List.perm_nil.1 h⟩
theorem A7b (h : p.Perm q) (l : List EnV) (key : ByteArray) (now : Int) : N1 l p key now = N1 l q key now := by
 unfold N1
 have := B5A h (z7 l key).bk
 by_cases c : v8 p (z7 l key).bk < 0
 ·simp [c, this.1 c]
 ·have c' : ¬ v8 q (z7 l key).bk < 0 := fun hc => c (this.2 hc)
  simp [c, c']
theorem B3r {a b : List (Nat × Int)} (h : a.Perm b) : F7 a = F7 b := by
 have tr : ∀ x y z : Nat × Int, leP x y = true → leP y z = true → leP x z = true := fun x y z h1 h2 => by
  simp only [leP, decide_eq_true_eq] at *; omega
 have tot : ∀ x y : Nat × Int, (leP x y || leP y x) = true := fun x y => by
  simp only [leP, Bool.or_eq_true, decide_eq_true_eq]; omega
 refine List.Perm.eq_of_pairwise (le := fun a b => leP a b = true) (fun x y _ _ h1 h2 => ?_) (List.pairwise_mergeSort tr tot a) (List.pairwise_mergeSort tr tot b) (((List.mergeSort_perm a leP).trans h).trans (List.mergeSort_perm b leP).symm)
 simp only [leP, decide_eq_true_eq] at h1 h2
 exact Prod.ext (by omega) (by omega)
theorem B5V (h : p.Perm q) (x : Nat) : A2G p x = A2G q x := by
 unfold A2G
 rw [B3r (show (E3 p).Perm (E3 q) from h.flatMap_right _)]
theorem B6U (h : p.Perm q) (l : List EnV) (key : ByteArray) (now : Int) : V9 l p key now = V9 l q key now := by
 unfold V9; rw [A7b h, B5V h]
theorem B2d (h : p.Perm q) (l : List EnV) (key : ByteArray) (cl : Bool) (now idle : Int) : F8 l p key cl now idle = F8 l q key cl now idle := by
 unfold F8 A8M
 rw [A7b h, B6U h]
 by_cases c : p = []
 ·have c2 := (nil_perm h).1 c
  subst c; subst c2; rfl
 ·have c2 : ¬ q = [] := fun e => c ((nil_perm h).2 e)
  simp only [c, c2]
theorem B3z (h : p.Perm q) : P0 p = P0 q := by
 have e : m8 p = m8 q := by
  rw [Bool.eq_iff_iff, A0c, A0c]
  refine and_congr ⟨fun hh b hb => hh b (h.mem_iff.2 hb), fun hh b hb => hh b (h.mem_iff.1 hb)⟩ (h.pairwise_iff fun {a b} hab => Ne.symm hab)
 unfold P0
 rw [e, h.length_eq]
end
def Sim (s t : MoS) : Prop := s.c = t.c ∧ s.tabs = t.tabs ∧ s.pool.Perm t.pool
theorem Sim.refl (s : MoS) : Sim s s := ⟨rfl, rfl, List.Perm.refl _⟩
theorem Sim.do' {s t : MoS} (h : Sim s t) (o : OpV) (now : Int) : (y5 s o now).2 = (y5 t o now).2 ∧ Sim (y5 s o now).1 (y5 t o now).1 := by
 obtain ⟨sc, sp, st⟩ := s
 obtain ⟨tc, tp, tt⟩ := t
 obtain ⟨h1, h2, h3⟩ := h
 simp only at h1 h2 h3
 subst h1; subst h2
 unfold y5
 split
 ·unfold m0
  simp only
  split
  ·exact ⟨rfl, rfl, rfl, h3⟩
  ·rw [B2d h3]; exact ⟨rfl, rfl, rfl, h3⟩
 split
 ·unfold W5
  split
  ·exact ⟨rfl, rfl, rfl, List.Perm.refl _⟩
  ·exact ⟨rfl, rfl, rfl, h3⟩
 split
 ·unfold A1r
  simp only
  split
  ·exact ⟨rfl, rfl, rfl, h3⟩
  ·exact ⟨rfl, rfl, rfl, h3⟩
 split
 ·exact ⟨rfl, rfl, rfl, h3⟩
 ·exact ⟨rfl, rfl, rfl, h3⟩
end Go.Proofs.YtpbmephflllolaaGreat
namespace Go.Proofs.YtpbmephflllolaaGreat
open Go
end Go.Proofs.YtpbmephflllolaaGreat
namespace Go.Proofs.YtpbmephflllolaaGreat
open Go
theorem Inv.liveK_le {c : CfgV} {s : MoS} (hi : Inv c s) : (K8 s.tabs).length ≤ 1000000 := by
 have hb := A0Z hi.ok
 have hsh := hi.sh
 have := Go.Proofs.YtpbmephflllolaaGreat.liveK_le (tabs := s.tabs) fun t ht => by have h := hi.tab t ht; have h1 := h.len; have h2 := h.few; omega
 omega
end Go.Proofs.YtpbmephflllolaaGreat
namespace Go.Proofs.YtpbmephflllolaaGreat
open Go
def W2 (X : Nat → Prop) (t0 t1 t2 : Value) (R : Value → WP) : WP :=
 B1 PR X (Instr.box 23 t0) fun t3 =>
 B2 PR X 8 [] fun t17 =>
 jn (n := 1) (fun t6 =>
 jn (n := 1) (fun t6_1 =>
 A6 PR (Instr.loadAt 23 t3) fun t31 =>
 B2 PR X 10 [t31] fun t32 =>
 A0 PR (Instr.extract t32 0) fun t33 =>
 A0 PR (Instr.extract t32 1) fun t34 =>
 A6 PR (Instr.loadAt 23 t3) fun t36 =>
 B2 PR X 10 [t36] fun t37 =>
 A0 PR (Instr.extract t37 0) fun t38 =>
 A0 PR (Instr.extract t37 1) fun t39 =>
 jn (n := 1) (fun t6_2 =>
 B2 PR X 26 [t33, t1] fun t66 =>
 B2 PR X 26 [t38, t1] fun t69 =>
 B2 PR X 31 [t1] fun t72 =>
 B2 PR X 26 [t38, t72] fun t73 =>
 B1 PR X (Instr.alloc 39 true (.tuple #[])) fun t12 =>
 B1 PR X (Instr.alloc 39 true (.tuple #[])) fun t13 =>
 B1 PR X (Instr.alloc 39 true (.tuple #[])) fun t14 =>
 B9 PR X (Instr.storeAt 39 t12 t66) <|
 B9 PR X (Instr.storeAt 39 t13 t69) <|
 B9 PR X (Instr.storeAt 39 t14 t73) <|
 jn (n := 1) (fun t6_3 =>
 jn (n := 2) (fun t6_4 t15 =>
 B2 PR X 16 [t33] fun t121 =>
 B2 PR X 16 [t38] fun t123 =>
 B2 PR X 15 [t121, t123] fun t124 =>
 gj t17 true (fun J => J t124) fun t127 =>
 A0 PR (do pure (if ← asBool t17 then t127 else (.bool false))) fun t128 =>
 R t128) fun J1 =>
 lp (n := 2) (fun L2 t6_5 t15_1 =>
 jn (n := 0) (
 jn (n := 1) (fun t6_6 =>
 A0 PR (binOp .add 3 t15_1 (.int .i64 1)) fun t94 =>
 L2 t6_6 t94) fun J3 =>
 drw <|
 A0 PR (Instr.indexAt 24 t2 t15_1) fun t98 =>
 A0 PR (Instr.fieldAt 44 t98 0) fun t99 =>
 A6 PR (Instr.loadAt 42 t99) fun t100 =>
 A0 PR (Instr.indexAt 24 t2 t15_1) fun t103 =>
 A0 PR (Instr.fieldAt 44 t103 1) fun t104 =>
 A6 PR (Instr.loadAt 3 t104) fun t105 =>
 A0 PR (Instr.indexAt 24 t2 t15_1) fun t110 =>
 A0 PR (Instr.fieldAt 44 t110 0) fun t111 =>
 A6 PR (Instr.loadAt 42 t111) fun t112 =>
 A0 PR (Instr.indexAt 24 t2 t15_1) fun t115 =>
 A0 PR (Instr.fieldAt 44 t115 1) fun t116 =>
 A6 PR (Instr.loadAt 3 t116) fun t117 =>
 B2 PR X 13 [t33, t100, t105] fun t106 =>
 watch PR [(none, (Instr.loadAt 3 t116), t117), (none, (Instr.loadAt 42 t111), t112)] <|
 B2 PR X 13 [t38, t112, t117] fun t118 =>
 A6 PR (H8 .neq 39 (.tmp 106) (.tmp 118) t106 t118) fun t119 =>
 B8 t119 (
 R (.bool false)) (
 J3 t6_5)) fun J4 =>
 A0 PR (A8 .len #[24] 0 [t2]) fun t91 =>
 A0 PR (binOp .lss 3 t15_1 t91) fun t92 =>
 B8 t92 (
 J4) (
 J1 t6_5 t15_1)) t6_3 (.int .i64 0)) fun J5 =>
 drw <|
 A6 PR (Instr.loadAt 39 t12) fun t74 =>
 A6 PR (Instr.loadAt 39 t13) fun t75 =>
 A6 PR (H8 .neq 39 (.tmp 74) (.tmp 75) t74 t75) fun t76 =>
 gj t76 false (fun J => A6 PR (Instr.loadAt 39 t12) J) fun t78 =>
 gj t76 false (fun J => A6 PR (Instr.loadAt 39 t14) J) fun t79 =>
 gj t76 false (fun J => A6 PR (H8 .neq 39 (.tmp 78) (.tmp 79) t78 t79) J) fun t80 =>
 A0 PR (do pure (if ← asBool t76 then (.bool true) else t80)) fun t81 =>
 gj t81 false (fun J => A0 PR (Instr.fieldAt 39 t12 0) J) fun t83 =>
 gj t81 false (fun J => A6 PR (Instr.loadAt 28 t83) J) fun t84 =>
 gj t81 false (fun J => J t1) fun t85 =>
 gj t81 false (fun J => B2 PR X 32 [t85] J) fun t86 =>
 watch PR [((some (t81, false)), (Instr.loadAt 28 t83), t84)] <|
 gj t81 false (fun J => A0 PR (binOp .neq 28 t84 t86) J) fun t87 =>
 A0 PR (do pure (if ← asBool t81 then (.bool true) else t87)) fun t88 =>
 B8 t88 (
 R (.bool false)) (
 J5 t6_2)) fun J6 =>
 A0 PR (binOp .neq 28 t34 (.int .i64 0)) fun t41 =>
 gj t41 false (fun J => J t39) fun t43 =>
 gj t41 false (fun J => A0 PR (binOp .neq 28 t43 (.int .i64 0)) J) fun t44 =>
 A0 PR (do pure (if ← asBool t41 then (.bool true) else t44)) fun t45 =>
 gj t45 false (fun J => J t33) fun t47 =>
 gj t45 false (fun J => A6 PR (H8 .eql 27 (.tmp 47) (.const (.pointer none)) t47 (.pointer none)) J) fun t48 =>
 A0 PR (do pure (if ← asBool t45 then (.bool true) else t48)) fun t49 =>
 gj t49 false (fun J => J t38) fun t51 =>
 gj t49 false (fun J => A6 PR (H8 .eql 27 (.tmp 51) (.const (.pointer none)) t51 (.pointer none)) J) fun t52 =>
 A0 PR (do pure (if ← asBool t49 then (.bool true) else t52)) fun t53 =>
 B8 t53 (
 gj t17 true (fun J => J t34) fun t56 =>
 gj t17 true (fun J => J t39) fun t57 =>
 gj t17 true (fun J => A0 PR (binOp .eql 28 t56 t57) J) fun t58 =>
 A0 PR (do pure (if ← asBool t17 then t58 else (.bool false))) fun t59 =>
 gj t59 true (fun J => J t34) fun t61 =>
 gj t59 true (fun J => A0 PR (binOp .neq 28 t61 (.int .i64 0)) J) fun t62 =>
 A0 PR (do pure (if ← asBool t59 then t62 else (.bool false))) fun t63 =>
 R t63) (
 J6 t6_1)) fun J7 =>
 A6 PR (Instr.loadAt 23 t3) fun t20 =>
 B2 PR X 9 [t20, t2] fun t22 =>
 A0 PR (Op.unary .not t22) fun t23 =>
 gj t23 false (fun J => J t1) fun t25 =>
 gj t23 false (fun J => A0 PR (A8 .len #[32] 0 [t25]) J) fun t26 =>
 gj t23 false (fun J => A0 PR (binOp .gtr 3 t26 (.int .i64 8)) J) fun t27 =>
 A0 PR (do pure (if ← asBool t23 then (.bool true) else t27)) fun t28 =>
 B8 t28 (
 R t17) (
 J7 t6)) fun J8 =>
 A0 PR (Op.unary .not t17) fun t19 =>
 B8 t19 (
 R (.bool false)) (
 J8 (.bool false))
theorem A0A {X : Nat → Prop} {t0 t1 t2 : Value} {R : Value → WP} {w : World} (h : W2 X t0 t1 t2 R w) : Fn PR X 7 #[t0, t1, t2] w R := C5 (args := [t0, t1, t2]) mixed Tryz.func7 (by kernel_rfl) h
end Go.Proofs.YtpbmephflllolaaGreat
namespace Go.Proofs.YtpbmephflllolaaGreat
open Go
theorem B8S {s : MoS} {p q : List D7} (h : q.Perm p) : (W5 (W5 s p).1 q).2 = (W5 s p).2 ∧ Sim (W5 s p).1 (W5 (W5 s p).1 q).1 := by
 unfold W5
 rw [B3z h]
 by_cases c : P0 p = 0
 ·simp only [c, if_true]; exact ⟨trivial, rfl, rfl, h.symm⟩
 ·simp only [c, if_false]; exact ⟨trivial, Sim.refl _⟩
set_option maxHeartbeats 1000000 in
set_option maxRecDepth 20000 in
theorem A73 (w : World) (c : CfgV) (pv lv : Value) (p : List D7) (l : List StA) (hnp : p.length ≤ 9223372036854775807) (hvp : F3 w pv p.length (p.flatMap D5)) (hn : l.length ≤ 9223372036854775807) (hv : F3 w lv l.length (l.flatMap A2V)) (hs : ∀ x ∈ l, A4n w x) :
  Fn PR B4 7 #[c.val, pv, lv] w (fun v w' => v = .bool true ∧ C3 [] w w') := by
 refine Fn.pure (A0A (TW.go (κ := false) (S := []) ?_))
 unfold W2
 obtain ⟨la, lc, rfl, hr⟩ := hv.form
 obtain ⟨qa, qc, rfl, _⟩ := hvp.form
 simp only [CfgV.val]
 (have zz:=trivial;repeat((first|clear zz|with_reducible first|refine A3 ?_|refine A5 fun _=>?_|refine A4 fun _=>?_);try simp(disch:=first|omega|assumption|((repeat(first|exact A1|exact uH|apply A2|apply uT));first|done|fail)|(simp;first|done|omega|fail))[]))
 rename_i bc
 refine D2 A21 (fun w' _ => B6Q w') ?_
 (have zz:=trivial;repeat((first|clear zz|with_reducible first|refine A3 ?_|refine A5 fun _=>?_|refine A4 fun _=>?_);try simp(disch:=first|omega|assumption|((repeat(first|exact A1|exact uH|apply A2|apply uT));first|done|fail)|(simp;first|done|omega|fail))[]))
 refine D2 A37 (fun w' hw' => B8u w' c _ l hn (hv.ks hw'.ks (by simp)) fun x hx => (hs x hx).sl) ?_
 cases hf : A5Q c (l.map (·.1.1)) with
 | false => (have zz:=trivial;repeat((first|clear zz|with_reducible first|refine A3 ?_|refine A5 fun _=>?_|refine A4 fun _=>?_);try simp(disch:=first|omega|assumption|((repeat(first|exact A1|exact uH|apply A2|apply uT));first|done|fail)|(simp;first|done|omega|fail))[])); exact B0 rfl
 | true =>
 by_cases c8 : (8 : Int) < p.length
 ·(have zz:=trivial;repeat((first|clear zz|with_reducible first|refine A3 ?_|refine A5 fun _=>?_|refine A4 fun _=>?_);try simp(disch:=first|omega|assumption|((repeat(first|exact A1|exact uH|apply A2|apply uT));first|done|fail)|(simp;first|done|omega|fail))[c8])); exact B0 rfl
 (have zz:=trivial;repeat((first|clear zz|with_reducible first|refine A3 ?_|refine A5 fun _=>?_|refine A4 fun _=>?_);try simp(disch:=first|omega|assumption|((repeat(first|exact A1|exact uH|apply A2|apply uT));first|done|fail)|(simp;first|done|omega|fail))[c8]))
 obtain ⟨hc6, hl12, hfo⟩ := B9U hf
 have hl : l.length ≤ 12 := by simpa using hl12
 cases hok : Z4 c with
 | false =>
  refine A4p (c := c) (fun _ => ?_) (fun _ h => by rw [hok] at h; cases h)
  (have zz:=trivial;repeat((first|clear zz|with_reducible first|refine A3 ?_|refine A5 fun _=>?_|refine A4 fun _=>?_);try simp(disch:=first|omega|assumption|((repeat(first|exact A1|exact uH|apply A2|apply uT));first|done|fail)|(simp;first|done|omega|fail))[]))
  refine A4p (c := c) (fun _ => ?_) (fun _ h => by rw [hok] at h; cases h)
  (have zz:=trivial;repeat((first|clear zz|with_reducible first|refine A3 ?_|refine A5 fun _=>?_|refine A4 fun _=>?_);try simp(disch:=first|omega|assumption|((repeat(first|exact A1|exact uH|apply A2|apply uT));first|done|fail)|(simp;first|done|omega|fail))[]))
  exact B0 rfl
 | true =>
 refine A4p (c := c) (fun h => by rw [hok] at h; cases h) fun m1 _ hst1 hi1 => ?_
 simp only [B6, List.cons_append, List.nil_append]
 (have zz:=trivial;repeat((first|clear zz|with_reducible first|refine A3 ?_|refine A5 fun _=>?_|refine A4 fun _=>?_);try simp(disch:=first|omega|assumption|((repeat(first|exact A1|exact uH|apply A2|apply uT));first|done|fail)|(simp;first|done|omega|fail))[]))
 refine A4p (c := c) (fun h => by rw [hok] at h; cases h) fun m2 _ hst2 hi2 => ?_
 simp only [B6, List.cons_append, List.nil_append]
 (have zz:=trivial;repeat((first|clear zz|with_reducible first|refine A3 ?_|refine A5 fun _=>?_|refine A4 fun _=>?_);try simp(disch:=first|omega|assumption|((repeat(first|exact A1|exact uH|apply A2|apply uT));first|done|fail)|(simp;first|done|omega|fail))[]))
 have hst : m2.st = m1.st := by rw [hst1, hst2]
 refine A8u (p := p) (W5 m1.st p) hi1 (by simp only [B6]; (repeat' constructor)) (fun w' hw' => A2K hw' hvp (by omega)) rfl fun x1 hxb1 hxs1 hxi1 => ?_
 simp only [B6, List.cons_append, List.nil_append]
 refine A8u (p := p) (W5 m1.st p) hi2 (by simp only [B6]; (repeat' constructor)) (fun w' hw' => A2K hw' hvp (by omega)) (by rw [hst]) fun x2 hxb2 hxs2 hxi2 => ?_
 simp only [B6, List.cons_append, List.nil_append]
 refine M3 A9D (fun w' hw' => B7b w' (.slice qa p.length qc) p (by omega) (hvp.ks hw'.ks (by simp))) ?_
 rintro ⟨_, q⟩ sv ⟨rfl, hq⟩
 simp only
 replace hq : q.Perm p := hq
 have hql : q.length = p.length := hq.length_eq
 obtain ⟨hu1, hu2⟩ := B8S (s := m1.st) hq
 rw [← hxs1] at hu1 hu2
 have hbk : g9 sv p.length q = .own 75 2 sv q.length (q.flatMap D5) := by rw [g9, hql]
 rw [hbk]
 rw [← hxb2]
 refine A8u (p := q) (W5 x1.st q) hxi2 (by simp only [B6]; (repeat' constructor)) (fun w' hw' => A9A (e := 75) hw' (by (repeat constructor)) (by omega)) (by rw [hxs2, hxs1]) fun x3 hxb3 hxs3 hxi3 => ?_
 have hsim : Sim x1.st x3.st := by rw [hxs3]; exact hu2
 have ha : (W5 x1.st q).2 = ⟨P0 p, 0, false, 0⟩ := by
  rw [hu1]; unfold W5; split
  ·rename_i h; rw [h]
  ·rfl
 have ha1 : (W5 m1.st p).2 = ⟨P0 p, 0, false, 0⟩ := by rw [← hu1]; exact ha
 rw [ha, ha1]
 simp only [B6, List.cons_append, List.nil_append]
 (have zz:=trivial;repeat((first|clear zz|with_reducible first|refine A3 ?_|refine A5 fun _=>?_|refine A4 fun _=>?_);try simp(disch:=first|omega|assumption|((repeat(first|exact A1|exact uH|apply A2|apply uT));first|done|fail)|(simp;first|done|omega|fail))[AnsV.val]))
 refine D2 A4c (fun w' hw' => A61 w' (.slice qa p.length qc) p (by omega) (hvp.ks hw'.ks (by simp))) ?_
 (have zz:=trivial;repeat((first|clear zz|with_reducible first|refine A3 ?_|refine A5 fun _=>?_|refine A4 fun _=>?_);try simp(disch:=first|omega|assumption|((repeat(first|exact A1|exact uH|apply A2|apply uT));first|done|fail)|(simp;first|done|omega|fail))[AnsV.val]))
 refine Sels.tw (rs := B6 x1 ++ (B6 x3 ++ [.pt bc (.cells #[.int .i64 c.wk, .int .i64 c.sh, .int .i64 c.cp, .int .i64 c.idle, .int .i64 c.sl] 23)])) (by simp only [B6, List.cons_append, List.nil_append]; (repeat' constructor)) ?_
 rw [← hxb1, ← hxb3]
 refine n7 l.length (fun _ _ => .bool false) (fun i (y : BaH × BaH) => B6 y.1 ++ (B6 y.2 ++ [.pt bc (.cells #[.int .i64 c.wk, .int .i64 c.sh, .int .i64 c.cp, .int .i64 c.idle, .int .i64 c.sl] 23)]))
  (fun i y => y.1.b = x1.b ∧ y.2.b = x3.b ∧ Sim y.1.st y.2.st ∧ Inv c y.1.st ∧ Inv c y.2.st) (x1, x3) ⟨rfl, rfl, hsim, hxi1, hxi3⟩ ?_
 rintro i ⟨y1, y2⟩ hil ⟨hb1, hb2, hsm, hj1, hj2⟩ L hL
 simp only at hb1 hb2 hsm hj1 hj2 ⊢
 rw [← hb1, ← hb2]
 by_cases hlt : i < l.length
 case neg =>
  obtain rfl : i = l.length := by omega
  simp only [B6, List.cons_append, List.nil_append]
  (have zz:=trivial;repeat((first|clear zz|with_reducible first|refine A3 ?_|refine A5 fun _=>?_|refine A4 fun _=>?_);try simp(disch:=first|omega|assumption|((repeat(first|exact A1|exact uH|apply A2|apply uT));first|done|fail)|(simp;first|done|omega|fail))[]))
  refine B0A hj1 (by simp only [B6]; (repeat' constructor)) fun a1 c1 => ?_
  simp only [B6, List.cons_append, List.nil_append]
  refine B0A hj2 (by simp only [B6]; (repeat' constructor)) fun a2 c2 => ?_
  rw [← hsm.2.1]
  simp only [B6, List.cons_append, List.nil_append]
  have hkle := hj1.liveK_le
  refine D2 A23 (fun w' hw' => B9Y w' _ _ (K8 y1.st.tabs) hkle (N0.own (e := 9) (k := 1) (by (repeat constructor)) w' hw') (N0.own (e := 9) (k := 1) (by (repeat constructor)) w' hw')) ?_
  (have zz:=trivial;repeat((first|clear zz|with_reducible first|refine A3 ?_|refine A5 fun _=>?_|refine A4 fun _=>?_);try simp(disch:=first|omega|assumption|((repeat(first|exact A1|exact uH|apply A2|apply uT));first|done|fail)|(simp;first|done|omega|fail))[]))
  exact B0 rfl
 have hy := List.getElem?_eq_getElem hlt
 obtain ⟨lb, lo, rfl, hrow⟩ := hr (by omega)
 obtain ⟨h1, h2⟩ := C0b hrow hy
 have hyp := hs l[i] (List.getElem_mem hlt)
 have hyo := hfo l[i].1.1 (List.mem_map_of_mem (List.getElem_mem hlt))
 generalize l[i] = y at *
 have hyp0 : F3 w y.1.2 y.1.1.pool.length (y.1.1.pool.flatMap D5) := hyp
 obtain ⟨ya, yc, hye⟩ := hyp.sl
 rw [m5] at h1
 rw [hye] at h1 hyp0
 obtain ⟨hd1, hd2⟩ := hsm.do' y.1.1 y.2
 simp only [B6, List.cons_append, List.nil_append]
 (have zz:=trivial;repeat((first|clear zz|with_reducible first|refine A3 ?_|refine A5 fun _=>?_|refine A4 fun _=>?_);try simp(disch:=first|omega|assumption|((repeat(first|exact A1|exact uH|apply A2|apply uT));first|done|fail)|(simp;first|done|omega|fail))[hlt, h1, h2]))
 refine B5s (o := y.1.1) (v := .slice ya y.1.1.pool.length yc) (now := y.2) _ hj1 (by simp only [B6]; (repeat' constructor)) (fun w' hw' => A2K hw' hyp0 (by omega)) (by omega) rfl fun z1 hbz1 hstz1 hiz1 => ?_
 simp only [B6, List.cons_append, List.nil_append]
 (have zz:=trivial;repeat((first|clear zz|with_reducible first|refine A3 ?_|refine A5 fun _=>?_|refine A4 fun _=>?_);try simp(disch:=first|omega|assumption|((repeat(first|exact A1|exact uH|apply A2|apply uT));first|done|fail)|(simp;first|done|omega|fail))[hlt, h1, h2]))
 refine B5s (o := y.1.1) (v := .slice ya y.1.1.pool.length yc) (now := y.2) _ hj2 (by simp only [B6]; (repeat' constructor)) (fun w' hw' => A2K hw' hyp0 (by omega)) (by omega) rfl fun z2 hbz2 hstz2 hiz2 => ?_
 rw [hd1]
 simp only [B6, List.cons_append, List.nil_append]
 (have zz:=trivial;repeat((first|clear zz|with_reducible first|refine A3 ?_|refine A5 fun _=>?_|refine A4 fun _=>?_);try simp(disch:=first|omega|assumption|((repeat(first|exact A1|exact uH|apply A2|apply uT));first|done|fail)|(simp;first|done|omega|fail))[AnsV.val]))
 refine Sels.tw ?_ (hL hlt (z1, z2) ⟨hbz1.trans hb1, hbz2.trans hb2, by rw [hstz1, hstz2]; exact hd2, hiz1, hiz2⟩)
 simp only [B6, List.cons_append, List.nil_append]
 (repeat' constructor)
end Go.Proofs.YtpbmephflllolaaGreat
