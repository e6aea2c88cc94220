/- vc is sound for the machine (2): code, ranges over functions, functions. No hypothesis but that the program follows mixed orders. -/
import Derived.Test.YtcgiobkfgnclcaaSound
namespace Go.Proofs.Ytcgiobkfgnclcaa
open Go

def Post (n : Nat) (k : Env → WP) (x : Kont) : Ex → Act → World → Prop
  | .nrm, a, w => ∃ e, Env.Ok n e a ∧ k e w
  | .exit i, a, w => ∃ e, Env.Ok n e a ∧ x.exit i e w
  | .ret, a, w => ∃ e, Env.Ok n e a ∧ x.ret e w
  | .goto _, _, _ => False

/-- slots that are not in ds are as they were -/
def Same (ds : List Nat) (a a' : Act) : Prop := ∀ t, t ∉ ds → a'.tmps[t]? = a.tmps[t]?
theorem Same.refl (ds : List Nat) (a : Act) : Same ds a a := fun _ _ => rfl
theorem Same.trans {ds es : List Nat} {a b c : Act} (h : Same ds a b) (h' : Same es b c) : Same (ds ++ es) a c := fun t ht => by
  rw [h' t fun hh => ht (List.mem_append_right _ hh), h t fun hh => ht (List.mem_append_left _ hh)]
theorem Same.mono {ds es : List Nat} {a b : Act} (h : Same ds a b) (hs : ∀ t ∈ ds, t ∈ es) : Same es a b := fun t ht => h t fun hh => ht (hs t hh)

/-- what a piece of code leaves as it was -/
def Keeps (c : Code) (a a' : Act) : Prop := Same (dsts c) a a' ∧ (hasRange c = false → a'.defers = a.defers)
theorem Keeps.seq {c d : Code} {a b e : Act} (h : Keeps c a b) (h' : Keeps d b e) : Keeps (.seq c d) a e :=
  ⟨Same.trans h.1 h'.1, fun hr => by
    simp only [hasRange, Bool.or_eq_false_iff] at hr
    rw [h'.2 hr.2, h.2 hr.1]⟩
theorem Keeps.seqL {c d : Code} {a b : Act} (h : Keeps c a b) : Keeps (.seq c d) a b :=
  ⟨h.1.mono fun t ht => List.mem_append_left _ ht, fun hr => by
    simp only [hasRange, Bool.or_eq_false_iff] at hr
    rw [h.2 hr.1]⟩
theorem Keeps.condL {o : Operand} {c d : Code} {a b : Act} (h : Keeps c a b) : Keeps (.cond o c d) a b :=
  ⟨h.1.mono fun t ht => List.mem_append_left _ ht, fun hr => by
    simp only [hasRange, Bool.or_eq_false_iff] at hr
    rw [h.2 hr.1]⟩
theorem Keeps.condR {o : Operand} {c d : Code} {a b : Act} (h : Keeps d a b) : Keeps (.cond o c d) a b :=
  ⟨h.1.mono fun t ht => List.mem_append_right _ ht, fun hr => by
    simp only [hasRange, Bool.or_eq_false_iff] at hr
    rw [h.2 hr.2]⟩

theorem mem_dstsOps {ops : List Oper} {o : Oper} {d : Tmp} (ho : o ∈ ops) (hd : o.dst = some d) : d ∈ dstsOps ops := by
  induction ops with
  | nil => cases ho
  | cons p ops ih =>
    simp only [dstsOps]
    rcases List.mem_cons.1 ho with rfl | ho
    · rw [hd]; exact List.mem_cons_self ..
    · cases p.dst with
      | none => exact ih ho
      | some e => exact List.mem_cons_of_mem _ (ih ho)

theorem same_put {ops : Array Oper} {i : Nat} {o : Oper} (ho : ops[i]? = some o) (a : Act) (v : Value) : Same (dstsOps ops.toList) a (a.put o.dst v) := by
  intro t ht
  cases hd : o.dst with
  | none => rfl
  | some d =>
    have : d ∈ dstsOps ops.toList := mem_dstsOps (by simpa using Array.mem_of_getElem? ho) hd
    have hne : d ≠ t := fun h => ht (h ▸ this)
    simp [Act.put, Array.getElem?_setIfInBounds_ne hne]

theorem opDo_same {P : Program} {X : Nat → Prop} {ro : Option Nat} {ops : Array Oper} {i : Nat} {K : Act → World → Prop} {a : Act} {w : World} (h : OpDo P X ro ops i K a w) :
    OpDo P X ro ops i (fun a' w' => K a' w' ∧ Same (dstsOps ops.toList) a a') a w := by
  unfold OpDo at *
  cases ho : ops[i]? with
  | none => rw [ho] at h; exact ⟨h, Same.refl _ _⟩
  | some o =>
    rw [ho] at h; simp only [] at h ⊢
    by_cases hw : Region.wanted o (yielded ops a.tmps) = true
    · rw [if_pos hw] at h ⊢; exact h.mono fun v w' hv => ⟨hv, same_put ho a v⟩
    · rw [if_neg hw] at h ⊢; exact ⟨h, same_put ho a _⟩

theorem regOps_mono {P : Program} {X : Nat → Prop} {ro : Option Nat} {ops : Array Oper} {Q Q' : Act → World → Prop} (hq : ∀ a w, Q a w → Q' a w) : ∀ (l : List Nat) (a : Act) (w : World),
    RegOps P X ro ops Q l a w → RegOps P X ro ops Q' l a w := by
  intro l
  induction l with
  | nil => exact fun a w h => hq a w h
  | cons i l ih => exact fun a w h => OpDo.mono h ih

theorem regOps_same {P : Program} {X : Nat → Prop} {ro : Option Nat} {ops : Array Oper} {Q : Act → World → Prop} : ∀ (l : List Nat) (a : Act) (w : World), RegOps P X ro ops Q l a w →
    RegOps P X ro ops (fun a' w' => Q a' w' ∧ Same (dstsOps ops.toList) a a') l a w := by
  intro l
  induction l with
  | nil => exact fun a w h => ⟨h, Same.refl _ _⟩
  | cons i l ih =>
    intro a w h
    refine (opDo_same h).mono fun a1 w1 h1 => ?_
    refine regOps_mono ?_ l a1 w1 (ih a1 w1 h1.1)
    intro a2 w2 h2
    exact ⟨h2.1, fun t ht => by rw [h2.2 t ht, h1.2 t ht]⟩

theorem At.regionDraw' {P : Program} {X : Nat → Prop} {b : Frame} {ops : Array Oper} {a : Act} {w : World} {id : Nat} {G : Array Bool → World → Prop} {Q : Ex → Act → World → Prop} (hm : P.follows .mixedOrders = true)
    (h : AnyGo P X b.roundOf ops G (fun a w => Q .nrm a w) ops.size (Array.replicate ops.size false) a { w with drawn := w.drawn + 1 }) :
    At P X b (.region id ops true) (fun ex a' w' => Q ex a' w' ∧ Keeps (.region id ops true) a a') a w := by
  intro k cs
  have h1 := regOps_same _ _ _ (any_sound ops.size (w.tape w.drawn (.order b.fn id)) _ _ _ h)
  obtain ⟨a', w', hQ, hs, hd, st⟩ := reg_steps _ a _ h1 k cs
  refine ⟨.nrm, a', w', [], ⟨hQ.1, hQ.2, fun _ => hd⟩, (Sk.of_heap (b := { w with drawn := w.drawn + 1 }) rfl).trans hs, hd, trivial, .head stepR_region_draw ?_⟩
  simp only [Region.schedule, hm, Bool.true_or, if_true]
  exact st

theorem At.region' {P : Program} {X : Nat → Prop} {b : Frame} {ops : Array Oper} {a : Act} {w : World} {id : Nat} {Q : Ex → Act → World → Prop}
    (h : RegOps P X b.roundOf ops (fun a' w' => Q .nrm a' w' ∧ Same (dstsOps ops.toList) a a') (List.range ops.size) a w) :
    At P X b (.region id ops false) (fun ex a' w' => Q ex a' w' ∧ Keeps (.region id ops false) a a') a w := fun k cs =>
  let ⟨a', w', hQ, hs, hd, st⟩ := reg_steps _ a w h k cs
  ⟨.nrm, a', w', [], ⟨hQ.1, hQ.2, fun _ => hd⟩, hs, hd, trivial, .head stepR_region st⟩

/-- a loop, with values of one's own -/
theorem At.loopG {P : Program} {X : Nat → Prop} {b : Frame} {Q : Ex → Act → World → Prop} {c : Code} {σ : Type} (I : σ → Act → World → Prop) (μ : σ → World → Nat)
    (round : ∀ s a w, I s a w → At P X b c (Ex.then (fun a' w' => ∃ s', I s' a' w' ∧ μ s' w' < μ s w) Q) a w) {s : σ} {a : Act} {w : World} (h₀ : I s a w) : At P X b (.loop c) Q a w := by
  intro k cs
  have key : ∀ n s a w, μ s w = n → I s a w →
      ∃ e a' w' ms, Q e a' w' ∧ Sk X w w' ∧ a'.defers = ms ++ a.defers ∧ Marks w.heap.size w' ms ∧ Arr P (lone (b.atR a (.code c :: .inLoop c :: k)) cs w) b k cs e a' w' := by
    intro n
    induction n using Nat.strongRecOn with
    | _ n ih =>
      intro s a w hn hI
      obtain ⟨e, a₁, w₁, ms, hq, hk, hd, hm, harr⟩ := round s a w hI (.inLoop c :: k) cs
      cases e with
      | nrm =>
        obtain ⟨s', hI₁, hlt⟩ := hq
        obtain ⟨e₂, a₂, w₂, ms₂, hq₂, hk₂, hd₂, hm₂, harr₂⟩ := ih (μ s' w₁) (hn ▸ hlt) s' a₁ w₁ rfl hI₁
        have := marks_trans hk hd hm hk₂ hd₂ hm₂
        exact ⟨e₂, a₂, w₂, ms₂ ++ ms, hq₂, hk.trans hk₂, this.1, this.2, .of_steps (Steps.trans harr (.one stepR_inLoop)) harr₂⟩
      | exit id => exact ⟨_, a₁, w₁, ms, hq, hk, hd, hm, .pass (x := .inLoop c) rfl (by simp) harr⟩
      | goto l => exact ⟨_, a₁, w₁, ms, hq, hk, hd, hm, .pass (x := .inLoop c) rfl (by simp) harr⟩
      | ret => exact ⟨_, a₁, w₁, ms, hq, hk, hd, hm, .pass (x := .inLoop c) rfl (by simp) harr⟩
  obtain ⟨e, a', w', ms, hq, h1, h2, h3, harr⟩ := key _ s a w rfl h₀
  exact ⟨e, a', w', ms, hq, h1, h2, h3, .of_steps (.one stepR_loop) harr⟩

theorem gets_len {e : Env} : ∀ {S : List Nat} {vs : List Value}, gets e S = some vs → vs.length = S.length := by
  intro S
  induction S with
  | nil => intro vs h; cases h; rfl
  | cons t S ih =>
    intro vs h
    simp only [gets] at h
    split at h
    · rename_i v us h1 h2; cases h; simp [ih h2]
    · cases h

theorem get_append {e e' : Env} {t : Nat} : Env.get (e ++ e') t = match e.get t with | some v => some v | none => e'.get t := by
  induction e with
  | nil => rfl
  | cons p e ih =>
    obtain ⟨i, v⟩ := p
    simp only [List.cons_append, Env.get]
    cases Nat.beq i t with
    | true => rfl
    | false => exact ih

theorem get_zip {e : Env} {t : Nat} {v : Value} : ∀ {S : List Nat} {vs : List Value}, gets e S = some vs → Env.get (S.zip vs) t = some v → e.get t = some v := by
  intro S
  induction S with
  | nil => intro vs h hg; cases h; cases hg
  | cons s S ih =>
    intro vs h hg
    simp only [gets] at h
    split at h
    · rename_i u us h1 h2
      cases h
      simp only [List.zip_cons_cons, Env.get] at hg
      cases hb : Nat.beq s t with
      | true => rw [hb] at hg; cases hg; rw [← Nat.eq_of_beq_eq_true hb]; exact h1
      | false => rw [hb] at hg; exact ih h2 hg
    · cases h

theorem get_without {e : Env} {ds : List Nat} {t : Nat} {v : Value} (h : (without e ds).get t = some v) : e.get t = some v ∧ t ∉ ds := by
  induction e with
  | nil => cases h
  | cons p e ih =>
    obtain ⟨i, u⟩ := p
    simp only [without, List.filter_cons] at h
    cases hd : ds.elem i with
    | true =>
      simp only [hd] at h
      obtain ⟨h1, h2⟩ := ih h
      refine ⟨?_, h2⟩
      simp only [Env.get]
      cases hb : Nat.beq i t with
      | true => exact absurd (by rw [← Nat.eq_of_beq_eq_true hb]; simpa using hd) h2
      | false => exact h1
    | false =>
      simp only [hd] at h
      simp only [Env.get]
      simp only [Bool.not_false, ↓reduceIte, Env.get] at h
      cases hb : Nat.beq i t with
      | true =>
        rw [hb] at h; cases h
        exact ⟨rfl, by rw [← Nat.eq_of_beq_eq_true hb]; simpa using hd⟩
      | false => rw [hb] at h; exact ih h

theorem Ok.join {n : Nat} {e e' : Env} {a a' : Act} {S : List Nat} {vs : List Value} {ds : List Nat} (he : e.Ok n a) (he' : e'.Ok n a') (hs : Same ds a a') (hv : gets e' S = some vs) :
    Env.Ok n (S.zip vs ++ without e ds) a' := by
  refine ⟨he'.1, fun t v ht hg => ?_⟩
  rw [get_append] at hg
  cases hz : Env.get (S.zip vs) t with
  | some u => rw [hz] at hg; cases hg; exact he'.2 t v ht (get_zip hv hz)
  | none =>
    rw [hz] at hg
    obtain ⟨h1, h2⟩ := get_without hg
    rw [hs t h2]; exact he.2 t v ht h1

/-! ### ranges over functions -/
def loopObj (b : Frame) (a : Act) (ps : Array Tmp) (asg body : Code) (r : Nat) (st : LoopState) (pend : Option Code) : Obj :=
  .loop { state := st, pending := pend, fn := b.fn, tmps := a.tmps, params := ps, assign := asg, body := body, defers := r }

theorem set_get {h : Array Obj} {l : Nat} {o o' : Obj} (hl : h[l]? = some o) : (h.setIfInBounds l o')[l]? = some o' := by
  have : l < h.size := (Array.getElem?_eq_some_iff.1 hl).1
  simp [this]
theorem loopEq_set {w : World} {l : Nat} {lo lo' : Loop} (h : w.heap[l]? = some (.loop lo)) : LoopEq w { w with heap := w.heap.setIfInBounds l (.loop lo') } := by
  refine ⟨by simp, fun r hr => ?_⟩
  by_cases hrl : l = r
  · subst hrl; exact absurd h (hr lo)
  · simp [Array.getElem?_setIfInBounds_ne hrl]
theorem calm_set {w : World} {l : Nat} {o : Obj} (h : soft w.heap[l]? = true) (ho : soft (some o) = true) : Calm w { w with heap := w.heap.setIfInBounds l o } := by
  refine Calm.soft rfl rfl fun r => ?_
  by_cases hrl : l = r
  · subst hrl
    refine Or.inr ⟨h, ?_⟩
    by_cases hlt : l < w.heap.size
    · simp [hlt, ho]
    · have : (w.heap.setIfInBounds l o)[l]? = none := by simp; omega
      rw [this]; rfl
  · exact Or.inl (by simp [Array.getElem?_setIfInBounds_ne hrl])
theorem sk_set {X : Nat → Prop} {w : World} {l : Nat} {lo lo' : Loop} (h : w.heap[l]? = some (.loop lo)) (hX : X l) : Sk X w { w with heap := w.heap.setIfInBounds l (.loop lo') } := by
  refine ⟨by simp, fun r d hr => ?_, fun r lo2 hx hr => ?_, calm_set (by rw [h]; rfl) rfl⟩
  · by_cases hrl : l = r
    · subst hrl; rw [h] at hr; cases hr
    · simpa [Array.getElem?_setIfInBounds_ne hrl] using hr
  · by_cases hrl : l = r
    · subst hrl; exact absurd hX hx
    · simpa [Array.getElem?_setIfInBounds_ne hrl] using hr

theorem run_getLoop {P : Program} {w : World} {l : Nat} {lo : Loop} (h : w.heap[l]? = some (.loop lo)) : (Instr.getLoop l).run P w = .ok lo w := by
  simp [Instr.getLoop, getObj, Sem.run, h]
theorem run_setLoop {P : Program} {w : World} {l : Nat} {lo lo' : Loop} (h : w.heap[l]? = some (.loop lo)) :
    (setObj l (.loop lo')).run P w = .ok () { w with heap := w.heap.setIfInBounds l (.loop lo') } := by
  simp [setObj, Sem.run, h]

theorem run_beginRound {P : Program} {w : World} {l : Nat} {lo : Loop} (h : w.heap[l]? = some (.loop lo)) (hs : lo.state = .ready) :
    (Instr.beginRound l).run P w = .ok () { w with heap := w.heap.setIfInBounds l (.loop { lo with state := .busy }) } := by
  simp [Instr.beginRound, run_getLoop h, run_setLoop h, hs]
theorem run_endRound {P : Program} {w : World} {l : Nat} {lo : Loop} (j : Option Code) (h : w.heap[l]? = some (.loop lo)) :
    (Instr.endRound l j).run P w = .ok (.bool j.isNone) { w with heap := w.heap.setIfInBounds l (.loop { lo with state := if j.isNone then .ready else .done, pending := j }) } := by
  simp [Instr.endRound, run_getLoop h, run_setLoop h]
theorem run_endLoop {P : Program} {w : World} {l : Nat} {lo : Loop} (h : w.heap[l]? = some (.loop lo)) (hs : lo.state ≠ .busy) :
    (Instr.endLoop l).run P w = .ok lo.pending { w with heap := w.heap.setIfInBounds l (.loop { lo with state := .exhausted }) } := by
  simp [Instr.endLoop, run_getLoop h, run_setLoop h, hs]

/-- the world in which a range has laid its block and its record -/
def entered (b : Frame) (a : Act) (ps : Array Tmp) (asg body : Code) (w : World) : World :=
  { w with heap := (w.heap.push (.deferred (some []))).push (loopObj b a ps asg body w.heap.size .ready none) }

theorem run_enterLoop {P : Program} {b : Frame} {a : Act} {ps : Array Tmp} {asg body : Code} {w : World} :
    (Instr.enterLoop b.fn a.tmps ps asg body none).run P w = .ok (w.heap.size + 1, [{ target := .collected w.heap.size, args := #[] }]) (entered b a ps asg body w) := by
  simp [Instr.enterLoop, newObj, Sem.run, entered, loopObj]

theorem entered_ext {b : Frame} {a : Act} {ps : Array Tmp} {asg body : Code} {w : World} : ExtA w (entered b a ps asg body w) := by
  refine ⟨(by simp [entered]; omega), fun r o h => ?_⟩
  have hlt : r < w.heap.size := (Array.getElem?_eq_some_iff.1 h).1
  simp only [entered]
  rw [Array.getElem?_push_lt (by simp; omega), ← Array.getElem?_eq_getElem, Array.getElem?_push_lt hlt, ← Array.getElem?_eq_getElem, h]
theorem entered_def {b : Frame} {a : Act} {ps : Array Tmp} {asg body : Code} {w : World} : (entered b a ps asg body w).heap[w.heap.size]? = some (.deferred (some [])) := by
  simp [entered, Array.getElem?_push]
theorem entered_loop {b : Frame} {a : Act} {ps : Array Tmp} {asg body : Code} {w : World} : (entered b a ps asg body w).heap[w.heap.size + 1]? = some (loopObj b a ps asg body w.heap.size .ready none) := by
  have e : (w.heap.push (Obj.deferred (some []))).size = w.heap.size + 1 := by simp
  unfold entered
  rw [← e]
  simp only [Array.getElem?_push_size]
theorem ExtA.sk {X : Nat → Prop} {w w' : World} (h : ExtA w w') (hc : Calm w w') : Sk X w w' := ⟨h.1, fun r _ => h.2 r _, fun r _ _ => h.2 r _, hc⟩
theorem entered_calm {b : Frame} {a : Act} {ps : Array Tmp} {asg body : Code} {w : World} : Calm w (entered b a ps asg body w) := by
  refine Calm.soft rfl rfl fun r => ?_
  by_cases hr : r < w.heap.size
  · exact Or.inl ((entered_ext (b := b) (a := a) (ps := ps) (asg := asg) (body := body) (w := w)).2 r _ (Array.getElem?_eq_getElem hr) |>.trans (Array.getElem?_eq_getElem hr).symm)
  · refine Or.inr ⟨by rw [Array.getElem?_eq_none (by omega)]; rfl, ?_⟩
    by_cases h1 : r = w.heap.size
    · subst h1; rw [entered_def]; rfl
    · by_cases h2 : r = w.heap.size + 1
      · subst h2; rw [entered_loop]; rfl
      · rw [Array.getElem?_eq_none (by simp [entered]; omega)]; rfl

theorem zip_fold {n : Nat} {e : Env} : ∀ {ps : List Tmp} {args : List Value} {tmps : Array Value} {ds : List Deferred}, Env.Ok n e ⟨tmps, ds⟩ → args.length = ps.length → ps.Nodup →
    Env.Ok n (ps.zip args ++ e) ⟨(ps.zip args).foldl (fun t (p : Tmp × Value) => t.setIfInBounds p.1 p.2) tmps, ds⟩ := by
  intro ps args tmps ds h hl hn
  have key : ∀ (ps : List Tmp) (args : List Value) (tmps : Array Value), tmps.size = n → args.length = ps.length → ps.Nodup →
      ((ps.zip args).foldl (fun t (p : Tmp × Value) => t.setIfInBounds p.1 p.2) tmps).size = n ∧
      (∀ t v, t < n → Env.get (ps.zip args) t = some v → ((ps.zip args).foldl (fun t (p : Tmp × Value) => t.setIfInBounds p.1 p.2) tmps)[t]? = some v) ∧
      (∀ t, t ∉ ps → ((ps.zip args).foldl (fun t (p : Tmp × Value) => t.setIfInBounds p.1 p.2) tmps)[t]? = tmps[t]?) := by
    intro ps
    induction ps with
    | nil => intro args tmps hs _ _; exact ⟨hs, (fun t v _ h => by cases h), fun _ _ => rfl⟩
    | cons p ps ih =>
      intro args tmps hs hl hn
      cases args with
      | nil => cases hl
      | cons x args =>
        simp only [List.zip_cons_cons, List.foldl_cons]
        obtain ⟨h1, h2, h3⟩ := ih args (tmps.setIfInBounds p x) (by simpa using hs) (by simpa using hl) (List.nodup_cons.1 hn).2
        refine ⟨h1, fun t v ht hg => ?_, fun t ht => ?_⟩
        · simp only [Env.get] at hg
          cases hb : Nat.beq p t with
          | true =>
            rw [hb] at hg; cases hg
            have hpt := Nat.eq_of_beq_eq_true hb
            subst hpt
            rw [h3 p (List.nodup_cons.1 hn).1]
            simp [hs, ht]
          | false => rw [hb] at hg; exact h2 t v ht hg
        · rw [h3 t fun hh => ht (List.mem_cons_of_mem _ hh), Array.getElem?_setIfInBounds_ne fun (hh : p = t) => ht (by rw [hh]; exact List.mem_cons_self ..)]
  obtain ⟨h1, h2, h3⟩ := key ps args tmps h.1 hl hn
  refine ⟨h1, fun t v ht hg => ?_⟩
  rw [get_append] at hg
  cases hz : Env.get (ps.zip args) t with
  | some u => rw [hz] at hg; cases hg; exact h2 t v ht hz
  | none =>
    rw [hz] at hg
    have : t ∉ ps := by
      intro hm
      have : ∀ (ps : List Tmp) (args : List Value), args.length = ps.length → t ∈ ps → ∃ v, Env.get (ps.zip args) t = some v := by
        intro ps
        induction ps with
        | nil => intro _ _ h; cases h
        | cons p ps ih =>
          intro args hl hm
          cases args with
          | nil => cases hl
          | cons x args =>
            simp only [List.zip_cons_cons, Env.get]
            cases hb : Nat.beq p t with
            | true => exact ⟨x, rfl⟩
            | false =>
              rcases List.mem_cons.1 hm with rfl | hm
              · have := Nat.beq_refl t; rw [hb] at this; cases this
              · exact ih args (by simpa using hl) hm
      obtain ⟨v, hv⟩ := this ps args hl hm
      rw [hz] at hv; cases hv
    have := h3 t this
    simp only [] at this ⊢
    rw [this]; exact h.2 t v ht hg

/-- What the theorem says of one piece of code. -/
def Sound (P : Program) (n : Nat) (c : Code) : Prop :=
  ∀ (X : Nat → Prop) (b : Frame) (rd : Bool) (e : Env) (k : Env → WP) (x : Kont) (a : Act) (w : World), b.kind = .normal → (rd = false → b.roundOf = none) → e.Ok n a → vc P X n rd c e k x w →
    At P X b c (fun ex a' w' => Post n k x ex a' w' ∧ Keeps c a a') a w

theorem sound_region {P : Program} {n : Nat} (hm : P.follows .mixedOrders = true) (id : Nat) (ops : Array Oper) (draw : Bool) : Sound P n (.region id ops draw) := by
  intro X b rd e k x a w _ _ hok h
  cases draw with
  | false =>
    have h1 := ops_go (ro := b.roundOf) ops.toList 0 rfl e a w hok h
    rw [← List.range_eq_range'] at h1
    have h2 := regOps_same _ _ _ h1
    refine At.region' (Q := Post n k x) ?_
    have e1 : ops.toList.length = ops.size := by simp
    rw [e1] at h2
    exact h2
  | true =>
    simp only [vc] at h
    cases hs : Region.noSelect ops with
    | false => rw [hs] at h; exact h.elim
    | true =>
      rw [hs] at h
      exact At.regionDraw' (Q := Post n k x) hm (draw_start hs hok h)

theorem sound_seq {P : Program} {n : Nat} {c d : Code} (hc : Sound P n c) (hd : Sound P n d) : Sound P n (.seq c d) := by
  intro X b rd e k x a w hk hr hok h
  refine At.seq ?_
  simp only [vc] at h
  cases hst : straight c with
  | true =>
    rw [hst] at h
    refine (hc X b rd e _ x a w hk hr hok h).mono fun ex a1 w1 hq => ?_
    cases ex with
    | nrm =>
      obtain ⟨⟨e1, hok1, h1⟩, hs1⟩ := hq
      exact (hd X b rd e1 k x a1 w1 hk hr hok1 h1).mono fun ex a2 w2 hq2 => ⟨hq2.1, hs1.seq hq2.2⟩
    | exit i => exact ⟨hq.1, hq.2.seqL⟩
    | ret => exact ⟨hq.1, hq.2.seqL⟩
    | goto l => exact hq.1.elim
  | false =>
    rw [hst] at h
    refine (hc X b rd e _ x a w hk hr hok h).mono fun ex a1 w1 hq => ?_
    cases ex with
    | nrm =>
      obtain ⟨⟨e1, hok1, h1⟩, hs1⟩ := hq
      obtain ⟨vs, hv, h2⟩ := wl_some h1
      rw [VF.app_lam _ _ _ _ (gets_len hv)] at h2
      exact (hd X b rd _ k x a1 w1 hk hr (Ok.join hok hok1 hs1.1 hv) h2).mono fun ex a2 w2 hq2 => ⟨hq2.1, hs1.seq hq2.2⟩
    | exit i => exact ⟨hq.1, hq.2.seqL⟩
    | ret => exact ⟨hq.1, hq.2.seqL⟩
    | goto l => exact hq.1.elim

theorem sound_cond {P : Program} {n : Nat} {o : Operand} {c d : Code} (hc : Sound P n c) (hd : Sound P n d) : Sound P n (.cond o c d) := by
  intro X b rd e k x a w hk hr hok h
  obtain ⟨v, hv, h1⟩ := w1_some h
  have he := ev_ok hok hv
  rcases h1 with ⟨rfl, h1⟩ | ⟨rfl, h1⟩
  · exact At.cond he ((hc X b rd e k x a w hk hr hok h1).mono fun ex a1 w1 hq => ⟨hq.1, hq.2.condL⟩)
  · exact At.cond he ((hd X b rd e k x a w hk hr hok h1).mono fun ex a1 w1 hq => ⟨hq.1, hq.2.condR⟩)

theorem sound_block {P : Program} {n : Nat} {i : Nat} {c : Code} (hc : Sound P n c) : Sound P n (.block i c) := by
  intro X b rd e k x a w hk hr hok h
  refine At.block ((hc X b rd e k _ a w hk hr hok h).mono fun ex a1 w1 hq => ?_)
  obtain ⟨hq, hs⟩ := hq
  cases ex with
  | nrm => exact ⟨hq, hs⟩
  | exit j =>
    obtain ⟨e1, hok1, h1⟩ := hq
    simp only [Ex.inBlock]
    by_cases hji : j = i
    · rw [if_pos hji]
      have : Nat.beq j i = true := by rw [hji]; exact Nat.beq_refl i
      simp only [this] at h1
      exact ⟨⟨e1, hok1, h1⟩, hs⟩
    · rw [if_neg hji]
      have : Nat.beq j i = false := by
        cases hb : Nat.beq j i with
        | false => rfl
        | true => exact absurd (Nat.eq_of_beq_eq_true hb) hji
      simp only [this] at h1
      exact ⟨⟨e1, hok1, h1⟩, hs⟩
  | ret => exact ⟨hq, hs⟩
  | goto l => exact hq.elim

theorem sound_scope {P : Program} {n : Nat} {c : Code} (hc : Sound P n c) : Sound P n (.scope c) := by
  intro X b rd e k x a w hk hr hok h
  refine At.scope ((hc X b rd e k x a w hk hr hok h).mono fun ex a1 w1 hq => ?_)
  cases ex with
  | nrm => exact hq
  | exit j => exact hq
  | ret => exact hq
  | goto l => exact hq.1.elim

theorem sound_loop {P : Program} {n : Nat} {c : Code} (hc : Sound P n c) : Sound P n (.loop c) := by
  intro X b rd e k x a w hk hr hok h
  obtain ⟨vs0, hv0, h1⟩ := wl_some h
  unfold lp at h1
  rw [VF.app_lam _ _ _ _ (gets_len hv0)] at h1
  obtain ⟨I, μ, hI, round⟩ := h1
  refine At.loopG (σ := List Value) (fun vs a' w' => vs.length = (slotsAt c e).length ∧ Env.Ok n ((slotsAt c e).zip vs ++ without e (dsts c)) a' ∧ I vs w' ∧ Keeps c a a') μ ?_
    (s := vs0) ⟨gets_len hv0, Ok.join hok hok (Same.refl _ _) hv0, hI, Same.refl _ _, fun _ => rfl⟩
  rintro vs a1 w1 ⟨hl, hok1, hI1, hs1⟩
  have h2 := round vs w1 hl hI1
  rw [VF.app_lam _ _ _ _ hl] at h2
  refine (hc X b rd _ _ x a1 w1 hk hr hok1 h2).mono fun ex a2 w2 hq => ?_
  obtain ⟨hq, hs2⟩ := hq
  have hs : Keeps c a a2 := ⟨fun t ht => by rw [hs2.1 t ht, hs1.1 t ht], fun hr => by rw [hs2.2 hr, hs1.2 hr]⟩
  cases ex with
  | nrm =>
    obtain ⟨e2, hok2, h3⟩ := hq
    obtain ⟨vs', hv', h4⟩ := wl_some h3
    rw [VF.app_lam _ _ _ _ (gets_len hv')] at h4
    exact ⟨vs', ⟨gets_len hv', Ok.join hok hok2 hs.1 hv', h4.1, hs⟩, h4.2⟩
  | exit j => exact ⟨hq, hs⟩
  | ret => exact ⟨hq, hs⟩
  | goto l => exact hq.elim

theorem nub_nodup : ∀ l : List Nat, (nub l).Nodup ∧ ∀ x, x ∈ nub l ↔ x ∈ l := by
  intro l
  induction l with
  | nil => exact ⟨List.nodup_nil, fun _ => Iff.rfl⟩
  | cons y l ih =>
    simp only [nub]
    cases hb : (nub l).elem y with
    | true =>
      have hy : y ∈ nub l := by simpa using hb
      refine ⟨ih.1, fun x => ?_⟩
      rw [ih.2 x]
      constructor
      · exact fun h => List.mem_cons_of_mem _ h
      · intro h
        rcases List.mem_cons.1 h with rfl | h
        · exact (ih.2 _).1 hy
        · exact h
    | false =>
      have hy : y ∉ nub l := by simpa using hb
      refine ⟨List.nodup_cons.2 ⟨hy, ih.1⟩, fun x => ?_⟩
      simp only [List.mem_cons, ih.2 x]

theorem sound_range {P : Program} {n : Nat} {g : Operand} {ps : Array Tmp} {asg body : Code} (ha : Sound P n asg) (hb : Sound P n body) : Sound P n (.rangeFunc g ps asg body) := by
  intro X b rd e k x a w hk hr hok h
  simp only [vc] at h
  cases rd with
  | true => exact h.elim
  | false =>
    have hro := hr rfl
    simp only [] at h
    cases hnd : (nub ps.toList == ps.toList) with
    | false => rw [hnd] at h; exact h.elim
    | true =>
      rw [hnd] at h
      have hps : ps.toList.Nodup := by have := (nub_nodup ps.toList).1; rwa [beq_iff_eq.1 hnd] at this
      obtain ⟨gv, hgv, h⟩ := w1_some h
      obtain ⟨f, first, cap, rfl, h⟩ := h
      -- the record and its states
      have hl0 := entered_loop (b := b) (a := a) (ps := ps) (asg := asg) (body := body) (w := w)
      have hd0 := entered_def (b := b) (a := a) (ps := ps) (asg := asg) (body := body) (w := w)
      have hx0 := entered_ext (b := b) (a := a) (ps := ps) (asg := asg) (body := body) (w := w)
      have hcall := h (w.heap.size + 1) (fun j w' => w'.heap[w.heap.size + 1]? = some (loopObj b a ps asg body w.heap.size (if j.isNone then .ready else .done) j)) (entered b a ps asg body w)
        (Nat.le_succ _) (fun j w1 w2 h1 h2 => h2.2 _ _ h1) hx0 hl0 ?_
      · -- the call, and what is behind it
        intro kk cs
        obtain ⟨hent, hcalls⟩ := hcall
        have henter := stepR_rangeFunc (P := P) (b := b) (a := a) (k := kk) (cs := cs) (w := w) (g := g) (ps := ps) (assign := asg) (body := body) (l := w.heap.size + 1)
          (mark := [{ target := .collected w.heap.size, args := #[] }]) (w₁ := entered b a ps asg body w) (w₁' := entered b a ps asg body w) (w₂ := entered b a ps asg body w)
          (d := { target := .fn (.func f) cap, args := first ++ #[Value.func (.yield (w.heap.size + 1)) #[] #[]] }) (f := f) (args := (first.toList ++ [Value.func (.yield (w.heap.size + 1)) #[] #[]] ++ cap.toList).toArray)
          (by rw [hro]; exact run_enterLoop) (by
            have e1 : #[Operand.const (.func (.yield (w.heap.size + 1)) #[] #[])].map a.eval = #[Value.func (.yield (w.heap.size + 1)) #[] #[]] := by simp [Act.eval]
            simp only [resolve, e1, ev_ok hok hgv]; rfl) (by
            have := hent ((first ++ #[.func (.yield (w.heap.size + 1)) #[] #[]]) ++ cap) (entered b a ps asg body w)
            have e1 : (first.toList ++ [Value.func (.yield (w.heap.size + 1)) #[] #[]] ++ cap.toList).toArray = (first ++ #[.func (.yield (w.heap.size + 1)) #[] #[]]) ++ cap := by simp
            rw [e1]; exact this)
        obtain ⟨ee, w1, fr, ⟨v, rfl, ⟨j, hpd, hkj⟩, hsk⟩, hsteps, hfn, hleave⟩ := hcalls (b.atR { a with defers := [{ target := .collected w.heap.size, args := #[] }] ++ a.defers } (.inRangeFunc (w.heap.size + 1) :: kk) :: cs)
        have hback := step_leave_returned (cs := cs) hleave (c := b.atR { a with defers := [{ target := .collected w.heap.size, args := #[] }] ++ a.defers } (.inRangeFunc (w.heap.size + 1) :: kk))
        rw [finish_atR_inRangeFunc] at hback
        have hend := run_endLoop (P := P) hpd (by cases j <;> simp)
        have hstep := stepR_endRangeFunc (b := b) (a := { a with defers := [{ target := .collected w.heap.size, args := #[] }] ++ a.defers }) (k := kk) (cs := cs) hend
        have hle := loopEq_set (lo' := { state := .exhausted, pending := j, fn := b.fn, tmps := a.tmps, params := ps, assign := asg, body := body, defers := w.heap.size }) hpd
        have hk2 := hkj _ hle
        have hsk' : Sk X w w1 := (hx0.sk (X := fun r => X r ∨ r = w.heap.size + 1) entered_calm).trans hsk |>.fresh fun r hr => hr.imp id fun h => by omega
        have hsk2 : Sk X w { w1 with heap := w1.heap.setIfInBounds (w.heap.size + 1) (.loop { state := .exhausted, pending := j, fn := b.fn, tmps := a.tmps, params := ps, assign := asg, body := body, defers := w.heap.size }) } := by
          have h1 : Sk (fun r => X r ∨ r = w.heap.size + 1) w w1 := (hx0.sk (X := fun r => X r ∨ r = w.heap.size + 1) entered_calm).trans hsk
          have h2 := sk_set (X := fun r => X r ∨ r = w.heap.size + 1) (lo' := { state := .exhausted, pending := j, fn := b.fn, tmps := a.tmps, params := ps, assign := asg, body := body, defers := w.heap.size }) hpd (.inr rfl)
          exact (h1.trans h2).fresh fun r hr => hr.imp id fun h => by omega
        have hmark : Marks w.heap.size { w1 with heap := w1.heap.setIfInBounds (w.heap.size + 1) (.loop { state := .exhausted, pending := j, fn := b.fn, tmps := a.tmps, params := ps, assign := asg, body := body, defers := w.heap.size }) } [{ target := .collected w.heap.size, args := #[] }] := by
          refine ⟨_, rfl, Nat.le_refl _, ?_, (fun d' hd' => by cases hd'), trivial⟩
          simp only []
          rw [Array.getElem?_setIfInBounds_ne (by omega)]
          exact hsk.2.1 _ _ hd0
        have hall : Steps P (lone (b.atR a (.code (.rangeFunc g ps asg body) :: kk)) cs w) (lone (b.atR { a with defers := [{ target := .collected w.heap.size, args := #[] }] ++ a.defers } ((j.map Item.code).toList ++ kk)) cs
            { w1 with heap := w1.heap.setIfInBounds (w.heap.size + 1) (.loop { state := .exhausted, pending := j, fn := b.fn, tmps := a.tmps, params := ps, assign := asg, body := body, defers := w.heap.size }) }) :=
          .head henter (Steps.trans hsteps (.head hback (.one hstep)))
        have hokd : Env.Ok n e { a with defers := [{ target := .collected w.heap.size, args := #[] }] ++ a.defers } := hok
        have hsame : Keeps (.rangeFunc g ps asg body) a { a with defers := [{ target := .collected w.heap.size, args := #[] }] ++ a.defers } := ⟨fun _ _ => rfl, fun h => by cases h⟩
        cases j with
        | none => exact ⟨.nrm, _, _, [_], ⟨⟨e, hokd, hk2⟩, hsame⟩, hsk2, rfl, hmark, hall⟩
        | some c =>
          cases c
          case exit i => exact ⟨.exit i, _, _, [_], ⟨⟨e, hokd, hk2⟩, hsame⟩, hsk2, rfl, hmark, kk, rfl, hall⟩
          case ret => exact ⟨.ret, _, _, [_], ⟨⟨e, hokd, hk2⟩, hsame⟩, hsk2, rfl, hmark, kk, hall⟩
          all_goals exact hk2.elim
      · -- yield
        intro args R w1 hal hpd hbody
        rw [VF.app_lam _ _ _ _ hal] at hbody
        have hal' : args.length = ps.toList.length := by simpa using hal
        refine ⟨b.fn, (ps.toList.zip args).foldl (fun t (p : Tmp × Value) => t.setIfInBounds p.1 p.2) a.tmps, asg, body, ?_, ?_⟩
        · have h1 := run_getLoop (P := P) hpd
          have h2 : (ps.zip args.toArray).foldl (fun tmps (x : Tmp × Value) => tmps.setIfInBounds x.1 x.2) a.tmps = (ps.toList.zip args).foldl (fun t (p : Tmp × Value) => t.setIfInBounds p.1 p.2) a.tmps := by
            rw [← Array.foldl_toList]; simp
          simp only [Instr.yield, Sem.run_bind, h1, Result.andThen_ok]
          have h3 : ¬ (args.toArray.size ≠ ps.size) := by simp [hal]
          simp only [h3, if_false, Sem.run_pure]
          rw [← h2]
        · intro c cs
          have hokz := zip_fold (ds := []) (e := e) (n := n) (tmps := a.tmps) ⟨hok.1, hok.2⟩ hal' hps
          let bR : Frame := { (default : Frame) with fn := b.fn, kind := .normal, roundOf := some (w.heap.size + 1) }
          have hb0 : Frame.round (w.heap.size + 1) b.fn ((ps.toList.zip args).foldl (fun t (p : Tmp × Value) => t.setIfInBounds p.1 p.2) a.tmps) asg body .normal =
              bR.atR ⟨(ps.toList.zip args).foldl (fun t (p : Tmp × Value) => t.setIfInBounds p.1 p.2) a.tmps, []⟩ [.code asg, .beginRound, .code body] := by
            simp [Frame.round, Frame.atR, bR]
          have hA := ha _ bR true _ _ _ _ w1 rfl (by simp) hokz hbody
          obtain ⟨ex, a1, w2, ms1, hq1, hsk1, _, _, harr1⟩ := hA [.beginRound, .code body] (c :: cs)
          rw [← hb0] at harr1
          cases ex with
          | exit i => obtain ⟨⟨_, _, hh⟩, _⟩ := hq1; exact hh.elim
          | ret => obtain ⟨⟨_, _, hh⟩, _⟩ := hq1; exact hh.elim
          | goto l => exact hq1.1.elim
          | nrm =>
            obtain ⟨⟨e1, hok1, hbgn⟩, _⟩ := hq1
            have hpd2 := hsk1.2.2.1 _ _ (fun h => h) hpd
            have hbr := run_beginRound (P := P) hpd2 rfl
            have hle1 := loopEq_set (lo' := { state := .busy, pending := none, fn := b.fn, tmps := a.tmps, params := ps, assign := asg, body := body, defers := w.heap.size }) hpd2
            have hbd := hbgn _ hle1
            have hpd3 : ({ w2 with heap := w2.heap.setIfInBounds (w.heap.size + 1) (.loop { state := .busy, pending := none, fn := b.fn, tmps := a.tmps, params := ps, assign := asg, body := body, defers := w.heap.size }) } : World).heap[w.heap.size + 1]? = some _ := set_get hpd2
            have hB := hb _ bR true _ _ _ _ _ rfl (by simp) hok1 hbd
            obtain ⟨ex2, a2, w3, ms2, hq2, hsk2, _, _, harr2⟩ := hB [] (c :: cs)
            have s1 : Steps P (lone (bR.atR a1 [.beginRound, .code body]) (c :: cs) w2) (lone (bR.atR a1 [.code body]) (c :: cs) _) := .one (stepR_beginRound rfl hbr)
            have hpd4 := hsk2.2.2.1 _ _ (fun h => h) hpd3
            have fin : ∀ (j : Option Code), (∀ w4, LoopEq w3 w4 → w4.heap[w.heap.size + 1]? = some (loopObj b a ps asg body w.heap.size (if j.isNone then .ready else .done) j) → R j w4) →
                ∃ w4, (Instr.endRound (w.heap.size + 1) j).run P w3 = .ok (.bool j.isNone) w4 ∧ (∃ j' : Option Code, Value.bool j.isNone = .bool j'.isNone ∧ R j' w4) ∧ Sk (fun r => r = w.heap.size + 1) w1 w4 := by
              intro j hj
              have h1 := run_endRound (P := P) j hpd4
              refine ⟨_, h1, ⟨j, rfl, hj _ (loopEq_set hpd4) (set_get hpd4)⟩, ?_⟩
              have k1 := hsk1.mono (Y := fun r => r = w.heap.size + 1) (fun _ h => h.elim)
              have k2 := sk_set (X := fun r => r = w.heap.size + 1) (lo' := { state := .busy, pending := none, fn := b.fn, tmps := a.tmps, params := ps, assign := asg, body := body, defers := w.heap.size }) hpd2 rfl
              have k3 := hsk2.mono (Y := fun r => r = w.heap.size + 1) (fun _ h => h.elim)
              exact ((k1.trans k2).trans k3).trans (sk_set hpd4 rfl)
            cases ex2 with
            | nrm =>
              obtain ⟨⟨e2, _, hh⟩, _⟩ := hq2
              obtain ⟨w4, h1, h2, h3⟩ := fin none hh
              exact ⟨_, w4, ⟨h2, h3⟩, (Steps.trans harr1 s1).trans (Steps.trans harr2 (.one (stepR_round_end rfl rfl h1)))⟩
            | exit i =>
              obtain ⟨⟨e2, _, hh⟩, _⟩ := hq2
              obtain ⟨k0, hk0, hs0⟩ := harr2
              obtain ⟨w4, h1, h2, h3⟩ := fin (some (.exit i)) hh
              exact ⟨_, w4, ⟨h2, h3⟩, (Steps.trans harr1 s1).trans (Steps.trans hs0 (.one (stepR_round_exit rfl rfl (by rw [hk0]; rfl) h1)))⟩
            | ret =>
              obtain ⟨⟨e2, _, hh⟩, _⟩ := hq2
              obtain ⟨k0, hs0⟩ := harr2
              obtain ⟨w4, h1, h2, h3⟩ := fin (some .ret) hh
              exact ⟨_, w4, ⟨h2, h3⟩, (Steps.trans harr1 s1).trans (Steps.trans hs0 (.one (stepR_round_ret rfl rfl h1)))⟩
            | goto l => exact hq2.1.elim

theorem sound {P : Program} {n : Nat} (hm : P.follows .mixedOrders = true) : ∀ c, Sound P n c := by
  intro c
  induction c with
  | skip => exact fun X b rd e k x a w _ _ hok h => At.skip ⟨⟨e, hok, h⟩, Same.refl _ _, fun _ => rfl⟩
  | label l => exact fun X b rd e k x a w _ _ hok h => At.label ⟨⟨e, hok, h⟩, Same.refl _ _, fun _ => rfl⟩
  | region id ops draw => exact sound_region hm id ops draw
  | seq c d hc hd => exact sound_seq hc hd
  | cond o c d hc hd => exact sound_cond hc hd
  | block i c hc => exact sound_block hc
  | loop c hc => exact sound_loop hc
  | rangeFunc g ps asg body ha hb => exact sound_range ha hb
  | exit i => exact fun X b rd e k x a w _ _ hok h => At.exit ⟨⟨e, hok, h⟩, Same.refl _ _, fun _ => rfl⟩
  | scope c hc => exact sound_scope hc
  | goto l => exact fun X b rd e k x a w _ _ hok h => h.elim
  | ret => exact fun X b rd e k x a w _ _ hok h => At.ret ⟨⟨e, hok, h⟩, Same.refl _ _, fun _ => rfl⟩
  | refuse s => exact fun X b rd e k x a w _ _ hok h => h.elim

/-! ## functions -/
theorem marks_none {w : World} {r : Nat} {d : Option (List Deferred)} (h : w.heap[r]? = some (.deferred d)) : DefEq w { w with heap := w.heap.setIfInBounds r (.deferred none) } := by
  refine ⟨by simp, fun s hs => ?_⟩
  by_cases hrs : r = s
  · subst hrs; exact absurd h (hs d)
  · simp [Array.getElem?_setIfInBounds_ne hrs]

theorem unwind_marks {P : Program} {n : Nat} : ∀ (ms : List Deferred) (fr : Frame) (cs : List Frame) (w : World), fr.mode = .returning → fr.defers = ms → Marks n w ms →
    ∃ w', DefEq w w' ∧ Steps P (lone fr cs w) (lone { fr with defers := [] } cs w') ∧ (∀ r, r < n → w'.heap[r]? = w.heap[r]?) ∧ Calm w w' := by
  intro ms
  induction ms with
  | nil => intro fr cs w _ hd _; exact ⟨w, DefEq.refl _, by rw [← hd]; exact Steps.refl _ _, fun _ _ => rfl, Calm.refl _⟩
  | cons d ms ih =>
    intro fr cs w hm hd hmk
    obtain ⟨r, rfl, hn, hr, hne, hms⟩ := hmk
    have hrun : (Instr.takeDeferred r).run P w = .ok [] { w with heap := w.heap.setIfInBounds r (.deferred none) } := by
      simp [Instr.takeDeferred, getObj, setObj, Sem.run, hr]
    have hst : step P (lone fr cs w) = .next (lone { fr with defers := ms } cs { w with heap := w.heap.setIfInBounds r (.deferred none) }) := by
      refine step_lone_go ?_
      simp [stepG, hm, unwind, hd, Sem.runT_eq, hrun]
    have hmk' : Marks n { w with heap := w.heap.setIfInBounds r (.deferred none) } ms := by
      clear ih hst hrun hd
      induction ms with
      | nil => trivial
      | cons d ms ih2 =>
        obtain ⟨s, rfl, h1, h2, h3, h4⟩ := hms
        have hsr : s ≠ r := hne _ (List.mem_cons_self ..) s rfl
        refine ⟨s, rfl, h1, ?_, h3, ih2 (fun d' hd' => hne d' (List.mem_cons_of_mem _ hd')) h4⟩
        simp only []
        rw [Array.getElem?_setIfInBounds_ne (Ne.symm hsr)]; exact h2
    obtain ⟨w', hw', hs', hl', hc'⟩ := ih { fr with defers := ms } cs _ hm rfl hmk'
    refine ⟨w', (marks_none hr).trans hw', .head hst hs', fun s hs => ?_, (calm_set (by rw [hr]; rfl) rfl).trans hc'⟩
    rw [hl' s hs]
    simp only []
    rw [Array.getElem?_setIfInBounds_ne (by omega)]

theorem rvs_run {P : Program} {n : Nat} {e : Env} {a : Act} (hok : e.Ok n a) : ∀ {rs : List ResultVar} {l : List RV}, rvs n e rs = some l → ∀ w,
    (rs.mapM (fun | .tmp t => pure (a.tmps.getD t undef) | .cell x t => do loadVar t (← asAddr (a.tmps.getD x undef)) : ResultVar → Sem Value)).run P w = (finL l).run P w := by
  intro rs
  induction rs with
  | nil => intro l h w; cases h; rfl
  | cons r rs ih =>
    intro l h w
    cases r with
    | tmp t =>
      simp only [rvs] at h
      split at h
      · rename_i v l' h1 h2
        cases h
        have := ev_ok hok h1
        simp only [Act.eval] at this
        simp only [List.mapM_cons, finL, RV.sem, Sem.run_bind, Sem.run_pure, Result.andThen_ok, this]
        rw [ih h2 w]
      · cases h
    | cell t u =>
      simp only [rvs] at h
      split at h
      · rename_i v l' h1 h2
        cases h
        have := ev_ok hok h1
        simp only [Act.eval] at this
        simp only [List.mapM_cons, finL, RV.sem, Sem.run_bind, this]
        congr 1
        funext x w1
        rw [ih h2 w1]
      · cases h

theorem results_run {P : Program} {fn : Func} {n : Nat} {e : Env} {a : Act} (hok : e.Ok n a) {l : List RV} (h : rvs n e fn.results.toList = some l) (w : World) :
    (results fn a.tmps).run P w = (finS l).run P w := by
  have h1 := rvs_run (P := P) hok h w
  unfold results finS
  rw [← Array.toList_mapM] at h1
  simp only [Sem.run_bind, Sem.run_map] at h1 ⊢
  rw [← h1]
  cases hr : (fn.results.mapM (fun | .tmp t => pure (a.tmps.getD t undef) | .cell x t => do loadVar t (← asAddr (a.tmps.getD x undef)) : ResultVar → Sem Value)).run P w with
  | ok vs w1 =>
    simp only [Result.andThen_ok, Sem.run_pure]
    congr 1
    unfold one
    split
    · rename_i hs
      obtain ⟨vl⟩ := vs
      match vl, hs with
      | [x], _ => rfl
    · rename_i hs
      obtain ⟨vl⟩ := vs
      match vl, hs with
      | [], _ => rfl
      | [x], hs => exact absurd rfl hs
      | x :: y :: zs, _ => rfl
  | halt hh w1 => simp

theorem vals_run {P : Program} : ∀ {l : List RV} {vs : List Value}, vals l = some vs → ∀ w, (finL l).run P w = .ok vs w := by
  intro l
  induction l with
  | nil => intro vs h w; cases h; rfl
  | cons r l ih =>
    intro vs h w
    cases r with
    | v x =>
      simp only [vals] at h
      split at h
      · rename_i us h1; cases h; simp [finL, RV.sem, ih h1 w]
      · cases h
    | c t p => cases h

theorem fin_go {P : Program} {fn : Func} {n : Nat} {e : Env} {a : Act} {R : Value → WP} {w : World} (hok : e.Ok n a) (h : fin P n fn.results.toList R e w) :
    ∃ v, (results fn a.tmps).run P w = .ok v w ∧ R v w := by
  unfold fin at h
  cases hl : rvs n e fn.results.toList with
  | none => rw [hl] at h; exact h.elim
  | some l =>
    rw [hl] at h; simp only [] at h
    rw [results_run hok hl w]
    cases hv : vals l with
    | some vs => rw [hv] at h; exact ⟨one vs, by simp [finS, vals_run hv w], h⟩
    | none => rw [hv] at h; exact h

theorem args_get : ∀ (args : List Value) (i t : Nat) (v : Value), Env.get (args0 i args) t = some v → i ≤ t ∧ args[t - i]? = some v := by
  intro args
  induction args with
  | nil => intro i t v h; cases h
  | cons x args ih =>
    intro i t v h
    simp only [args0, Env.get] at h
    cases hb : Nat.beq i t with
    | true => rw [hb] at h; cases h; have := Nat.eq_of_beq_eq_true hb; subst this; simp
    | false =>
      rw [hb] at h
      obtain ⟨h1, h2⟩ := ih (i + 1) t v h
      refine ⟨by omega, ?_⟩
      have : t - i = (t - (i + 1)) + 1 := by omega
      rw [this]; simpa using h2

/-- A function's text, by vc: the function returns, and R takes what it returns. -/
theorem fn_of_vc {P : Program} {X : Nat → Prop} {f : FuncId} {fn : Func} {args : List Value} {R : Value → WP} {w : World} (hm : P.follows .mixedOrders = true) (hf : P.funcs[f]? = some fn)
    (h : vcFun P X fn args R w) : Fn P X f args.toArray w R := by
  unfold vcFun at h
  cases hbody : fn.body with
  | none => rw [hbody] at h; exact h.elim
  | some c =>
    rw [hbody] at h; simp only [] at h
    cases hle : Nat.ble args.length fn.ntmps with
    | false => rw [hle] at h; exact h.elim
    | true =>
      rw [hle] at h; simp only [] at h
      have hle' : args.length ≤ fn.ntmps := by simpa using hle
      intro cs
      let b : Frame := { (default : Frame) with fn := f, kind := .normal }
      have henter : Frame.enter P f args.toArray .normal = b.atR { tmps := args.toArray ++ Array.replicate (fn.ntmps - args.toArray.size) undef, defers := [] } [.code c] := by
        simp [Frame.enter, Frame.atR, hf, hbody, b]
        rfl
      have hok : Env.Ok fn.ntmps (args0 0 args) { tmps := args.toArray ++ Array.replicate (fn.ntmps - args.toArray.size) undef, defers := [] } := by
        refine ⟨by simp; omega, fun t v ht hg => ?_⟩
        obtain ⟨_, h2⟩ := args_get args 0 t v hg
        simp only [Nat.sub_zero] at h2
        have hlt : t < args.length := (List.getElem?_eq_some_iff.1 h2).1
        simp only []
        rw [Array.getElem?_append_left (by simpa using hlt)]
        simpa using h2
      -- the end of the function's text
      have ending : ∀ (a' : Act) (w' : World) (ms : List Deferred) (k0 : List Item), a'.defers = ms ++ [] → Marks w.heap.size w' ms → Sk X w w' →
          (∃ e', Env.Ok fn.ntmps e' a' ∧ ((ms = [] ∧ fin P fn.ntmps fn.results.toList R e' w') ∨ ∀ w'', DefEq w' w'' → fin P fn.ntmps fn.results.toList R e' w'')) →
          ∀ (m : Machine), Steps P m (lone { b.atR a' k0 with mode := .returning } cs w') →
          ∃ e w'' fr, (∃ v, e = .returned v ∧ R v w'' ∧ Sk X w w'') ∧ Comes P m (lone fr cs w'') e ∧ fr.fn = f ∧ fr.leaving P w'' e := by
        intro a' w' ms k0 hd hmk hsk ⟨e', hok', hfin⟩ m hs
        rcases hfin with ⟨hms, hfin⟩ | hfin
        · subst hms
          obtain ⟨v, hv, hR⟩ := fin_go hok' hfin
          exact ⟨.returned v, w', { b.atR a' k0 with mode := .returning }, ⟨v, rfl, hR, hsk⟩, hs, rfl, rfl, hd, rfl, fn, hf, hv⟩
        obtain ⟨w'', hdq, hst, hlow, hcalm⟩ := unwind_marks (P := P) ms { b.atR a' k0 with mode := .returning } cs w' rfl (by simpa [Frame.atR] using hd) hmk
        obtain ⟨v, hv, hR⟩ := fin_go hok' (hfin w'' hdq)
        refine ⟨.returned v, w'', { { b.atR a' k0 with mode := .returning } with defers := [] }, ⟨v, rfl, hR, ?_⟩, hs.trans hst, rfl, rfl, rfl, rfl, fn, hf, hv⟩
        refine ⟨by rw [hdq.1]; exact hsk.1, fun r d hr => ?_, fun r lo hx hr => ?_, hsk.2.2.2.trans hcalm⟩
        · rw [hlow r (Array.getElem?_eq_some_iff.1 hr).1]; exact hsk.2.1 r d hr
        · rw [hlow r (Array.getElem?_eq_some_iff.1 hr).1]; exact hsk.2.2.1 r lo hx hr
      have go : ∀ (k : Env → WP) (ex : Nat → Env → WP), (∀ i e, ex i e = nowp) → vc P X fn.ntmps false c (args0 0 args) k { exit := ex, ret := k } w →
          (∀ e a' w' ms, Keeps c { tmps := args.toArray ++ Array.replicate (fn.ntmps - args.toArray.size) undef, defers := [] } a' → a'.defers = ms ++ [] → Env.Ok fn.ntmps e a' → k e w' →
            (ms = [] ∧ fin P fn.ntmps fn.results.toList R e w') ∨ ∀ w'', DefEq w' w'' → fin P fn.ntmps fn.results.toList R e w'') →
          ∃ e w'' fr, (∃ v, e = .returned v ∧ R v w'' ∧ Sk X w w'') ∧ Comes P (lone (Frame.enter P f args.toArray .normal) cs w) (lone fr cs w'') e ∧ fr.fn = f ∧ fr.leaving P w'' e := by
        intro k ex hex hvc hk
        obtain ⟨e, a', w', ms, hq, hsk, hd, hmk, harr⟩ := sound hm c X b false _ _ _ _ w rfl (fun _ => rfl) hok hvc [] cs
        rw [← henter] at harr
        cases e with
        | nrm =>
          obtain ⟨⟨e', hok', hke⟩, hkp⟩ := hq
          exact ending a' w' ms [] hd hmk hsk ⟨e', hok', hk e' a' w' ms hkp hd hok' hke⟩ _ (Steps.trans harr (.one (stepR_end rfl)))
        | ret =>
          obtain ⟨⟨e', hok', hke⟩, hkp⟩ := hq
          obtain ⟨k0, hs0⟩ := harr
          exact ending a' w' ms _ hd hmk hsk ⟨e', hok', hk e' a' w' ms hkp hd hok' hke⟩ _ (Steps.trans hs0 (.one (stepR_ret rfl)))
        | exit i => obtain ⟨⟨e', _, hke⟩, _⟩ := hq; simp only [hex] at hke; exact hke.elim
        | goto l => exact hq.1.elim
      cases hr : hasRange c with
      | true =>
        rw [hr] at h
        exact go _ _ (fun _ _ => rfl) h fun e a' w' ms _ _ _ hke => .inr hke
      | false =>
        rw [hr] at h
        refine go _ _ (fun _ _ => rfl) h fun e a' w' ms hkp hd _ hke => .inl ⟨?_, hke⟩
        have := hkp.2 hr
        rw [hd] at this
        simpa using this
end Go.Proofs.Ytcgiobkfgnclcaa
