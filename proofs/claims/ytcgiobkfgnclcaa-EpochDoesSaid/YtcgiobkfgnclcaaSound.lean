/- vc is sound for the machine: what vc asks of a function's text brings the function to its end. No hypothesis on the program. -/
import Derived.Test.YtcgiobkfgnclcaaVc
namespace Go.Proofs.Ytcgiobkfgnclcaa
open Go

def QS.sem : QS → Sem Value
  | .mv v => pure v
  | .pu s => s
  | .rd s => s

theorem quietOp_args {n : Nat} {e : Env} {a : Act} (h : e.Ok n a) : ∀ {xs : List Operand} {vs : List Value}, quietOp.evs' (ev n e) xs = some vs → xs.map a.eval = vs := by
  intro xs
  induction xs with
  | nil => intro vs hx; cases hx; rfl
  | cons x xs ih =>
    intro vs hx
    simp only [quietOp.evs'] at hx
    split at hx
    · rename_i v us h1 h2; cases hx; simp [ev_ok h h1, ih h2]
    · cases hx
theorem quietOp_ov {n : Nat} {e : Env} {a : Act} (h : e.Ok n a) {x : Option Operand} {v : Option Value} (hx : quietOp.ov (ev n e) x = some v) : x.map a.eval = v := by
  cases x with
  | none => cases hx; rfl
  | some x =>
    simp only [quietOp.ov] at hx
    split at hx
    · rename_i v h1; cases hx; simp [ev_ok h h1]
    · cases hx

theorem zip_eval (ps : Array (Nat × Operand)) (f : Operand → Value) : ((ps.toList.map (·.1)).zip ((ps.toList.map (·.2)).map f)).toArray = ps.map fun (i, x) => (i, f x) := by
  obtain ⟨l⟩ := ps
  simp only [List.map_toArray]
  induction l with
  | nil => rfl
  | cons p l ih => obtain ⟨i, x⟩ := p; simpa using ih

theorem run_value {P : Program} {s : Sem Value} {w w' : World} {v : Value} (h : s.run P w = .ok v w') :
    (do pure (Next.value (← s)) : Sem Next).run P w = .ok (.value v) w' := by simp [h]

theorem equalIn_stuck {P : Program} {t : TypeId} {d : Nat} {x y : Value} {w w' : World} {r : Bool} (hsc : scalar P t = true) (hxy : (x = .nilIface ∧ y = .nilIface) ∨ ∃ a b, x = .agg a ∧ y = .agg b) :
    (Op.equalIn (d + 1) t x y).run P w ≠ .ok r w' := by
  unfold scalar at hsc
  unfold Op.equalIn
  cases hu : P.underlying t with
  | none => rw [hu] at hsc; cases hsc
  | some u =>
    rw [hu] at hsc
    rcases hxy with ⟨rfl, rfl⟩ | ⟨a, b, rfl, rfl⟩ <;> cases u <;> first | (cases hsc; done) | simp [underlying, hu]

theorem eqGuard_ok {P : Program} {op : BinOp} {t : TypeId} {x y : Operand} {a b : Value} {w w' : World} {v : Value} (hr : (binOp op t a b).run P w = .ok v w')
    (hs : isEq op = false ∨ scalar P t = true) : (eqGuard op t x y a b).run P w = .ok () w := by
  have hst : ((a = .nilIface ∧ b = .nilIface) ∨ ∃ a' b', a = .agg a' ∧ b = .agg b') → scalar P t = true → isEq op = true → False := by
    intro hxy hsc he
    have hne : ∀ r w1, (Op.equal t a b).run P w ≠ .ok r w1 := fun r w1 => by
      unfold Op.equal Op.maxDepth
      exact equalIn_stuck (d := 9999) hsc hxy
    have h1 : ∃ f : Bool → Value, binOp op t a b = (do let r ← Op.equal t a b; pure (f r)) := by
      rcases hxy with ⟨rfl, rfl⟩ | ⟨a', b', rfl, rfl⟩ <;> cases op <;> first | (cases he; done) | exact ⟨_, rfl⟩
    obtain ⟨f, h1⟩ := h1
    rw [h1, Sem.run_bind] at hr
    cases h2 : (Op.equal t a b).run P w with
    | ok r w1 => exact hne r w1 h2
    | halt h w1 => rw [h2] at hr; cases hr
  unfold eqGuard
  cases he : isEq op with
  | false => cases op <;> first | (cases he; done) | rfl
  | true =>
    have hsc := hs.resolve_left (by simp [he])
    cases a
    case nilIface =>
      cases b
      case nilIface => exact (hst (.inl ⟨rfl, rfl⟩) hsc he).elim
      all_goals (cases op <;> first | (cases he; done) | rfl)
    case agg a' =>
      cases b
      case agg b' => exact (hst (.inr ⟨_, _, rfl, rfl⟩) hsc he).elim
      all_goals (cases op <;> first | (cases he; done) | rfl)
    all_goals (cases op <;> first | (cases he; done) | rfl)

theorem quiet_run {P : Program} {n : Nat} {e : Env} {a : Act} {ro : Option Nat} (h : e.Ok n a) {o : Oper} {q : QS} (hq : quietOp P (ev n e) o.op = some q)
    {w w' : World} {v : Value} (hr : q.sem.run P w = .ok v w') : (o.semAt ro a.eval).run P w = .ok (.value v) w' := by
  have hd : ∀ c, o.op ≠ .defer c := by intro c hc; rw [hc] at hq; simp [quietOp] at hq
  rw [Oper.semAt_eq ro _ _ hd]
  unfold execOp
  cases hop : o.op <;> rw [hop] at hq <;> simp only [quietOp, Option.map_eq_some_iff, reduceCtorEq] at hq <;> simp only []
  case move x => obtain ⟨u, h1, rfl⟩ := hq; rw [ev_ok h h1]; simpa [QS.sem] using hr
  case assign x => obtain ⟨u, h1, rfl⟩ := hq; rw [ev_ok h h1]; simpa [QS.sem] using hr
  case pick c x y =>
    split at hq
    · rename_i c a b h1 h2 h3; cases hq; rw [ev_ok h h1, ev_ok h h2, ev_ok h h3]
      simp only [QS.sem, Sem.run_bind] at hr ⊢
      cases hb : (asBool c).run P w with
      | ok t w1 => rw [hb] at hr; simp at hr ⊢; exact hr
      | halt x w1 => rw [hb] at hr; simp at hr
    · cases hq
  case load t x => obtain ⟨u, h1, rfl⟩ := hq; rw [ev_ok h h1]; exact run_value hr
  case nilCheck x =>
    obtain ⟨u, h1, rfl⟩ := hq; rw [ev_ok h h1]
    simp only [QS.sem, nilc] at hr
    split at hr
    all_goals first
      | (simp [runtimePanic] at hr; done)
      | (simp at hr; done)
      | skip
    simp at hr
    obtain ⟨rfl, rfl⟩ := hr
    split <;> simp_all
  case binOp op t x y t' =>
    split at hq
    · rename_i u v' h1 h2
      rw [ev_ok h h1, ev_ok h h2]
      have key : (eqS op t x y u v').run P w = .ok v w' := by
        split at hq
        · cases hq; exact hr
        · rename_i hne
          cases hq
          have hr : (binOp op t u v').run P w = .ok v w' := hr
          unfold eqS
          rw [Sem.run_bind, eqGuard_ok hr (by
            cases h1 : isEq op <;> cases h2 : scalar P t <;> simp_all)]
          exact hr
      exact run_value key
    · cases hq
  case unOp op t x => obtain ⟨u, h1, rfl⟩ := hq; rw [ev_ok h h1]; exact run_value hr
  case fieldAddr s x f => obtain ⟨u, h1, rfl⟩ := hq; rw [ev_ok h h1]; exact run_value hr
  case field s x f => obtain ⟨u, h1, rfl⟩ := hq; rw [ev_ok h h1]; exact run_value hr
  case extract x i => obtain ⟨u, h1, rfl⟩ := hq; rw [ev_ok h h1]; exact run_value hr
  case convert s d x =>
    obtain ⟨u, h1, rfl⟩ := hq; rw [ev_ok h h1]
    cases hb : isSlice P s <;> rw [hb] at hr <;> exact run_value hr
  case makeInterface t x => obtain ⟨u, h1, rfl⟩ := hq; rw [ev_ok h h1]; exact run_value hr
  case typeAssert x t u ok => obtain ⟨u, h1, rfl⟩ := hq; rw [ev_ok h h1]; exact run_value hr
  case indexAddr t x i =>
    split at hq
    · rename_i a b h1 h2; cases hq; rw [ev_ok h h1, ev_ok h h2]; exact run_value hr
    · cases hq
  case index t x i =>
    split at hq
    · rename_i a b h1 h2; cases hq; rw [ev_ok h h1, ev_ok h h2]; exact run_value hr
    · cases hq
  case lookup t x i ok =>
    split at hq
    · rename_i a b h1 h2; cases hq; rw [ev_ok h h1, ev_ok h h2]; exact run_value hr
    · cases hq
  case build t parts =>
    split at hq
    · rename_i vs h1; cases hq
      have h2 := quietOp_args h h1
      rw [← zip_eval, h2]; exact run_value hr
    · cases hq
  case makeFunc fn first cap =>
    split at hq
    · rename_i u1 u2 h1 h2; cases hq
      have h3 := quietOp_args h h1
      have h4 := quietOp_args h h2
      have e1 : first.map a.eval = u1.toArray := Array.toList_inj.1 (by simp [h3])
      have e2 : cap.map a.eval = u2.toArray := Array.toList_inj.1 (by simp [h4])
      rw [e1, e2]; exact run_value hr
    · cases hq
  case slice t x lo hi mx =>
    split at hq
    · rename_i a b c d h1 h2 h3 h4; cases hq
      rw [ev_ok h h1, quietOp_ov h h2, quietOp_ov h h3, quietOp_ov h h4]; exact run_value hr
    · cases hq
  case call c =>
    split at hq
    · rename_i b hb
      split at hq
      · rename_i hqb
        split at hq
        · rename_i vs h1; cases hq
          have hr : (builtinS b c.argTypes 0 vs).run P w = .ok v w' := by
            cases hm : isMap P (c.argTypes.getD 0 0) <;> rw [hm] at hr <;> exact hr
          have h2 := quietOp_args h h1
          have e1 : c.args.map a.eval = vs.toArray := Array.toList_inj.1 (by simp [h2])
          obtain ⟨cs, e2⟩ : ∃ cs, resolve a.eval c o.type = pure { target := .builtin b c.argTypes o.type cs, args := vs.toArray } := ⟨_, by simp only [resolve, hb, e1]; rfl⟩
          rw [e2]
          cases b <;> first | (exfalso; simp [quietBuiltin] at hqb; done) | exact run_value hr
        · cases hq
      · cases hq
    · cases hq
  all_goals cases hq

/-- where a quiet operation goes through, and when again -/
theorem quiet_ok {P : Program} {q : QS} {K : Value → WP} {w : World} (h : quietWP P q K w) :
    ∃ v, q.sem.run P w = .ok v w ∧ K v w := by
  cases q with
  | mv v => exact ⟨v, rfl, h⟩
  | pu s => obtain ⟨v, h1, h2⟩ := h; exact ⟨v, h1 w, h2⟩
  | rd s => exact h

theorem cav_go {P : Program} {X : Nat → Prop} {g : Value} {args : List Value} {K : Value → WP} {w : World} (h : cav P X g args K w) :
    ∃ d, (Deferred.ofValue g args.toArray).run P w = .ok d w ∧
      ((∃ f args', (invoke d.target d.args).run P w = .ok (.enter f args') w ∧ Fn P X f args' w K) ∨
       (∃ l f tmps asg body, (invoke d.target d.args).run P w = .ok (.round l f tmps asg body) w ∧ Rounds P l f tmps asg body w fun v w' => K v w' ∧ Sk X w w')) := by
  unfold cav at h
  split at h
  · rename_i f first cap
    have e1 : (first.toList ++ args ++ cap.toList).toArray = (first ++ args.toArray) ++ cap := by simp
    have h2 := h.2
    rw [e1] at h2
    exact ⟨_, rfl, .inl ⟨f, _, h.1 ((first ++ args.toArray) ++ cap) w, h2⟩⟩
  · rename_i l first cap
    obtain ⟨f, tmps, asg, body, h1, h2⟩ := h
    have e1 : (first.toList ++ args).toArray = first ++ args.toArray := by simp
    rw [e1] at h1
    exact ⟨_, rfl, .inr ⟨l, f, tmps, asg, body, h1, h2⟩⟩
  · rename_i fn first cap _ _
    obtain ⟨f, args', h1, h2⟩ := h
    exact ⟨_, rfl, .inl ⟨f, args', h1, h2⟩⟩
  · exact h.elim

theorem opGo_of_run {P : Program} {X : Nat → Prop} {ro : Option Nat} {o : Oper} {a : Act} {w w' : World} {K : Value → WP} {v : Value}
    (hr : (o.semAt ro a.eval).run P w = .ok (.value v) w') (hs : Sk X w w') (hK : K v w') : OpGo P X ro o a w K := by
  unfold OpGo; rw [hr]; exact ⟨hK, hs⟩

theorem lou_go {P : Program} {X : Nat → Prop} {ro : Option Nat} {o : Oper} {a : Act} {w : World} {K : Value → WP} {s : Sem Value} (hd : ∀ c, o.op ≠ .defer c)
    (he : execOp a.eval o = (do pure (Next.value (← s)) : Sem Next)) (h : lou P X s K w) : OpGo P X ro o a w K := by
  obtain ⟨v, w', h1, h2, h3⟩ := h
  refine opGo_of_run (v := v) (w' := w') ?_ h2 h3
  rw [Oper.semAt_eq ro _ _ hd, he]; exact run_value h1

theorem sto_go {P : Program} {X : Nat → Prop} {ro : Option Nat} {o : Oper} {a : Act} {w : World} {K : Value → WP} {s : Sem Unit} (hd : ∀ c, o.op ≠ .defer c)
    (he : execOp a.eval o = (do s; pure Next.skip : Sem Next)) (h : sto P X s (K undef) w) : OpGo P X ro o a w K := by
  obtain ⟨w', h1, h2, h3⟩ := h
  unfold OpGo
  have : (o.semAt ro a.eval).run P w = .ok .skip w' := by rw [Oper.semAt_eq ro _ _ hd, he]; simp [h1]
  rw [this]; exact ⟨h3, h2⟩

theorem w1_some {x : Option Value} {K : Value → WP} {w : World} (h : w1 x K w) : ∃ v, x = some v ∧ K v w := by
  cases x with
  | none => exact h.elim
  | some v => exact ⟨v, rfl, h⟩
theorem wl_some {x : Option (List Value)} {K : List Value → WP} {w : World} (h : wl x K w) : ∃ v, x = some v ∧ K v w := by
  cases x with
  | none => exact h.elim
  | some v => exact ⟨v, rfl, h⟩

theorem loud_go {P : Program} {X : Nat → Prop} {n : Nat} {e : Env} {a : Act} {ro : Option Nat} (hok : e.Ok n a) {o : Oper} {K : Value → WP} {w : World}
    (h : loudWP P X n e o K w) : OpGo P X ro o a w K := by
  obtain ⟨dst, op, type, pos, after, guard⟩ := o
  cases op
  case alloc t =>
    have h : lou P X (Instr.alloc t true (.tuple #[])) K w := h
    exact lou_go (fun _ h => by cases h) rfl h
  case box t x =>
    obtain ⟨v, h1, h⟩ := w1_some h
    exact lou_go (fun _ h => by cases h) (by simp only [execOp, ev_ok hok h1]) h
  case buildSlice t len parts =>
    obtain ⟨vs, h1, h⟩ := wl_some h
    have h2 := evs_ok hok h1
    have h : lou P X (Instr.buildSlice t len ((parts.toList.map (·.1)).zip vs).toArray) K w := h
    have h3 := zip_eval parts a.eval
    rw [h2] at h3
    rw [h3] at h
    exact lou_go (fun _ h => by cases h) rfl h
  case store t x y =>
    obtain ⟨u, h1, h⟩ := w1_some h
    obtain ⟨v, h2, h⟩ := w1_some h
    exact sto_go (fun _ h => by cases h) (by simp only [execOp, ev_ok hok h1, ev_ok hok h2]) h
  case makeSlice t x y =>
    obtain ⟨u, h1, h⟩ := w1_some h
    obtain ⟨v, h2, h⟩ := w1_some h
    exact lou_go (fun _ h => by cases h) (by simp only [execOp, ev_ok hok h1, ev_ok hok h2]) h
  case makeMap t r =>
    cases r with
    | none => exact lou_go (fun _ h => by cases h) rfl h
    | some r =>
      obtain ⟨u, h1, h⟩ := w1_some h
      exact lou_go (fun _ h => by cases h) (by simp only [execOp, Option.map_some, ev_ok hok h1]) h
  case mapUpdate t m k x =>
    obtain ⟨u, h1, h⟩ := w1_some h
    obtain ⟨v, h2, h⟩ := w1_some h
    obtain ⟨y, h3, h⟩ := w1_some h
    exact sto_go (fun _ h => by cases h) (by simp only [execOp, ev_ok hok h1, ev_ok hok h2, ev_ok hok h3]) h
  case insert t m k x =>
    obtain ⟨u, h1, h⟩ := w1_some h
    obtain ⟨v, h2, h⟩ := w1_some h
    obtain ⟨y, h3, h⟩ := w1_some h
    exact sto_go (fun _ h => by cases h) (by simp only [execOp, ev_ok hok h1, ev_ok hok h2, ev_ok hok h3]) h
  case mapEntry t m k =>
    obtain ⟨u, h1, h⟩ := w1_some h
    obtain ⟨v, h2, h⟩ := w1_some h
    exact lou_go (fun _ h => by cases h) (by simp only [execOp, ev_ok hok h1, ev_ok hok h2]) h
  case entryStore t m k x =>
    obtain ⟨u, h1, h⟩ := w1_some h
    obtain ⟨v, h2, h⟩ := w1_some h
    obtain ⟨y, h3, h⟩ := w1_some h
    exact sto_go (fun _ h => by cases h) (by simp only [execOp, ev_ok hok h1, ev_ok hok h2, ev_ok hok h3]) h
  case range t x =>
    obtain ⟨v, h1, h⟩ := w1_some h
    exact lou_go (fun _ h => by cases h) (by simp only [execOp, ev_ok hok h1]) h
  case next x str =>
    obtain ⟨v, h1, h⟩ := w1_some h
    exact lou_go (fun _ h => by cases h) (by simp only [execOp, ev_ok hok h1]) h
  case call c =>
    obtain ⟨callee, cargs, ctypes⟩ := c
    obtain ⟨args, h1, h0⟩ := wl_some h
    clear h
    have h2 := evs_ok hok h1
    have e1 : cargs.map a.eval = args.toArray := Array.toList_inj.1 (by simpa using h2)
    cases callee with
    | value f =>
      obtain ⟨g, h3, h⟩ := w1_some h0
      obtain ⟨d, hd1, hd2⟩ := cav_go h
      have hres : (resolve a.eval ⟨.value f, cargs, ctypes⟩ type).run P w = .ok d w := by simp only [resolve, e1, ev_ok hok h3]; exact hd1
      have hx : Oper.semAt ro a.eval ⟨dst, .call ⟨.value f, cargs, ctypes⟩, type, pos, after, guard⟩ = (do let d ← resolve a.eval ⟨.value f, cargs, ctypes⟩ type; invoke d.target d.args) :=
        Oper.semAt_eq ro _ _ fun _ h => by cases h
      rcases hd2 with ⟨f, args', h4, h5⟩ | ⟨l, f, tmps, asg, body, h4, h5⟩
      · unfold OpGo
        rw [hx, Sem.run_bind, hres, Result.andThen_ok, h4]; exact ⟨Sk.refl _ _, h5⟩
      · unfold OpGo
        rw [hx, Sem.run_bind, hres, Result.andThen_ok, h4]; exact ⟨Sk.refl _ _, h5⟩
    | invoke r name =>
      obtain ⟨g, h3, h⟩ := w1_some h0
      obtain ⟨f, args', h4, h5⟩ := h
      have hres : (resolve a.eval ⟨.invoke r name, cargs, ctypes⟩ type).run P w = .ok { target := .fn (.method name) #[], args := #[g] ++ args.toArray } w := by
        simp only [resolve, e1, ev_ok hok h3]; rfl
      have hx : Oper.semAt ro a.eval ⟨dst, .call ⟨.invoke r name, cargs, ctypes⟩, type, pos, after, guard⟩ = (do let d ← resolve a.eval ⟨.invoke r name, cargs, ctypes⟩ type; invoke d.target d.args) :=
        Oper.semAt_eq ro _ _ fun _ h => by cases h
      have hi : (invoke (.fn (.method name) #[]) (#[g] ++ args.toArray)).run P w = .ok (.enter f args') w := by
        simp only [invoke]
        simpa using h4
      unfold OpGo
      rw [hx, Sem.run_bind, hres, Result.andThen_ok, hi]; exact ⟨Sk.refl _ _, h5⟩
    | builtin b =>
      cases hl : loudBuiltin b with
      | false => simp only [hl] at h0; exact h0.elim
      | true =>
        simp only [hl] at h0
        obtain ⟨v, w', h3, h4, h5⟩ := h0
        refine opGo_of_run (v := v) (w' := w') ?_ h4 h5
        obtain ⟨cs, e2⟩ : ∃ cs, resolve a.eval ⟨.builtin b, cargs, ctypes⟩ type = pure { target := .builtin b ctypes type cs, args := args.toArray } := ⟨_, by simp only [resolve, e1]; rfl⟩
        have hx : Oper.semAt ro a.eval ⟨dst, .call ⟨.builtin b, cargs, ctypes⟩, type, pos, after, guard⟩ = (do let d ← resolve a.eval ⟨.builtin b, cargs, ctypes⟩ type; invoke d.target d.args) :=
          Oper.semAt_eq ro _ _ fun _ h => by cases h
        rw [hx, e2]
        cases b <;> first | (exfalso; simp [loudBuiltin] at hl; done) | exact run_value h3
  all_goals exact (h : nowp w).elim

theorem op_go {P : Program} {X : Nat → Prop} {n : Nat} {e : Env} {a : Act} {ro : Option Nat} (hok : e.Ok n a) {o : Oper} {K : Value → WP} {w : World}
    (h : opWP P X n e o K w) : OpGo P X ro o a w K := by
  unfold opWP at h
  cases hq : quietOp P (ev n e) o.op with
  | some q =>
    rw [hq] at h
    obtain ⟨v, h1, h2⟩ := quiet_ok h
    exact opGo_of_run (quiet_run hok hq h1) (Sk.refl _ _) h2
  | none => rw [hq] at h; exact loud_go hok h


theorem guard_go {ops : Array Oper} {n : Nat} {e : Env} {a : Act} (hok : e.Ok n a) {o : Oper} {A : (Value → WP) → WP} {F : Value → WP} {w : World} (h : guardJ ops n e o A F w) :
    (Region.wanted o (yielded ops a.tmps) = true ∧ A F w) ∨ (Region.wanted o (yielded ops a.tmps) = false ∧ F undef w ∧ ∃ g want, guardVal ops n e o = some (g, want) ∧ g ≠ .bool want) := by
  unfold guardJ at h
  unfold guardVal
  unfold Region.wanted
  cases hgo : guardOf ops n e o with
  | none =>
    rw [hgo] at h
    have : o.guard = none := by
      unfold guardOf at hgo
      cases hg : o.guard with
      | none => rfl
      | some jw => rw [hg] at hgo; simp only [] at hgo; split at hgo <;> cases hgo
    rw [this]; exact .inl ⟨rfl, h⟩
  | some gw =>
    obtain ⟨g?, want⟩ := gw
    rw [hgo] at h
    cases g? with
    | none => exact h.elim
    | some g =>
      simp only [] at h ⊢
      unfold guardOf at hgo
      cases hg : o.guard with
      | none => rw [hg] at hgo; cases hgo
      | some jw =>
        obtain ⟨j, want'⟩ := jw
        rw [hg] at hgo; simp only [] at hgo ⊢
        cases hd : (ops[j]?).bind (·.dst) with
        | none => rw [hd] at hgo; simp at hgo
        | some d =>
          rw [hd] at hgo; simp only [Option.some.injEq, Prod.mk.injEq] at hgo
          obtain ⟨h1, rfl⟩ := hgo
          cases hb : Nat.blt d n with
          | false => rw [hb] at h1; cases h1
          | true =>
            rw [hb] at h1
            have ht := hok.2 d g (by simpa using hb) h1
            unfold yielded
            rw [hd]; simp only [Option.bind_some, ht]
            cases g
            case bool b => cases b <;> cases want' <;> first | exact .inl ⟨rfl, h⟩ | exact .inr ⟨rfl, h, _, _, rfl, (by simp)⟩
            all_goals exact .inr ⟨rfl, h, _, _, rfl, (by simp)⟩

theorem guard_true {ops : Array Oper} {n : Nat} {e : Env} {a : Act} (hok : e.Ok n a) {o : Oper} (hw : Region.wanted o (yielded ops a.tmps) = true) {g : Value} {want : Bool}
    (hg : guardVal ops n e o = some (g, want)) : g = .bool want := by
  have h : guardJ ops n e o (fun _ _ => False) (fun _ _ => True) default ∨ g = .bool want := by
    unfold guardVal at hg
    unfold guardJ
    cases hgo : guardOf ops n e o with
    | none => rw [hgo] at hg; cases hg
    | some gw =>
      obtain ⟨g?, want'⟩ := gw
      rw [hgo] at hg
      cases g? with
      | none => cases hg
      | some g' =>
        cases hg
        simp only [gj, gd]
        cases g
        case bool b => cases b <;> cases want <;> simp
        all_goals simp
  rcases h with h | h
  · rcases guard_go hok h with ⟨_, h1⟩ | ⟨h1, _⟩
    · exact h1.elim
    · rw [hw] at h1; cases h1
  · exact h

theorem ops_go {P : Program} {X : Nat → Prop} {n : Nat} {ro : Option Nat} {ops : Array Oper} {K : Env → WP} : ∀ (l : List Oper) (i : Nat), ops.toList.drop i = l → ∀ (e : Env) (a : Act) (w : World),
    e.Ok n a → opsWP P X n ops l e K w → RegOps P X ro ops (fun a w => ∃ e', Env.Ok n e' a ∧ K e' w) (List.range' i l.length) a w := by
  intro l
  induction l with
  | nil => intro i _ e a w hok h; exact ⟨e, hok, h⟩
  | cons o l ih =>
    intro i hi e a w hok h
    have hlt : i < ops.toList.length := by
      rcases Nat.lt_or_ge i ops.toList.length with h1 | h1
      · exact h1
      · rw [List.drop_eq_nil_of_le h1] at hi; cases hi
    rw [List.drop_eq_getElem_cons hlt] at hi
    obtain ⟨h1, h2⟩ := List.cons.inj hi
    have ho : ops[i]? = some o := by rw [← h1]; simp at hlt ⊢
    simp only [List.length_cons, List.range'_succ, RegOps]
    unfold OpDo
    rw [ho]; simp only []
    rcases guard_go hok h with ⟨hw, hy⟩ | ⟨hw, hn, _⟩
    · rw [if_pos hw]
      exact (op_go hok hy).mono fun v w' hv => ih (i + 1) h2 _ _ _ (hok.put _ _) hv
    · rw [if_neg (by simp [hw])]
      exact ih (i + 1) h2 _ _ _ (hok.put _ _) hn

theorem bits_spec (acc : Array Nat) (i : Nat) : ∀ (l : List Edge) (s : Nat),
    (l.foldl (fun s e => if Region.binds .any e then s ||| 2 ^ e.on ||| acc.getD e.on 0 else s) s).testBit i = true →
    s.testBit i = true ∨ ∃ e ∈ l, Region.binds .any e = true ∧ (e.on = i ∨ (acc.getD e.on 0).testBit i = true) := by
  intro l
  induction l with
  | nil => intro s h; exact .inl h
  | cons e l ih =>
    intro s h
    rw [List.foldl_cons] at h
    rcases ih _ h with h1 | ⟨e', he', h2⟩
    · by_cases hb : Region.binds .any e = true
      · rw [if_pos hb, Nat.testBit_or, Nat.testBit_or, Nat.testBit_two_pow] at h1
        simp only [Bool.or_eq_true, decide_eq_true_eq] at h1
        rcases h1 with (h1 | h1) | h1
        · exact .inl h1
        · exact .inr ⟨e, List.mem_cons_self .., hb, .inl h1⟩
        · exact .inr ⟨e, List.mem_cons_self .., hb, .inr h1⟩
      · rw [if_neg hb] at h1; exact .inl h1
    · exact .inr ⟨e', List.mem_cons_of_mem _ he', h2⟩

def BeforeInv (pre : List Oper) (acc : Array Nat) : Prop :=
  acc.size = pre.length ∧ ∀ j i, (acc.getD j 0).testBit i = true →
    ∃ o, pre[j]? = some o ∧ ∃ e ∈ o.after, Region.binds .any e = true ∧ (e.on = i ∨ (e.on < j ∧ (acc.getD e.on 0).testBit i = true))

theorem before_fold : ∀ (l pre : List Oper) (acc : Array Nat), BeforeInv pre acc →
    BeforeInv (pre ++ l) (l.foldl (fun acc o => acc.push (o.after.foldl (fun s e => if Region.binds .any e then s ||| 2 ^ e.on ||| acc.getD e.on 0 else s) 0)) acc) := by
  intro l
  induction l with
  | nil => intro pre acc h; simpa using h
  | cons o l ih =>
    intro pre acc h
    rw [List.foldl_cons]
    have := ih (pre ++ [o]) (acc.push (o.after.foldl (fun s e => if Region.binds .any e then s ||| 2 ^ e.on ||| acc.getD e.on 0 else s) 0)) ?_
    · simpa using this
    · have old : ∀ j, j < acc.size → (acc.push (o.after.foldl (fun s e => if Region.binds .any e then s ||| 2 ^ e.on ||| acc.getD e.on 0 else s) 0)).getD j 0 = acc.getD j 0 := by
        intro j hj
        simp [Array.getElem?_push, hj, Nat.ne_of_lt hj]
      refine ⟨by simp [h.1], fun j i hb => ?_⟩
      rcases Nat.lt_trichotomy j acc.size with hj | hj | hj
      · rw [old j hj] at hb
        obtain ⟨o', ho', e, he, h1, h2⟩ := h.2 j i hb
        refine ⟨o', ?_, e, he, h1, ?_⟩
        · rw [List.getElem?_append_left (by rw [← h.1]; exact hj)]; exact ho'
        · rcases h2 with h2 | ⟨h2, h3⟩
          · exact .inl h2
          · exact .inr ⟨h2, by rw [old _ (by omega)]; exact h3⟩
      · have e1 : (acc.push (o.after.foldl (fun s e => if Region.binds .any e then s ||| 2 ^ e.on ||| acc.getD e.on 0 else s) 0)).getD j 0 = o.after.foldl (fun s e => if Region.binds .any e then s ||| 2 ^ e.on ||| acc.getD e.on 0 else s) 0 := by
          rw [hj]; simp
        rw [e1, ← Array.foldl_toList] at hb
        rcases bits_spec acc i _ _ hb with hb | ⟨e, he, h1, h2⟩
        · simp at hb
        · refine ⟨o, by rw [hj, h.1]; simp, e, by simpa using he, h1, ?_⟩
          rcases h2 with h2 | h2
          · exact .inl h2
          · rcases Nat.lt_or_ge e.on acc.size with hl | hl
            · exact .inr ⟨by omega, by rw [old _ hl]; exact h2⟩
            · rw [Array.getD_eq_getD_getElem?, Array.getElem?_eq_none hl] at h2; simp at h2
      · rw [Array.getD_eq_getD_getElem?, Array.getElem?_eq_none (by simp; omega)] at hb; simp at hb

theorem before_spec (ops : Array Oper) (j i : Nat) (h : ((Region.before ops).getD j 0).testBit i = true) :
    ∃ o, ops[j]? = some o ∧ ∃ e ∈ o.after, Region.binds .any e = true ∧ (e.on = i ∨ (e.on < j ∧ ((Region.before ops).getD e.on 0).testBit i = true)) := by
  have key := before_fold ops.toList [] #[] ⟨rfl, fun j i h => by simp at h⟩
  have e1 : Region.before ops = ops.toList.foldl (fun acc o => acc.push (o.after.foldl (fun s e => if Region.binds .any e then s ||| 2 ^ e.on ||| acc.getD e.on 0 else s) 0)) #[] := by
    unfold Region.before
    rw [← Array.foldl_toList]
  rw [← e1] at key
  obtain ⟨o, ho, r⟩ := key.2 j i h
  exact ⟨o, by simpa using ho, r⟩

theorem anc_closed {ops : Array Oper} {L : Array Bool} (hc : Closed ops L) {i : Nat} : ∀ j, L.getD j false = true → ((anc ops).getD j 0).testBit i = true → L.getD i false = true := by
  intro j
  induction j using Nat.strongRecOn with
  | _ j ih =>
    intro hj hb
    obtain ⟨o, ho, e, he, h1, h2⟩ := before_spec ops j i hb
    have h3 := hc j o ho hj e he h1
    rcases h2 with rfl | ⟨h2, h4⟩
    · exact h3
    · exact ih _ h2 h3 h4

theorem watched_set {ops : Array Oper} {L : Array Bool} {i : Nat} (hq : quietAt ops i = true) : ∀ S, watched ops (L.setIfInBounds i true) S = watched ops L S := by
  have key : ∀ k, ((List.range ops.size).any fun j => !quietAt ops j && (L.setIfInBounds i true).getD j false && ((anc ops).getD j 0).testBit k) =
      (List.range ops.size).any fun j => !quietAt ops j && L.getD j false && ((anc ops).getD j 0).testBit k := by
    intro k
    congr 1
    funext j
    by_cases hij : i = j
    · subst hij; simp [hq]
    · rw [getD_set_ne false hij]
  intro S
  induction S with
  | nil => rfl
  | cons p S ih => obtain ⟨k, p⟩ := p; simp only [watched, key, ih]

theorem AnyGo.mono {P : Program} {X : Nat → Prop} {ro : Option Nat} {ops : Array Oper} {G G' : Array Bool → World → Prop} {Q : Act → World → Prop} (hg : ∀ L w, G L w → G' L w) :
    ∀ (fuel : Nat) (L : Array Bool) (a : Act) (w : World), AnyGo P X ro ops G Q fuel L a w → AnyGo P X ro ops G' Q fuel L a w := by
  intro fuel
  induction fuel with
  | zero => exact fun L a w h => ⟨hg _ _ h.1, h.2⟩
  | succ fuel ih => exact fun L a w h => ⟨hg _ _ h.1, h.2.1, fun j hj => (h.2.2 j hj).mono fun a w => ih _ a w⟩

def Watching (P : Program) (ops : Array Oper) (S : List (Nat × Rd)) (L : Array Bool) (w : World) : Prop := ∀ p ∈ watched ops L S, Rd.ok P p w

theorem watch_go {P : Program} {K : WP} {w : World} : ∀ (l : List Rd), watch P l K w → (∀ p ∈ l, Rd.ok P p w) ∧ K w := by
  intro l
  induction l with
  | nil => exact fun h => ⟨fun p hp => absurd hp List.not_mem_nil, h⟩
  | cons p l ih =>
    intro h
    obtain ⟨h1, h2⟩ := ih h.2
    refine ⟨fun q hp => ?_, h2⟩
    rcases List.mem_cons.1 hp with rfl | hp
    · exact h.1
    · exact h1 q hp

theorem quiet_not_select {ops : Array Oper} (hs : Region.noSelect ops = true) (j : Nat) (o : Oper) (cs : Array SelectCase) (b : Bool) (ho : ops[j]? = some o) : o.op ≠ .select cs b :=
  Region.noSelect_spec hs j o cs b ho

theorem isQuiet_of_quietOp {P : Program} {ρ : Operand → Option Value} {o : Op} {q : QS} (h : quietOp P ρ o = some q) : isQuiet o = true := by
  cases o <;> simp only [quietOp, reduceCtorEq] at h <;> first | rfl | skip
  case call c =>
    obtain ⟨callee, args, ts⟩ := c
    cases callee <;> simp only [reduceCtorEq] at h
    case builtin b =>
      cases hb : quietBuiltin b
      · simp [hb] at h
      · exact hb

theorem draw_go {P : Program} {X : Nat → Prop} {n : Nat} {ro : Option Nat} {ops : Array Oper} {K : Env → WP} (hs : Region.noSelect ops = true) : ∀ (fuel : Nat) (L : Array Bool)
    (S : List (Nat × Rd)) (e : Env) (a : Act) (w : World), Closed ops L → e.Ok n a → Watching P ops S L w → drawWP P X n ops K fuel L S e w →
    AnyGo P X ro ops (Watching P ops S) (fun a w => ∃ e', Env.Ok n e' a ∧ K e' w) fuel L a w := by
  intro fuel
  induction fuel with
  | zero =>
    intro L S e a w hc hok hw h
    unfold drawWP at h
    cases hr : Region.ready .any ops L with
    | nil => rw [hr] at h; exact ⟨hw, hr, e, hok, h⟩
    | cons i is => rw [hr] at h; exact h.elim
  | succ fuel ih =>
    have hstep : ∀ (L : Array Bool) (S : List (Nat × Rd)) (e : Env) (a : Act) (w : World), Closed ops L → e.Ok n a → ∀ i ∈ Region.ready .any ops L,
        drawStep P X n ops (drawWP P X n ops K fuel) L S e i w →
        OpDo P X ro ops i (AnyGo P X ro ops (Watching P ops S) (fun a w => ∃ e', Env.Ok n e' a ∧ K e' w) fuel (L.setIfInBounds i true)) a w := by
      intro L S e a w hc hok i hi h
      unfold drawStep at h
      unfold OpDo
      cases ho : ops[i]? with
      | none => rw [ho] at h; exact h.elim
      | some o =>
        rw [ho] at h; simp only [] at h ⊢
        rcases guard_go hok h with ⟨hw, hy⟩ | ⟨hw, hn, _⟩
        · rw [if_pos hw]
          refine (loud_go hok hy).mono fun v w' hv => ?_
          obtain ⟨h1, h2⟩ := watch_go _ hv
          exact ih _ _ _ _ _ (hc.set hi) (hok.put _ _) h1 h2
        · rw [if_neg (by simp [hw])]
          obtain ⟨h1, h2⟩ := watch_go _ hn
          exact ih _ _ _ _ _ (hc.set hi) (hok.put _ _) h1 h2
    intro L S e a w hc hok hW h
    unfold drawWP at h
    cases hf : (Region.ready .any ops L).find? (quietAt ops) with
    | some i =>
      rw [hf] at h; simp only [drawQuiet] at h
      have hi := List.mem_of_find?_eq_some hf
      have hqi : quietAt ops i = true := by simpa using List.find?_some hf
      cases ho : ops[i]? with
      | none => rw [ho] at h; exact h.elim
      | some o =>
        rw [ho] at h; simp only [] at h
        cases hfree : Region.free .any ops L i with
        | false => rw [hfree] at h; exact h.elim
        | true =>
          rw [hfree] at h
          have first : ∀ (v : Value) (St : World → Prop) (S' : List (Nat × Rd)), Quiet P ro ops o v St a →
              (∀ L w, Watching P ops S' L w → Watching P ops S L w) →
              (∀ L w, Closed ops L → L.getD i true = false → Watching P ops S' (L.setIfInBounds i true) w → St w) →
              Watching P ops S' (L.setIfInBounds i true) w →
              drawWP P X n ops K fuel (L.setIfInBounds i true) S' (e.put o.dst v) w →
              AnyGo P X ro ops (Watching P ops S) (fun a w => ∃ e', Env.Ok n e' a ∧ K e' w) (fuel + 1) L a w := by
            intro v St S' hq hm hst hwt hd
            refine any_first (Gi := Watching P ops S') ho (quiet_not_select hs) ?_ hst fuel L a w hc (Region.free_spec ho hfree) hi hq ?_
            · intro L w hg p hp
              exact hg p (by rw [watched_set hqi]; exact hp)
            · exact AnyGo.mono (fun L w hg => ⟨hm L w hg, hg⟩) _ _ _ _ (ih _ _ _ _ _ (hc.set hi) (hok.put _ _) hwt hd)
          have keep : Watching P ops S (L.setIfInBounds i true) w := by
            intro p hp; rw [watched_set hqi] at hp; exact hW p hp
          cases hq : quietOp P (ev n e) o.op with
          | none => rw [hq] at h; exact h.elim
          | some q =>
            rw [hq] at h
            have skip : Region.wanted o (yielded ops a.tmps) = false → drawWP P X n ops K fuel (L.setIfInBounds i true) S (e.put o.dst undef) w →
                AnyGo P X ro ops (Watching P ops S) (fun a w => ∃ e', Env.Ok n e' a ∧ K e' w) (fuel + 1) L a w := fun hw hn =>
              first undef (fun _ => True) S (.inr ⟨hw, rfl⟩) (fun _ _ h => h) (fun _ _ _ _ _ => trivial) keep hn
            cases q with
            | mv v =>
              rcases guard_go hok h with ⟨hw, hy⟩ | ⟨hw, hn, _⟩
              · exact first v (fun _ => True) S (.inl ⟨hw, fun w' _ => quiet_run hok hq rfl⟩) (fun _ _ h => h) (fun _ _ _ _ _ => trivial) keep hy
              · exact skip hw hn
            | pu s =>
              rcases guard_go hok h with ⟨hw, v, hv, hy⟩ | ⟨hw, hn, _⟩
              · exact first v (fun _ => True) S (.inl ⟨hw, fun w' _ => quiet_run hok hq (hv w')⟩) (fun _ _ h => h) (fun _ _ _ _ _ => trivial) keep hy
              · exact skip hw hn
            | rd s =>
              have sub : ∀ (p : Rd) (L : Array Bool) (w : World), Watching P ops ((i, p) :: S) L w → Watching P ops S L w := by
                intro p L w hg q hq
                refine hg q ?_
                simp only [watched]
                split
                · exact hq
                · exact List.mem_cons_of_mem _ hq
              have add : ∀ (p : Rd), Rd.ok P p w → Watching P ops ((i, p) :: S) (L.setIfInBounds i true) w := by
                intro p hp q hq
                rw [watched_set hqi] at hq
                simp only [watched] at hq
                split at hq
                · exact hW q hq
                · rcases List.mem_cons.1 hq with rfl | hq
                  · exact hp
                  · exact hW q hq
              rcases guard_go hok h with ⟨hw, v, hv, hy⟩ | ⟨hw, hn, g, want, hgv, hne⟩
              · refine first v (fun w' => s.run P w' = .ok v w') ((i, guardVal ops n e o, s, v) :: S) (.inl ⟨hw, fun w' hw' => quiet_run hok hq hw'⟩) (sub _) ?_ (add _ ?_) hy
                · intro L w hc hli hg
                  have hin : (guardVal ops n e o, s, v) ∈ watched ops (L.setIfInBounds i true) ((i, guardVal ops n e o, s, v) :: S) := by
                    rw [watched_set hqi]
                    simp only [watched]
                    split
                    · rename_i hany
                      obtain ⟨j, _, hj⟩ := List.any_eq_true.1 hany
                      simp only [Bool.and_eq_true] at hj
                      have := anc_closed hc j hj.1.2 hj.2
                      rcases Nat.lt_or_ge i L.size with h' | h'
                      · simp [h'] at this hli; rw [this] at hli; cases hli
                      · simp [Array.getElem?_eq_none h'] at this
                    · exact List.mem_cons_self ..
                  have hok2 := hg _ hin
                  cases hgv : guardVal ops n e o with
                  | none => rw [hgv] at hok2; exact hok2
                  | some gw =>
                    obtain ⟨g, want⟩ := gw
                    rw [hgv] at hok2
                    exact hok2 (guard_true hok hw hgv)
                · cases hgv : guardVal ops n e o with
                  | none => exact hv
                  | some gw => exact fun _ => hv
              · refine first undef (fun _ => True) ((i, guardVal ops n e o, s, undef) :: S) (.inr ⟨hw, rfl⟩) (sub _) (fun _ _ _ _ _ => trivial) (add _ ?_) hn
                rw [hgv]
                exact fun h => absurd h hne
    | none =>
      rw [hf] at h; simp only [] at h
      cases hr : Region.ready .any ops L with
      | nil => rw [hr] at h; exact ⟨hW, fun _ => ⟨e, hok, h⟩, fun j hj => (by rw [hr] at hj; cases hj)⟩
      | cons i is =>
        cases is with
        | nil =>
          rw [hr] at h; simp only [] at h
          refine ⟨hW, fun h0 => (by rw [hr] at h0; cases h0), fun j hj => ?_⟩
          have hj' := hj
          rw [hr] at hj'
          simp only [List.mem_cons, List.not_mem_nil, or_false] at hj'
          subst hj'
          exact hstep L S e a w hc hok _ hj h
        | cons i' is =>
          rw [hr] at h; simp only [] at h
          refine ⟨hW, fun h0 => (by rw [hr] at h0; cases h0), ?_⟩
          have all : ∀ js, (∀ j ∈ js, j ∈ Region.ready .any ops L) → drawAll (drawStep P X n ops (drawWP P X n ops K fuel) L S e) js w → ∀ j ∈ js,
              OpDo P X ro ops j (AnyGo P X ro ops (Watching P ops S) (fun a w => ∃ e', Env.Ok n e' a ∧ K e' w) fuel (L.setIfInBounds j true)) a w := by
            intro js
            induction js with
            | nil => intro _ _ j hj; cases hj
            | cons k js ih2 =>
              intro hm h j hj
              have h : drawStep P X n ops (drawWP P X n ops K fuel) L S e k w ∧ drawAll (drawStep P X n ops (drawWP P X n ops K fuel) L S e) js w := h
              rcases List.mem_cons.1 hj with rfl | hj
              · exact hstep L S e a w hc hok _ (hm _ (List.mem_cons_self ..)) h.1
              · exact ih2 (fun j hj => hm j (List.mem_cons_of_mem _ hj)) h.2 j hj
          intro j hj
          exact all _ (fun j hj => by rw [hr]; exact hj) h j (by rw [← hr]; exact hj)

theorem closed_start (ops : Array Oper) (m : Nat) : Closed ops (Array.replicate m false) := by
  intro j o _ hL
  simp [Array.getElem?_replicate] at hL
  split at hL <;> simp at hL

theorem draw_start {P : Program} {X : Nat → Prop} {n : Nat} {ro : Option Nat} {ops : Array Oper} {K : Env → WP} {e : Env} {a : Act} {w : World} (hs : Region.noSelect ops = true) (hok : e.Ok n a)
    (h : drawWP P X n ops K ops.size (Array.replicate ops.size false) [] e w) :
    AnyGo P X ro ops (Watching P ops []) (fun a w => ∃ e', Env.Ok n e' a ∧ K e' w) ops.size (Array.replicate ops.size false) a w :=
  draw_go hs _ _ _ _ _ _ (closed_start _ _) hok (fun _ hp => absurd hp List.not_mem_nil) h
end Go.Proofs.Ytcgiobkfgnclcaa
