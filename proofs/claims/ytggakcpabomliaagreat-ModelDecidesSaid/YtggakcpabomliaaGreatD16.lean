/- The proof of a given statement, a part of it (Args Join ShL17 Tab Tab2 Model5 Model6 Model7 Model8 Tab3 Wk DoT Works17 ShR08 ShR17 ShR12 ShR11 Rf11 ShR02 Rf02 Rf11b Rf12 ShR09 ShR10 ShR01 Rf01 Without). No condition but what each lemma says. -/
import Derived.WalkKit
import Derived.ProofKit
import Derived.OpenShut
import Derived.Carry
import Derived.Deep.Slices
import Derived.Test.YtggakcpabomliaaGreatRows
import Derived.Test.YtggakcpabomliaaGreatD15
set_option linter.unusedVariables false
set_option linter.unusedSimpArgs false
namespace Go.Proofs.YtggakcpabomliaaGreat
open Go Go.ChangeShapes Go.WideShapes Go.ChangeAt Go.RowKit
theorem kept_of {w w' : World} (h : But [] w w') (hk : Sk NoX w w') (may : MemPlace → Prop) : w.keptBut w' may := by
  refine ⟨hk.2.2.2.1, hk.2.2.2.2, fun i hi => ?_⟩
  have h1 : w.heap[i]? = some w.heap[i] := Array.getElem?_eq_getElem hi
  have h2 : w'.heap[i]? = some w.heap[i] := h.2 i _ (by simp) h1
  rw [h1, h2]
  cases w.heap[i] <;> simp
theorem law_calls {f : FuncId} {args : Array Value} {w : World} (h : Fn PR NoX f args w (fun v w' => v = .bool true ∧ But [] w w')) :
    Calls PR f args w fun e w' => e = .returned (.bool true) ∧ (∀ may, w.keptBut w' may) ∧ But [] w w' :=
  Calls.mono h fun _ w' ⟨v, he, ⟨hv, hb⟩, hs⟩ => ⟨by rw [he, hv], kept_of hb hs, hb⟩
theorem own : ownKnob PR.godebug = none := by kernel_rfl
theorem laid : laidOutB PR = true := by kernel_rfl
/-- nothing that was handed over has turned, and the call is not to be made again -/
theorem post_plain {H : Type} {enc : TypeId × Value → H} {P : Program} {f : Func} {s : ChangeSpec} {apart fresh handsOn : Bool} {W W' : World} {args : Array Value} {v : Value} {ds gs : List (DataW H)} {before pa pv : List MemPlace}
    (hW : DataW.Whole enc P f.params.toList s.vars apart W args.toList ds gs before)
    (hres : ∀ (b : Nat) (sp : Nat → Bool) (hd : Bool), DataW.TrodAll enc P W' b sp hd f.resultTypes.toList (v.resultList f.resultTypes.size) (s.fn H (ds ++ gs)).results [])
    (hargs : ∀ sp : Nat → Bool, (∀ p ∈ before, sp p.block = true) → DataW.TrodAll enc P W' 0 sp true f.params.toList args.toList (s.fn H (ds ++ gs)).args pa)
    (hvars : ∀ sp : Nat → Bool, (∀ p ∈ before, sp p.block = true) → DataW.TrodVars enc P W' sp s.vars (s.fn H (ds ++ gs)).vars pv)
    (hk : ∀ may, W.keptBut W' may) : s.post enc P f apart fresh handsOn false W args v W' := by
  have hold : ∀ p ∈ before, (fun b => decide (b < W.heap.size)) p.block = true := fun p hp => by simpa using hW.lt p hp
  exact ⟨ds, gs, before, [], pa, pv, hW, hres _ _ _, hargs _ hold, hvars _ hold, hk _, fun h => by cases h⟩
theorem cells_single {v x : Value} (h : v.cells.toList = [x]) (hv : plain v = true) : v = x := by
  cases v <;> first | (simp [Value.cells] at h; exact h) | (simp [plain] at hv)
section
variable {H : Type} {enc : TypeId × Value → H} {P : Program} {w : World} {base : Nat} {spare : Nat → Bool} {held : Bool}
theorem open_sl {α : Type} {f : α → List Value} {k : Nat} (hk : ∀ x, (f x).length = k) (hkp : 0 < k) {Q : α → Prop} {t e : TypeId} {fuel : Nat} {cs : List Value} {x : DataW H × List MemPlace}
    (ht : P.underlying t = some (.slice e)) (hc : P.cellsOf e = k) (h : DataW.trod enc P w base spare held fuel t cs = some x)
    (he : ∀ n cs' y, DataW.trod enc P w base spare held n e cs' = some y → ∃ a, cs' = f a ∧ Q a) :
    ∃ (v : Value) (l : List α), cs = [v] ∧ Rd1 w v l.length (l.flatMap f) ∧ (∀ a ∈ l, Q a) ∧ l.length ≤ maxLen := by
  rcases Go.Deep.open_slice ht h with ⟨rfl, _⟩ | ⟨a, len, cap, m, n, D, Pl, rfl, hb, hl, hm, hmm, _, hx⟩
  · exact ⟨_, [], rfl, Or.inl ⟨rfl, rfl, none, 0, rfl⟩, by simp, by simp⟩
  have hlm : len ≤ m := by rw [hmm]; split <;> omega
  have hch : ∀ i : Fin len, ∃ a' : α, Q a' ∧ w.cells? base (a.add (i.1 * k)) k = some (f a') := by
    intro i
    obtain ⟨cs', h1, h2⟩ := hx i.1 (by omega)
    obtain ⟨a', rfl, hq⟩ := he _ _ _ h2
    rw [hc] at h1
    exact ⟨a', hq, h1⟩
  let g : Fin len → α := fun i => Classical.choose (hch i)
  have hg : ∀ i, Q (g i) ∧ w.cells? base (a.add (i.1 * k)) k = some (f (g i)) := fun i => Classical.choose_spec (hch i)
  refine ⟨_, List.ofFn g, rfl, ?_, ?_, by simp; omega⟩
  · by_cases h0 : len = 0
    · subst h0; exact Or.inl ⟨by simp, by simp, _, _, rfl⟩
    obtain ⟨b, o, spot⟩ := a
    have h1 := (World.cells?_some (hg ⟨0, by omega⟩).2).2.2 0 hkp
    have hfl := hk (g ⟨0, by omega⟩)
    rw [List.getElem?_eq_getElem (by omega)] at h1
    have hspot : spot = none := by simpa [Addr.add] using World.cell?_spot h1
    subst hspot
    refine Or.inr ⟨b, o, cap, by simp, fun i hi => ?_⟩
    rw [flat_len hk] at hi
    simp only [List.length_ofFn] at hi
    have hd : i / k * k + i % k = i := by rw [Nat.mul_comm]; exact Nat.div_add_mod i k
    have hj : i % k < k := Nat.mod_lt _ hkp
    have hi' : i / k < len := by rw [Nat.div_lt_iff_lt_mul hkp]; exact hi
    have h2 := (World.cells?_some (hg ⟨i / k, hi'⟩).2).2.2 (i % k) hj
    rw [← hd, flat_get hk _ _ _ hj, List.getElem?_ofFn, dif_pos hi']
    simp only [Option.bind_some]
    rw [← h2, add_mk, add_mk]
    simp only [Nat.add_assoc]
  · intro a' ha'
    rw [List.mem_ofFn] at ha'
    obtain ⟨i, rfl⟩ := ha'
    exact (hg i).1
theorem open_int1 {t : TypeId} {k : IntKind} {fuel : Nat} {cs : List Value} {x : DataW H × List MemPlace} (ht : P.underlying t = some (.int k)) (h : DataW.trod enc P w base spare held fuel t cs = some x) :
    ∃ a : Int, cs = [.int k a] ∧ (Lit.int k a).wf = true := by
  obtain ⟨n, h1, _, h2⟩ := DataW.trod_int ht h
  exact ⟨n, h1, h2⟩
theorem open_str1 {t : TypeId} {fuel : Nat} {cs : List Value} {x : DataW H × List MemPlace} (ht : P.underlying t = some .string) (h : DataW.trod enc P w base spare held fuel t cs = some x) :
    ∃ s : ByteArray, cs = [.string s] ∧ s.size ≤ maxLen := by
  obtain ⟨s, h1, _, h2⟩ := DataW.trod_string ht h
  exact ⟨s, h1, h2⟩
/-- a slice argument -/
theorem open_slarg {α : Type} {f : α → List Value} {t e : TypeId} {Q : List α → Prop} {r : Reach} {b0 : Nat} {v : Value} {d : DataW H} {ps : List MemPlace} (ht : P.underlying t = some (.slice e)) (hval : Value.okWide P w r b0 t v) (hd : DataW.Trod enc P w base spare held t v d ps)
    (h : ∀ fuel cs x, DataW.trod enc P w base spare held fuel t cs = some x → ∃ (v : Value) (l : List α), cs = [v] ∧ Rd1 w v l.length (l.flatMap f) ∧ Q l) : ∃ l : List α, Rd1 w v l.length (l.flatMap f) ∧ Q l := by
  obtain ⟨a, len, cap, rfl⟩ := okWide_slice ht hval
  obtain ⟨fuel, hf⟩ := hd
  obtain ⟨v', l, h1, h2⟩ := h _ _ _ hf
  have : Value.slice a len cap = v' := cells_single h1 rfl
  subst this
  exact ⟨l, h2⟩
end
/-- all arguments read as they read before -/
theorem trodAll_stays {H : Type} {enc : TypeId × Value → H} {P : Program} (hl : laidOutB P = true) {W W' : World} (hb : But [] W W') {sp : Nat → Bool} :
    ∀ {ts : List TypeId} {vs : List Value} {ds : List (DataW H)} {ps : List MemPlace}, (ts.all fun t => P.readableRec t && decide (t < P.types.size)) = true → DataW.TrodAll enc P W 0 (fun _ => true) true ts vs ds ps →
      (∀ p ∈ ps, p.block < W.heap.size) → (∀ p ∈ ps, sp p.block = true) → DataW.TrodAll enc P W' 0 sp true ts vs ds ps := by
  intro ts
  induction ts with
  | nil => intro vs ds ps _ h _ _; cases vs <;> cases ds <;> exact h
  | cons t ts ih =>
    intro vs ds ps ht h hlt hsp
    simp only [List.all_cons, Bool.and_eq_true, decide_eq_true_eq] at ht
    obtain ⟨v, vs', d, ds', p, q, rfl, rfl, rfl, h0, hr⟩ := trodAll_cons h
    refine ⟨p, q, WideElems.Trod_stays hl ht.1.1 ht.1.2 h0 (fun x hx => ?_) (fun x hx => hsp x (List.mem_append_left _ hx)),
      ih ht.2 hr (fun x hx => hlt x (List.mem_append_right _ hx)) (fun x hx => hsp x (List.mem_append_right _ hx)), rfl⟩
    have hlt' := hlt x (List.mem_append_left _ hx)
    have e1 : W.heap[x.block]? = some W.heap[x.block] := Array.getElem?_eq_getElem hlt'
    have e2 : W'.heap[x.block]? = some W.heap[x.block] := hb.2 _ _ (by simp) e1
    cases x with
    | cell b o => show W'.cell? _ = W.cell? _; unfold World.cell?; rw [show W'.heap[b]? = W.heap[b]? from e2.trans e1.symm]
    | map b => exact e2.trans e1.symm
set_option maxRecDepth 10000
section
variable {H : Type} {enc : TypeId × Value → H} {w : World} {base : Nat} {spare : Nat → Bool} {held : Bool} {fuel : Nat} {cs : List Value} {x : DataW H × List MemPlace}
theorem open_bk (h : DataW.trod enc PR w base spare held fuel 103 cs = some x) : ∃ a : BkV, cs = encB a ∧ True := by
  obtain ⟨xs, n, _, rfl, hl, hxl, hf⟩ := DataW.trod_struct ty103.und h
  have hl4 : cs.length = 2 := hl.trans (by kernel_rfl)
  have hx4 : xs.length = 2 := hxl.trans (by kernel_rfl)
  match cs, hl4 with
  | [c0, c1], _ =>
    have f0 := hf 0 _ rfl
    have f1 := hf 1 _ rfl
    rw [List.getElem?_eq_getElem (by omega)] at f0 f1
    obtain ⟨a0, e0, _⟩ := open_int1 Tryz.underlying3 f0
    obtain ⟨a1, e1, _⟩ := open_int1 Tryz.underlying3 f1
    have e0 : [c0] = [.int .i64 a0] := e0
    have e1 : [c1] = [.int .i64 a1] := e1
    cases e0; cases e1
    exact ⟨(a0, a1), rfl, trivial⟩
theorem open_bks (h : DataW.trod enc PR w base spare held fuel 32 cs = some x) : ∃ (v : Value) (l : List BkV), cs = [v] ∧ Rd1 w v l.length (l.flatMap encB) ∧ l.length ≤ maxLen := by
  obtain ⟨v, l, h1, h2, _, h3⟩ := open_sl (f := encB) (k := 2) (Q := fun _ => True) (fun _ => rfl) (by omega) Tryz.underlying32 (by kernel_rfl) h (fun n cs' y hy => open_bk hy)
  exact ⟨v, l, h1, h2, h3⟩
theorem open_en (h : DataW.trod enc PR w base spare held fuel 71 cs = some x) : ∃ a : EnV, cs = encE a ∧ a.key.size ≤ maxLen := by
  obtain ⟨xs, n, _, rfl, hl, hxl, hf⟩ := DataW.trod_struct ty71.und h
  have hl4 : cs.length = 4 := hl.trans (by kernel_rfl)
  have hx4 : xs.length = 4 := hxl.trans (by kernel_rfl)
  match cs, hl4 with
  | [c0, c1, c2, c3], _ =>
    have f0 := hf 0 _ rfl
    have f1 := hf 1 _ rfl
    have f2 := hf 2 _ rfl
    have f3 := hf 3 _ rfl
    rw [List.getElem?_eq_getElem (by omega)] at f0 f1 f2 f3
    obtain ⟨a0, e0, _⟩ := open_int1 Tryz.underlying3 f0
    obtain ⟨a1, e1, hs⟩ := open_str1 Tryz.underlying9 f1
    obtain ⟨a2, e2, _⟩ := open_int1 Tryz.underlying3 f2
    obtain ⟨a3, e3, _⟩ := open_int1 Tryz.underlying3 f3
    have e0 : [c0] = [.int .i64 a0] := e0
    have e1 : [c1] = [.string a1] := e1
    have e2 : [c2] = [.int .i64 a2] := e2
    have e3 : [c3] = [.int .i64 a3] := e3
    cases e0; cases e1; cases e2; cases e3
    exact ⟨⟨a0, a1, a2, a3⟩, rfl, hs⟩
theorem open_bks_arg {r : Reach} {b0 : Nat} {v : Value} {d : DataW H} {ps : List MemPlace} (hval : Value.okWide PR w r b0 32 v) (hd : DataW.Trod enc PR w base spare held 32 v d ps) : ∃ l : List BkV, Rd1 w v l.length (l.flatMap encB) ∧ l.length ≤ maxLen :=
  open_slarg Tryz.underlying32 hval hd fun _ _ _ h => open_bks h
theorem open_ens_arg {r : Reach} {b0 : Nat} {v : Value} {d : DataW H} {ps : List MemPlace} (hval : Value.okWide PR w r b0 50 v) (hd : DataW.Trod enc PR w base spare held 50 v d ps) : ∃ l : List EnV, Rd1 w v l.length (l.flatMap encE) ∧ (∀ a ∈ l, a.key.size ≤ maxLen) ∧ l.length ≤ maxLen :=
  open_slarg Tryz.underlying50 hval hd fun _ _ _ h => open_sl (f := encE) (k := 4) (Q := fun a => a.key.size ≤ maxLen) (fun _ => rfl) (by omega) Tryz.underlying50 (by kernel_rfl) h (fun n cs' y hy => open_en hy)
end
end Go.Proofs.YtggakcpabomliaaGreat
namespace Go.Proofs.YtggakcpabomliaaGreat
open Go
set_option maxRecDepth 100000
theorem jf2 : mapsRowed Tryz.prog = true := by kernel_rfl
theorem jf6 : (Program.stops Tryz.prog == []) = true := by kernel_rfl
theorem jf8 : (Program.stopKnobs Tryz.prog == []) = true := by kernel_rfl
theorem jf24 : Program.stopsHeard Tryz.prog = true := by kernel_rfl
theorem jf25 : Program.mayEnter Tryz.prog = true := by kernel_rfl
end Go.Proofs.YtggakcpabomliaaGreat
namespace Go.Proofs.YtggakcpabomliaaGreat
open Go
def sh_gangplanklaw17_ModelDecides (X : Nat → Prop) (t0 t1 t2 t3 t4 t5 t6 : Value) (R : Value → WP) : WP :=
  cal PR X 14 [] fun t22 =>
  jn (n := 1) (fun t14 =>
  cal PR X 26 [t0] fun t26 =>
  jn (n := 1) (fun t14_1 =>
  cal PR X 27 [t0, t1, t2, t3, t4, t5] fun t52 =>
  pur PR (Instr.extract t52 0) fun t53 =>
  pur PR (Instr.extract t52 1) fun t54 =>
  lou PR X (Instr.alloc 39 true (.tuple #[])) fun t18 =>
  sto PR X (Instr.storeAt 39 t18 t54) <|
  cal PR X 28 [t0, t1, t2, t3, t4, t5] fun t62 =>
  pur PR (Instr.extract t62 0) fun t63 =>
  pur PR (Instr.extract t62 1) fun t64 =>
  lou PR X (Instr.alloc 39 true (.tuple #[])) fun t20 =>
  sto PR X (Instr.storeAt 39 t20 t64) <|
  cal PR X 24 [t53, t63] fun t67 =>
  gj t22 true (fun J => J t67) fun t70 =>
  pur PR (do pure (if ← asBool t22 then t70 else (.bool false))) fun t71 =>
  gj t71 true (fun J => rds PR (Instr.loadAt 39 t18) J) fun t73 =>
  gj t71 true (fun J => rds PR (Instr.loadAt 39 t20) J) fun t74 =>
  gj t71 true (fun J => rds PR (eqS .eql 39 (.tmp 73) (.tmp 74) t73 t74) J) fun t75 =>
  pur PR (do pure (if ← asBool t71 then t75 else (.bool false))) fun t76 =>
  gj t76 true (fun J => J t2) fun t78 =>
  gj t76 true (fun J => J t6) fun t79 =>
  gj t76 true (fun J => cal PR X 29 [t78, t79] J) fun t80 =>
  gj t76 true (fun J => J t2) fun t81 =>
  gj t76 true (fun J => J t6) fun t82 =>
  gj t76 true (fun J => cal PR X 30 [t81, t82] J) fun t83 =>
  gj t76 true (fun J => pur PR (binOp .eql 3 t80 t83) J) fun t84 =>
  pur PR (do pure (if ← asBool t76 then t84 else (.bool false))) fun t85 =>
  R t85) fun J1 =>
  pur PR (Op.unary .not t26) fun t28 =>
  gj t28 false (fun J => J t0) fun t30 =>
  gj t28 false (fun J => pur PR (builtinS .len #[50] 0 [t30]) J) fun t31 =>
  gj t28 false (fun J => pur PR (binOp .gtr 3 t31 (.int .i64 64)) J) fun t32 =>
  pur PR (do pure (if ← asBool t28 then (.bool true) else t32)) fun t33 =>
  gj t33 false (fun J => J t1) fun t35 =>
  gj t33 false (fun J => pur PR (builtinS .len #[32] 0 [t35]) J) fun t36 =>
  gj t33 false (fun J => pur PR (binOp .gtr 3 t36 (.int .i64 8)) J) fun t37 =>
  pur PR (do pure (if ← asBool t33 then (.bool true) else t37)) fun t38 =>
  gj t38 false (fun J => J t2) fun t40 =>
  gj t38 false (fun J => pur PR (builtinS .len #[9] 0 [t40]) J) fun t41 =>
  gj t38 false (fun J => pur PR (binOp .gtr 3 t41 (.int .i64 60)) J) fun t42 =>
  pur PR (do pure (if ← asBool t38 then (.bool true) else t42)) fun t43 =>
  cnd t43 (
  R t22) (
  J1 t14)) fun J2 =>
  pur PR (Op.unary .not t22) fun t24 =>
  cnd t24 (
  R (.bool false)) (
  J2 (.bool false))
theorem sh_gangplanklaw17_ModelDecides_eq (X : Nat → Prop) (t0 t1 t2 t3 t4 t5 t6 : Value) (R : Value → WP) : vcFun PR X Tryz.f4 [t0, t1, t2, t3, t4, t5, t6] R = sh_gangplanklaw17_ModelDecides X t0 t1 t2 t3 t4 t5 t6 R := by kernel_rfl
theorem mk_gangplanklaw17_ModelDecides {X : Nat → Prop} {t0 t1 t2 t3 t4 t5 t6 : Value} {R : Value → WP} {w : World} (h : sh_gangplanklaw17_ModelDecides X t0 t1 t2 t3 t4 t5 t6 R w) : Fn PR X 4 #[t0, t1, t2, t3, t4, t5, t6] w R := fn_of_vc (args := [t0, t1, t2, t3, t4, t5, t6]) mixed Tryz.func4 (by rw [sh_gangplanklaw17_ModelDecides_eq]; exact h)
def sh_gangplanklaw17_works (X : Nat → Prop) (R : Value → WP) : WP :=
  pur PR (Instr.build 23 #[(0, (.int .i64 1)), (1, (.int .i64 1)), (2, (.int .i64 1)), (3, (.int .i64 5)), (4, (.int .i64 2))]) fun t14 =>
  lou PR X (Instr.alloc 23 true (.tuple #[])) fun t1 =>
  sto PR X (Instr.storeAt 23 t1 t14) <|
  rds PR (Instr.loadAt 23 t1) fun t16 =>
  cal PR X 16 [t16] fun t17 =>
  pur PR (Instr.extract t17 0) fun t18 =>
  pur PR (Instr.extract t17 1) fun t19 =>
  pur PR (Instr.build 23 #[]) fun t21 =>
  cal PR X 16 [t21] fun t22 =>
  pur PR (Instr.extract t22 0) fun t23 =>
  pur PR (Instr.extract t22 1) fun t24 =>
  jn (n := 1) (fun t0 =>
  pur PR (Instr.build 99 #[(0, (.int .i64 4)), (1, (.string (ByteArray.mk #[97, 98, 99, 100]))), (2, (.string (ByteArray.mk #[101, 102, 103, 104]))), (3, (.int .i64 1)), (4, (.int .i64 2)), (5, (.int .i64 17))]) fun t28 =>
  pur PR (Instr.build 101 #[(0, t28)]) fun t29 =>
  cal PR X 54 [t29] fun t30 =>
  pur PR (Instr.extract t30 0) fun t31 =>
  pur PR (Instr.extract t30 1) fun t32 =>
  pur PR (Instr.build 42 #[(1, t31)]) fun t35 =>
  cal PR X 20 [t18, t35, (.int .i64 0)] fun t36 =>
  lou PR X (Instr.alloc 39 true (.tuple #[])) fun t8 =>
  sto PR X (Instr.storeAt 39 t8 t36) <|
  pur PR (Instr.build 103 #[(0, (.int .i64 7)), (1, (.int .i64 1))]) fun t38 =>
  lou PR X (Instr.buildSlice 32 1 #[(0, t38)]) fun t39 =>
  pur PR (Instr.build 42 #[(0, (.int .i64 1)), (2, t39)]) fun t40 =>
  cal PR X 20 [t18, t40, (.int .i64 0)] fun t41 =>
  lou PR X (Instr.alloc 39 true (.tuple #[])) fun t9 =>
  sto PR X (Instr.storeAt 39 t9 t41) <|
  pur PR (Instr.build 42 #[(1, t31)]) fun t44 =>
  cal PR X 20 [t18, t44, (.int .i64 0)] fun t45 =>
  lou PR X (Instr.alloc 39 true (.tuple #[])) fun t10 =>
  sto PR X (Instr.storeAt 39 t10 t45) <|
  pur PR (Instr.build 42 #[(1, t31)]) fun t48 =>
  cal PR X 20 [t18, t48, (.int .i64 5)] fun t49 =>
  lou PR X (Instr.alloc 39 true (.tuple #[])) fun t11 =>
  sto PR X (Instr.storeAt 39 t11 t49) <|
  pur PR (Instr.build 42 #[(1, t31)]) fun t52 =>
  cal PR X 20 [t18, t52, (.int .i64 11)] fun t53 =>
  lou PR X (Instr.alloc 39 true (.tuple #[])) fun t12 =>
  sto PR X (Instr.storeAt 39 t12 t53) <|
  pur PR (Instr.build 42 #[(0, (.int .i64 3))]) fun t55 =>
  cal PR X 20 [t18, t55, (.int .i64 11)] fun t56 =>
  lou PR X (Instr.alloc 39 true (.tuple #[])) fun t13 =>
  sto PR X (Instr.storeAt 39 t13 t56) <|
  pur PR (binOp .eql 28 t19 (.int .i64 0)) fun t58 =>
  gj t58 true (fun J => J t24) fun t60 =>
  gj t58 true (fun J => pur PR (binOp .eql 28 t60 (.int .i64 1)) J) fun t61 =>
  pur PR (do pure (if ← asBool t58 then t61 else (.bool false))) fun t62 =>
  gj t62 true (fun J => rds PR (Instr.loadAt 39 t8) J) fun t64 =>
  gj t62 true (fun J => pur PR (Instr.build 39 #[(0, (.int .i64 11))]) J) fun t65 =>
  gj t62 true (fun J => rds PR (eqS .eql 39 (.tmp 64) (.tmp 65) t64 t65) J) fun t66 =>
  pur PR (do pure (if ← asBool t62 then t66 else (.bool false))) fun t67 =>
  gj t67 true (fun J => rds PR (Instr.loadAt 39 t9) J) fun t69 =>
  gj t67 true (fun J => pur PR (Instr.build 39 #[]) J) fun t70 =>
  gj t67 true (fun J => rds PR (eqS .eql 39 (.tmp 69) (.tmp 70) t69 t70) J) fun t71 =>
  pur PR (do pure (if ← asBool t67 then t71 else (.bool false))) fun t72 =>
  gj t72 true (fun J => rds PR (Instr.loadAt 39 t10) J) fun t74 =>
  gj t72 true (fun J => pur PR (Instr.build 39 #[(1, (.int .i64 7)), (2, (.bool true))]) J) fun t75 =>
  gj t72 true (fun J => rds PR (eqS .eql 39 (.tmp 74) (.tmp 75) t74 t75) J) fun t76 =>
  pur PR (do pure (if ← asBool t72 then t76 else (.bool false))) fun t77 =>
  gj t77 true (fun J => rds PR (Instr.loadAt 39 t11) J) fun t79 =>
  gj t77 true (fun J => pur PR (Instr.build 39 #[(1, (.int .i64 7))]) J) fun t80 =>
  gj t77 true (fun J => rds PR (eqS .eql 39 (.tmp 79) (.tmp 80) t79 t80) J) fun t81 =>
  pur PR (do pure (if ← asBool t77 then t81 else (.bool false))) fun t82 =>
  gj t82 true (fun J => rds PR (Instr.loadAt 39 t12) J) fun t84 =>
  gj t82 true (fun J => pur PR (Instr.build 39 #[(1, (.int .i64 7)), (2, (.bool true))]) J) fun t85 =>
  gj t82 true (fun J => rds PR (eqS .eql 39 (.tmp 84) (.tmp 85) t84 t85) J) fun t86 =>
  pur PR (do pure (if ← asBool t82 then t86 else (.bool false))) fun t87 =>
  gj t87 true (fun J => rds PR (Instr.loadAt 39 t13) J) fun t89 =>
  gj t87 true (fun J => pur PR (Instr.build 39 #[(3, (.int .i64 1))]) J) fun t90 =>
  gj t87 true (fun J => rds PR (eqS .eql 39 (.tmp 89) (.tmp 90) t89 t90) J) fun t91 =>
  pur PR (do pure (if ← asBool t87 then t91 else (.bool false))) fun t92 =>
  gj t92 true (fun J => J t18) fun t94 =>
  gj t92 true (fun J => cal PR X 23 [t94] J) fun t95 =>
  gj t92 true (fun J => pur PR (builtinS .len #[32] 0 [t95]) J) fun t96 =>
  gj t92 true (fun J => pur PR (binOp .eql 3 t96 (.int .i64 1)) J) fun t97 =>
  pur PR (do pure (if ← asBool t92 then t97 else (.bool false))) fun t98 =>
  gj t98 true (fun J => J t18) fun t100 =>
  gj t98 true (fun J => cal PR X 25 [t100, (.int .i64 0)] J) fun t101 =>
  gj t98 true (fun J => pur PR (builtinS .len #[50] 0 [t101]) J) fun t102 =>
  gj t98 true (fun J => pur PR (binOp .eql 3 t102 (.int .i64 1)) J) fun t103 =>
  pur PR (do pure (if ← asBool t98 then t103 else (.bool false))) fun t104 =>
  gj t104 true (fun J => J t18) fun t106 =>
  gj t104 true (fun J => cal PR X 25 [t106, (.int .i64 1)] J) fun t107 =>
  gj t104 true (fun J => pur PR (builtinS .len #[50] 0 [t107]) J) fun t108 =>
  gj t104 true (fun J => pur PR (binOp .eql 3 t108 (.int .i64 0)) J) fun t109 =>
  pur PR (do pure (if ← asBool t104 then t109 else (.bool false))) fun t110 =>
  gj t110 true (fun J => J t18) fun t112 =>
  gj t110 true (fun J => pur PR (Instr.build 42 #[]) J) fun t113 =>
  gj t110 true (fun J => cal PR X 20 [t112, t113, (.int .i64 0)] J) fun t114 =>
  gj t110 true (fun J => pur PR (Instr.field 39 t114 0) J) fun t115 =>
  gj t110 true (fun J => pur PR (binOp .eql 28 t115 (.int .i64 9)) J) fun t116 =>
  pur PR (do pure (if ← asBool t110 then t116 else (.bool false))) fun t117 =>
  gj t117 true (fun J => J t18) fun t119 =>
  gj t117 true (fun J => pur PR (Instr.build 42 #[(0, (.int .i64 9))]) J) fun t120 =>
  gj t117 true (fun J => cal PR X 20 [t119, t120, (.int .i64 0)] J) fun t121 =>
  gj t117 true (fun J => pur PR (Instr.field 39 t121 0) J) fun t122 =>
  gj t117 true (fun J => pur PR (binOp .eql 28 t122 (.int .i64 1)) J) fun t123 =>
  pur PR (do pure (if ← asBool t117 then t123 else (.bool false))) fun t124 =>
  R t124) fun J1 =>
  rds PR (eqS .eql 27 (.tmp 25) (.const (.pointer none)) t18 (.pointer none)) fun t26 =>
  cnd t26 (
  R (.bool false)) (
  J1 (.bool false))
theorem sh_gangplanklaw17_works_eq (X : Nat → Prop) (R : Value → WP) : vcFun PR X Tryz.f14 [] R = sh_gangplanklaw17_works X R := by kernel_rfl
theorem ent_gangplanklaw17_works : Enters PR 14 := enters_of Tryz.func14 (by kernel_rfl) rfl
theorem mk_gangplanklaw17_works {X : Nat → Prop} {R : Value → WP} {w : World} (h : sh_gangplanklaw17_works X R w) : Fn PR X 14 #[] w R := fn_of_vc (args := []) mixed Tryz.func14 (by rw [sh_gangplanklaw17_works_eq]; exact h)
end Go.Proofs.YtggakcpabomliaaGreat
namespace Go.Proofs.YtggakcpabomliaaGreat
open Go
/-- a way's place with another entry at j -/
def upW (j : Nat) (x : EnV) (p : Nat × EnV) : Nat × EnV := if p.1 = j then (j, x) else p
theorem findW_ge (key : ByteArray) : ∀ L, -1 ≤ findW key L := by
  intro L
  induction L with
  | nil => simp [findW]
  | cons p L ih => simp only [findW]; repeat' split
                   all_goals first | omega | exact ih
theorem findE_ge (l : List EnV) (key : ByteArray) : -1 ≤ findE l key := findW_ge _ _
theorem findW_put1 {key : ByteArray} {j : Nat} {x : EnV} (h1 : x.st = 1) (hk : x.key = key) : ∀ L, findW key L = j → findW key (L.map (upW j x)) = j := by
  intro L
  induction L with
  | nil => intro h; simp [findW] at h <;> omega
  | cons p L ih =>
    intro h
    rw [List.map_cons]
    by_cases c : p.1 = j
    · simp [findW, upW, c, h1, hk]
    · have hu : upW j x p = p := if_neg c
      simp only [findW] at h ⊢
      rw [hu]
      split at h
      · omega
      · split at h
        · omega
        · rename_i c0 c1
          rw [if_neg c0, if_neg c1]; exact ih h
theorem findW_put2 {key : ByteArray} {j : Nat} {x : EnV} (h1 : x.st = 1) (hk : x.key = key) : ∀ L, findW key L < 0 → roomW L = j → findW key (L.map (upW j x)) = j := by
  intro L
  induction L with
  | nil => intro _ h; simp [roomW] at h <;> omega
  | cons p L ih =>
    intro hf h
    rw [List.map_cons]
    by_cases c : p.1 = j
    · simp [findW, upW, c, h1, hk]
    · have hu : upW j x p = p := if_neg c
      simp only [findW, roomW] at h hf ⊢
      rw [hu]
      by_cases c1 : p.2.st = 1
      · rw [if_pos c1] at h
        rw [if_neg (by omega)] at hf ⊢
        by_cases c2 : p.2.st = 1 ∧ p.2.key = key
        · rw [if_pos c2] at hf; omega
        · rw [if_neg c2] at hf ⊢; exact ih hf h
      · rw [if_neg c1] at h; omega
theorem wayL_set (l : List EnV) (key : ByteArray) (j : Nat) (x : EnV) (hj : j < l.length) : wayL (l.set j x) key = (wayL l key).map (upW j x) := by
  unfold wayL
  rw [List.length_set, List.map_map]
  refine List.map_congr_left fun i hi => ?_
  have hi' : i < l.length := List.mem_range.1 hi
  have hm : (homeV key l.length + i) % l.length < l.length := Nat.mod_lt _ (by omega)
  simp only [Function.comp_apply, upW]
  generalize (homeV key l.length + i) % l.length = q at *
  by_cases c : q = j
  · subst c; simp [List.getD_eq_getElem?_getD, hm]
  · rw [if_neg c]; simp [List.getD_eq_getElem?_getD, List.getElem?_set_ne (Ne.symm c)]
theorem findW_mem {key : ByteArray} {j : Nat} : ∀ L, findW key L = j → ∃ x, (j, x) ∈ L ∧ x.st = 1 ∧ x.key = key := by
  intro L
  induction L with
  | nil => intro h; simp [findW] at h <;> omega
  | cons p L ih =>
    intro h
    simp only [findW] at h
    split at h
    · omega
    · split at h
      · rename_i c
        have : p.1 = j := by omega
        exact ⟨p.2, by rw [← this]; simp, c⟩
      · obtain ⟨x, h1, h2⟩ := ih h
        exact ⟨x, List.mem_cons_of_mem _ h1, h2⟩
theorem wayL_get {l : List EnV} {key : ByteArray} {p : Nat × EnV} (h : p ∈ wayL l key) : l[p.1]? = some p.2 := by
  unfold wayL at h
  obtain ⟨i, hi, rfl⟩ := List.mem_map.1 h
  have hi' : i < l.length := List.mem_range.1 hi
  exact getD_some noE (Nat.mod_lt _ (by omega))
theorem findE_at {l : List EnV} {key : ByteArray} {j : Nat} (h : findE l key = j) : ∃ x, l[j]? = some x ∧ x.st = 1 ∧ x.key = key := by
  obtain ⟨x, h1, h2⟩ := findW_mem _ h
  exact ⟨x, wayL_get h1, h2⟩
/-- what is put is found -/
theorem putE_find {l u : List EnV} {x : EnV} (h : putE l x = some u) (h1 : x.st = 1) : ∃ j, j < l.length ∧ u = l.set j x ∧ findE u x.key = (j : Nat) ∧ (findE l x.key = (j : Nat) ∨ findE l x.key < 0 ∧ roomW (wayL l x.key) = (j : Nat)) := by
  unfold putE at h
  simp only at h
  by_cases c : findE l x.key < 0
  · rw [if_pos c] at h
    by_cases c2 : roomE l x.key < 0
    · rw [if_pos c2] at h; cases h
    · rw [if_neg c2] at h
      injection h with h
      have hr : roomE l x.key = roomW (wayL l x.key) := if_neg (by omega)
      have hlt := roomE_lt (l := l) (key := x.key) (by omega)
      refine ⟨_, hlt, h.symm, ?_, Or.inr ⟨c, by omega⟩⟩
      subst h
      unfold findE
      rw [wayL_set _ _ _ _ hlt]
      exact findW_put2 h1 rfl _ c (by omega)
  · rw [if_neg c, if_neg c] at h
    injection h with h
    have hlt := findE_lt (l := l) (key := x.key) (by omega)
    refine ⟨_, hlt, h.symm, ?_, Or.inl (by omega)⟩
    subst h
    unfold findE at *
    rw [wayL_set _ _ _ _ hlt]
    exact findW_put1 h1 rfl _ (by omega)
theorem putE_set {l u : List EnV} {x : EnV} (h : putE l x = some u) : ∃ j, j < l.length ∧ u = l.set j x := by
  unfold putE at h
  simp only at h
  by_cases c : findE l x.key < 0
  · rw [if_pos c] at h
    by_cases c2 : roomE l x.key < 0
    · rw [if_pos c2] at h; cases h
    · rw [if_neg c2] at h
      injection h with h
      exact ⟨_, roomE_lt (by omega), h.symm⟩
  · rw [if_neg c, if_neg c] at h
    injection h with h
    exact ⟨_, findE_lt (by omega), h.symm⟩
theorem putE_none {l : List EnV} {x : EnV} (h : putE l x = none) : findE l x.key < 0 := by
  unfold putE at h
  simp only at h
  by_cases c : findE l x.key < 0
  · exact c
  · rw [if_neg c, if_neg c] at h; cases h
theorem liveF_iff {l : List EnV} {i : Nat} {p : Nat × EnV} : p ∈ liveF i l ↔ i ≤ p.1 ∧ l[p.1 - i]? = some p.2 ∧ p.2.st = 1 := by
  induction l generalizing i with
  | nil => simp [liveF]
  | cons x l ih =>
    have hs : i + 1 ≤ p.1 → (x :: l)[p.1 - i]? = l[p.1 - (i + 1)]? := fun h => by
      rw [show p.1 - i = (p.1 - (i + 1)) + 1 by omega, List.getElem?_cons_succ]
    have h0 : ∀ h : i ≤ p.1, ¬ i + 1 ≤ p.1 → p.1 = i := fun _ _ => by omega
    unfold liveF
    split
    · rename_i c
      rw [List.mem_cons, ih]
      constructor
      · rintro (rfl | ⟨a, b, d⟩)
        · simp [c]
        · exact ⟨by omega, by rw [hs a]; exact b, d⟩
      · rintro ⟨a, b, d⟩
        by_cases e : i + 1 ≤ p.1
        · exact Or.inr ⟨e, by rw [← hs e]; exact b, d⟩
        · have := h0 a e
          left
          rw [this] at b
          simp at b
          obtain ⟨q, y⟩ := p
          simp_all
    · rename_i c
      rw [ih]
      constructor
      · rintro ⟨a, b, d⟩
        exact ⟨by omega, by rw [hs a]; exact b, d⟩
      · rintro ⟨a, b, d⟩
        by_cases e : i + 1 ≤ p.1
        · exact ⟨e, by rw [← hs e]; exact b, d⟩
        · have := h0 a e
          rw [this] at b
          simp at b
          rw [b] at c
          exact absurd d c
theorem liveL_iff {l : List EnV} {p : Nat × EnV} : p ∈ liveL l ↔ l[p.1]? = some p.2 ∧ p.2.st = 1 := by
  unfold liveL; rw [liveF_iff]; simp
theorem rightE_iff {l : List EnV} : rightE l = true ↔ ∀ (i : Nat) (x : EnV), l[i]? = some x → x.st = 1 → findE l x.key = (i : Nat) := by
  unfold rightE
  rw [List.all_eq_true]
  constructor
  · intro h i x hx h1
    simpa using h (i, x) (liveL_iff.2 ⟨hx, h1⟩)
  · intro h p hp
    obtain ⟨h1, h2⟩ := liveL_iff.1 hp
    simpa using h p.1 p.2 h1 h2
/-- no flow has this key -/
def noKey (l : List EnV) (key : ByteArray) : Prop := ∀ (i : Nat) (x : EnV), l[i]? = some x → x.st = 1 → x.key ≠ key
theorem noKey.find {l : List EnV} {key : ByteArray} (h : noKey l key) : findE l key < 0 := by
  have hg := findE_ge l key
  by_cases c : findE l key < 0
  · exact c
  · obtain ⟨x, h1, h2, h3⟩ := findE_at (l := l) (key := key) (j := (findE l key).toNat) (by omega)
    exact absurd h3 (h _ _ h1 h2)
theorem getElem?_set_some {α : Type} {l : List α} {i j : Nat} {x y : α} (h : (l.set j x)[i]? = some y) : (i = j ∧ y = x) ∨ (i ≠ j ∧ l[i]? = some y) := by
  by_cases c : i = j
  · subst c
    rw [List.getElem?_set_self'] at h
    cases hl : l[i]? with
    | none => rw [hl] at h; cases h
    | some z => rw [hl] at h; left; exact ⟨rfl, by simpa using h.symm⟩
  · rw [List.getElem?_set_ne (Ne.symm c)] at h
    exact Or.inr ⟨c, h⟩
theorem noKey.set {l : List EnV} {key : ByteArray} {j : Nat} {x : EnV} (h : noKey l key) (hx : x.st = 1 → x.key ≠ key) : noKey (l.set j x) key := fun i y hy h1 => by
  rcases getElem?_set_some hy with ⟨_, rfl⟩ | ⟨_, h2⟩
  · exact hx h1
  · exact h i y h2 h1
theorem noKey.put {l : List EnV} {key : ByteArray} {x : EnV} (h : noKey l key) (hx : x.st = 1 → x.key ≠ key) : noKey (putS l x) key := by
  unfold putS
  cases hp : putE l x with
  | none => exact h
  | some u => obtain ⟨j, _, rfl⟩ := putE_set hp; exact h.set hx
theorem noKey.newE (n : Nat) (key : ByteArray) : noKey (newE n) key := fun i x hx h1 => by
  unfold Go.Proofs.YtggakcpabomliaaGreat.newE at hx
  obtain ⟨_, h2⟩ := List.getElem?_eq_some_iff.1 hx
  rw [List.getElem_replicate] at h2
  rw [← h2] at h1; simp [noE] at h1
theorem noKey.tidy {l : List EnV} {key : ByteArray} (h : noKey l key) : noKey (tidyE l) key := by
  unfold tidyE
  have : ∀ (L : List (Nat × EnV)) (a : List EnV), (∀ p ∈ L, p.2.st = 1 → p.2.key ≠ key) → noKey a key → noKey (L.foldl (fun acc p => putS acc p.2) a) key := by
    intro L
    induction L with
    | nil => intro a _ h; exact h
    | cons p L ih => intro a hL ha; rw [List.foldl_cons]; exact ih _ (fun q hq => hL q (List.mem_cons_of_mem _ hq)) (ha.put (hL p (List.mem_cons_self ..)))
  exact this _ _ (fun p hp h1 => h p.1 p.2 (liveL_iff.1 hp).1 h1) (.newE _ _)
theorem noKey.settle {l : List EnV} {key : ByteArray} (h : noKey l key) : noKey (settleE l) key := by
  unfold settleE; split
  · exact h.tidy
  · exact h
end Go.Proofs.YtggakcpabomliaaGreat
namespace Go.Proofs.YtggakcpabomliaaGreat
open Go
theorem findW_keep {key : ByteArray} {i j : Nat} {x : EnV} (h0 : x.st ≠ 0) (h1 : ¬ (x.st = 1 ∧ x.key = key)) (hij : i ≠ j) : ∀ L, findW key L = i → findW key (L.map (upW j x)) = i := by
  intro L
  induction L with
  | nil => intro h; simp [findW] at h <;> omega
  | cons p L ih =>
    intro h
    rw [List.map_cons]
    simp only [findW] at h
    split at h
    · omega
    · rename_i c0
      split at h
      · rename_i c1
        have : p.1 ≠ j := by omega
        rw [upW, if_neg this]
        simp only [findW]
        rw [if_neg c0, if_pos c1]; exact h
      · rename_i c1
        by_cases c : p.1 = j
        · rw [upW, if_pos c]
          simp only [findW]
          rw [if_neg h0, if_neg h1]; exact ih h
        · rw [upW, if_neg c]
          simp only [findW]
          rw [if_neg c0, if_neg c1]; exact ih h
theorem findE_keep {l : List EnV} {key : ByteArray} {i j : Nat} {x : EnV} (hj : j < l.length) (h0 : x.st ≠ 0) (h1 : ¬ (x.st = 1 ∧ x.key = key)) (hij : i ≠ j) (h : findE l key = i) : findE (l.set j x) key = i := by
  unfold findE at *
  rw [wayL_set _ _ _ _ hj]
  exact findW_keep h0 h1 hij _ h
theorem right_tomb {l : List EnV} {j : Nat} (hj : j < l.length) (h : rightE l = true) : rightE (l.set j tombE) = true := by
  rw [rightE_iff] at h ⊢
  intro i y hy h1
  rcases getElem?_set_some hy with ⟨_, rfl⟩ | ⟨h2, h3⟩
  · simp [tombE] at h1
  · exact findE_keep hj (by simp [tombE]) (by simp [tombE]) h2 (h i y h3 h1)
theorem right_put {l u : List EnV} {x : EnV} (h1 : x.st = 1) (hp : putE l x = some u) (h : rightE l = true) : rightE u = true := by
  rw [rightE_iff] at h ⊢
  obtain ⟨j, hj, rfl, hf, hc⟩ := putE_find hp h1
  intro i y hy hy1
  rcases getElem?_set_some hy with ⟨rfl, rfl⟩ | ⟨h2, h3⟩
  · exact hf
  · have hi := h i y h3 hy1
    have hk : x.key ≠ y.key := fun e => by rw [← e] at hi; omega
    exact findE_keep hj (by omega) (fun e => hk e.2) h2 hi
theorem right_new (n : Nat) : rightE (newE n) = true := by
  rw [rightE_iff]
  intro i x hx h1
  unfold newE at hx
  obtain ⟨_, h2⟩ := List.getElem?_eq_some_iff.1 hx
  rw [List.getElem_replicate] at h2
  rw [← h2] at h1; simp [noE] at h1
theorem right_putS {a : List EnV} {x : EnV} (h1 : x.st = 1) (h : rightE a = true) : rightE (putS a x) = true := by
  unfold putS
  cases hp : putE a x with
  | none => exact h
  | some u => exact right_put h1 hp h
theorem right_tidy (l : List EnV) : rightE (tidyE l) = true := by
  unfold tidyE
  have : ∀ (L : List (Nat × EnV)) (a : List EnV), (∀ p ∈ L, p.2.st = 1) → rightE a = true → rightE (L.foldl (fun acc p => putS acc p.2) a) = true := by
    intro L
    induction L with
    | nil => intro a _ h; exact h
    | cons p L ih => intro a hL ha; rw [List.foldl_cons]; exact ih _ (fun q hq => hL q (List.mem_cons_of_mem _ hq)) (right_putS (hL p (List.mem_cons_self ..)) ha)
  exact this _ _ (fun p hp => (liveL_iff.1 hp).2) (right_new _)
theorem right_settle {l : List EnV} (h : rightE l = true) : rightE (settleE l) = true := by
  unfold settleE; split
  · exact right_tidy _
  · exact h
def isLive (x : EnV) : Bool := decide (x.st = 1)
def flowsOf (l : List EnV) : List EnV := l.filter isLive
def oneE (x : EnV) : List EnV := if x.st = 1 then [x] else []
theorem flowsOf_set {l : List EnV} {j : Nat} {y x : EnV} (hy : l[j]? = some y) : (oneE y ++ flowsOf (l.set j x)).Perm (oneE x ++ flowsOf l) := by
  obtain ⟨hj, e⟩ := List.getElem?_eq_some_iff.1 hy
  have h1 : l = l.take j ++ y :: l.drop (j + 1) := by rw [← e]; simp
  have h2 : l.set j x = l.take j ++ x :: l.drop (j + 1) := List.set_eq_take_append_cons_drop .. |>.trans (by rw [if_pos hj])
  have f1 : ∀ z : EnV, flowsOf (l.take j ++ z :: l.drop (j + 1)) = flowsOf (l.take j) ++ (oneE z ++ flowsOf (l.drop (j + 1))) := fun z => by
    unfold flowsOf; rw [List.filter_append, List.filter_cons]
    simp only [oneE, isLive, decide_eq_true_eq]
    split <;> simp
  have h3 : flowsOf l = flowsOf (l.take j) ++ (oneE y ++ flowsOf (l.drop (j + 1))) := by rw [← f1, ← h1]
  rw [h2, f1, h3]
  generalize flowsOf (l.take j) = A
  generalize flowsOf (l.drop (j + 1)) = B
  have p1 : ∀ (u v : List EnV), (u ++ (A ++ (v ++ B))).Perm (A ++ (u ++ (v ++ B))) := fun u v => by
    rw [← List.append_assoc, ← List.append_assoc A u]
    exact List.perm_append_comm.append_right _
  refine (p1 _ _).trans (((p1 _ _).trans ?_).symm)
  refine List.Perm.append_left _ ?_
  rw [← List.append_assoc, ← List.append_assoc]
  exact List.perm_append_comm.append_right _
theorem live_flowsOf (l : List EnV) (i : Nat) : (liveF i l).map (·.2) = flowsOf l := by
  induction l generalizing i with
  | nil => rfl
  | cons x l ih =>
    unfold liveF flowsOf
    rw [List.filter_cons]
    simp only [isLive, decide_eq_true_eq]
    split
    · rw [List.map_cons, ih]; rfl
    · rw [ih]; rfl
theorem nodup_of_right {l : List EnV} (h : rightE l = true) : ((flowsOf l).map (·.key)).Nodup := by
  rw [rightE_iff] at h
  have h2 : ∀ (i : Nat) (m : List EnV), (∀ (k : Nat) (x : EnV), m[k]? = some x → x.st = 1 → findE l x.key = (i + k : Nat)) → ((flowsOf m).map (·.key)).Nodup := by
    intro i m
    induction m generalizing i with
    | nil => intro _; simp [flowsOf]
    | cons x m ih =>
      intro hm
      have ih' := ih (i + 1) fun k y hy h1 => by
        have := hm (k + 1) y (by simpa using hy) h1
        rw [this]; congr 1; omega
      unfold flowsOf at *
      rw [List.filter_cons]
      simp only [isLive, decide_eq_true_eq] at *
      split
      · rename_i c
        rw [List.map_cons, List.nodup_cons]
        refine ⟨fun hx => ?_, ih'⟩
        obtain ⟨y, hy, e⟩ := List.mem_map.1 hx
        obtain ⟨hy1, hy2⟩ := List.mem_filter.1 hy
        obtain ⟨k, hk, e2⟩ := List.getElem_of_mem hy1
        have a := hm 0 x (by simp) c
        have b := hm (k + 1) y (by simp [hk, e2]) (by simpa [isLive] using hy2)
        rw [e, a] at b
        omega
      · exact ih'
  exact h2 0 l fun k x hx h1 => by rw [h k x hx h1]; simp
theorem noKey_flowsOf {l : List EnV} {key : ByteArray} : noKey l key ↔ ∀ x ∈ flowsOf l, x.key ≠ key := by
  unfold noKey flowsOf isLive
  constructor
  · intro h x hx
    obtain ⟨h1, h2⟩ := List.mem_filter.1 hx
    obtain ⟨i, hi, e⟩ := List.getElem_of_mem h1
    exact h i x (by simp [hi, e]) (by simpa using h2)
  · intro h i x hx h1
    exact h x (List.mem_filter.2 ⟨List.mem_of_getElem? hx, by simpa using h1⟩)
theorem roomW_neg : ∀ L, roomW L < 0 → ∀ p ∈ L, p.2.st = 1 := by
  intro L
  induction L with
  | nil => intro _ p hp; cases hp
  | cons q L ih =>
    intro h p hp
    simp only [roomW] at h
    split at h
    · rename_i c
      rcases List.mem_cons.1 hp with rfl | hp
      · exact c
      · exact ih h p hp
    · omega
theorem way_all {l : List EnV} (key : ByteArray) {q : Nat} {y : EnV} (hy : l[q]? = some y) : (q, y) ∈ wayL l key := by
  obtain ⟨hq, e⟩ := List.getElem?_eq_some_iff.1 hy
  unfold wayL
  have hl : 0 < l.length := by omega
  have hm : homeV key l.length < l.length := Nat.mod_lt _ hl
  refine List.mem_map.2 ⟨(q + l.length - homeV key l.length) % l.length, List.mem_range.2 (Nat.mod_lt _ hl), ?_⟩
  have : (homeV key l.length + (q + l.length - homeV key l.length) % l.length) % l.length = q := by
    rw [Nat.add_mod, Nat.mod_mod, ← Nat.add_mod, show homeV key l.length + (q + l.length - homeV key l.length) = q + l.length by omega, Nat.add_mod_right, Nat.mod_eq_of_lt hq]
  rw [this]
  simp [List.getD_eq_getElem?_getD, hq, e]
/-- where not all are flows there is room -/
theorem put_room {a : List EnV} {x : EnV} (h1 : x.st = 1) (hn : noKey a x.key) (hl : (flowsOf a).length < a.length) : ∃ u, putE a x = some u ∧ (flowsOf u).Perm (x :: flowsOf a) := by
  cases hp : putE a x with
  | none =>
    exfalso
    unfold putE at hp
    simp only at hp
    rw [if_pos hn.find] at hp
    have hr : roomE a x.key = roomW (wayL a x.key) := if_neg (by have := hn.find; omega)
    by_cases c : roomE a x.key < 0
    · have h2 := roomW_neg _ (hr ▸ c)
      have h3 : flowsOf a = a := List.filter_eq_self.2 fun y hy => by
        obtain ⟨q, hq, e⟩ := List.getElem_of_mem hy
        have := h2 (q, y) (way_all _ (by simp [hq, e]))
        simpa [isLive] using this
      rw [h3] at hl; omega
    · rw [if_neg c] at hp; cases hp
  | some u =>
    obtain ⟨j, hj, rfl, hf, hc⟩ := putE_find hp h1
    refine ⟨_, rfl, ?_⟩
    have hj1 : a[j]? = some a[j] := List.getElem?_eq_getElem hj
    have hs := flowsOf_set (x := x) hj1
    have hnl : a[j].st ≠ 1 := fun c => by
      rcases hc with hc | ⟨_, hc⟩
      · have := hn.find; omega
      · have hm : ∀ L, roomW L = (j : Nat) → ∃ y, (j, y) ∈ L ∧ y.st ≠ 1 := by
          intro L
          induction L with
          | nil => intro h; simp [roomW] at h <;> omega
          | cons p L ih =>
            intro h
            simp only [roomW] at h
            split at h
            · obtain ⟨y, h1, h2⟩ := ih h; exact ⟨y, List.mem_cons_of_mem _ h1, h2⟩
            · rename_i c2
              have : p.1 = j := by omega
              exact ⟨p.2, by rw [← this]; simp, c2⟩
        obtain ⟨y, h2, h3⟩ := hm _ hc
        have h4 := wayL_get h2
        rw [hj1] at h4
        injection h4 with h4
        exact h3 (by rw [h4] at c; exact c)
    unfold oneE at hs
    rw [if_neg hnl, if_pos h1] at hs
    simpa using hs
theorem flowsOf_new (n : Nat) : flowsOf (newE n) = [] := by
  unfold flowsOf newE
  rw [List.filter_eq_nil_iff]
  intro x hx
  rw [(List.mem_replicate.1 hx).2]; simp [isLive, noE]
theorem flowsOf_tidy {l : List EnV} (h : rightE l = true) (hl : l.length ≤ 64) : (flowsOf (tidyE l)).Perm (flowsOf l) := by
  have hmain : ∀ (L : List (Nat × EnV)) (a : List EnV), (∀ p ∈ L, p.2.st = 1) → ((flowsOf a ++ L.map (·.2)).map (·.key)).Nodup → (flowsOf a).length + L.length ≤ a.length →
      (flowsOf (L.foldl (fun acc p => putS acc p.2) a)).Perm (flowsOf a ++ L.map (·.2)) := by
    intro L
    induction L with
    | nil => intro a _ _ _; simp
    | cons p L ih =>
      intro a hL hn hlen
      rw [List.foldl_cons]
      simp only [List.length_cons] at hlen
      have hk : noKey a p.2.key := noKey_flowsOf.2 fun x hx e => by
        rw [List.map_append, List.nodup_append] at hn
        exact hn.2.2 _ (List.mem_map_of_mem hx) p.2.key (by simp) e
      obtain ⟨u, hu, hp⟩ := put_room (hL p (List.mem_cons_self ..)) hk (by omega)
      have e : putS a p.2 = u := by simp [putS, hu]
      rw [e]
      have hlu := putE_len hu
      have hpl := hp.length_eq
      have hperm : (flowsOf u ++ L.map (·.2)).Perm (flowsOf a ++ (p :: L).map (·.2)) := by
        refine (hp.append_right _).trans ?_
        rw [List.map_cons]
        exact (List.perm_middle (a := p.2) (l₁ := flowsOf a) (l₂ := L.map (·.2))).symm
      refine (ih u (fun q hq => hL q (List.mem_cons_of_mem _ hq)) ?_ ?_).trans hperm
      · exact ((hperm.map _).nodup_iff).2 hn
      · rw [hpl, List.length_cons, hlu]; omega
  unfold tidyE
  have hm : (liveL l).map (·.2) = flowsOf l := live_flowsOf l 0
  have h1 := hmain (liveL l) (newE l.length) (fun p hp => (liveL_iff.1 hp).2) (by rw [flowsOf_new, hm]; exact nodup_of_right h)
    (by rw [flowsOf_new, newE_len]
        have : (liveL l).length = (flowsOf l).length := by rw [← hm]; simp
        have h2 : (flowsOf l).length ≤ l.length := List.length_filter_le ..
        simp only [List.length_nil]; omega)
  rw [flowsOf_new, hm] at h1
  exact h1
theorem flowsOf_settle {l : List EnV} (h : rightE l = true) (hl : l.length ≤ 64) : (flowsOf (settleE l)).Perm (flowsOf l) := by
  unfold settleE; split
  · exact flowsOf_tidy h hl
  · exact .refl _
theorem settle_len {l : List EnV} (hl : l.length ≤ 64) : (settleE l).length = l.length := by
  unfold settleE; split
  · unfold tidyE; rw [tidy_len, newE_len]; omega
  · rfl
theorem settle_le (l : List EnV) : (settleE l).length ≤ l.length := by
  unfold settleE; split
  · unfold tidyE; rw [tidy_len, newE_len]; omega
  · exact Nat.le_refl _
end Go.Proofs.YtggakcpabomliaaGreat
namespace Go.Proofs.YtggakcpabomliaaGreat
open Go
theorem set_sh2 {l : List ShV} {i n n' : Nat} {t : Value × List EnV} (hx : l[i]? = some (t, n)) : setL (l.flatMap encSh) (i * 2 + 1) [.int .i64 (n' : Int)] = (l.set i (t, n')).flatMap encSh := by
  obtain ⟨hi, _⟩ := List.getElem?_eq_some_iff.1 hx
  have h1 := setL_flat (f := encSh) (k := 2) (fun _ => rfl) l i (t, n') hi
  rw [← h1]
  have h2 := flat_get (f := encSh) (k := 2) (fun _ => rfl) l i 0 (by omega)
  rw [hx] at h2
  have h3 : (l.flatMap encSh)[i * 2]? = some t.1 := h2
  obtain ⟨h4, h5⟩ := List.getElem?_eq_some_iff.1 h3
  simp only [setL, encSh, List.length_cons, List.length_nil, Nat.zero_add]
  rw [List.take_add_one, h3]
  simp
/-- tables small enough, in shards few enough -/
structure MoOk (m : MoH) : Prop where
  few : m.ts.length ≤ 1000
  len : ∀ t ∈ m.ts, t.1.2.length ≤ 1000000
  keys : ∀ t ∈ m.ts, KeysOk t.1.2
def expV (s : MoS) (i now : Int) : MoS × AnsV :=
  if i < 0 ∨ (s.tabs.length : Int) ≤ i then (s, ⟨1, 0, false, 0⟩)
  else let t := s.tabs.getD i.toNat ([], 0); let r := sweepV t.1 t.2 4 now; ({ s with tabs := s.tabs.set i.toNat (r.1, r.2.1) }, ⟨0, 0, false, (r.2.2 : Nat)⟩)
theorem expire_ok (w : World) (m : MoH) (o : OpV) (v : Value) (now : Int) (hv : v.cells = #[v] ∧ plain v = true) (hm : MoOk m) (hw : LW false (foots (modH m)) w (modH m) w) :
    Fn PR NoX 63 #[.pointer (some ⟨m.b, 0, none⟩), o.val v, .int .i64 now] w (DoR w m (expV m.st o.shard now)) := by
  refine mk_model_Model_expire (TW.goH (κ := false) (S := foots (modH m)) ?_ hw)
  unfold sh_model_Model_expire
  simp only [OpV.val]
  unfold DoR
  have hlen := hm.few
  have hstl : m.st.tabs.length = m.ts.length := by simp [MoH.st]
  generalize hS : foots (modH m) = S at *
  simp only [modH]
  refine T_opn (e := 113) (k := 2) (v := m.sv) (q := m.ts.length) (xs := m.ts.flatMap encSh) (by ((repeat (first | exact mem_h | exact Up.here | exact Sel.here | apply mem_t | apply Up.there | apply Sel.there)); first | done | fail)) ?_
  intro sa sc hsv
  rw [hsv]
  have hpt : ∀ r' : MoS × AnsV, r' = (m.st, ⟨1, 0, false, 0⟩) → True := fun _ _ => trivial
  by_cases c1 : o.shard < 0
  · have e : expV m.st o.shard now = (m.st, ⟨1, 0, false, 0⟩) := if_pos (Or.inl c1)
    rw [e]
    (have hQq := trivial; repeat ((first | clear hQq | (with_reducible first | refine T_drw ?_ | refine T_bx fun _ => ?_ | refine s_al fun _ => ?_)); (try simp (disch := first | omega | assumption | ((repeat (first | exact mem_h | exact Up.here | apply mem_t | apply Up.there)); first | done | fail) | (simp; first | done | omega | fail)) [c1])))
    refine T_rets m ⟨by simp [AnsV.val], rfl, rfl⟩ ?_
    simp only [modH, hsv]
    ((repeat (first | exact Sels.nil | (apply Sels.cons; · ((repeat (first | exact mem_h | exact Up.here | exact Sel.here | apply mem_t | apply Up.there | apply Sel.there)); first | done | fail)))); first | done | fail)
  by_cases c2 : (m.ts.length : Int) ≤ o.shard
  · have e : expV m.st o.shard now = (m.st, ⟨1, 0, false, 0⟩) := if_pos (Or.inr (by rw [hstl]; exact c2))
    rw [e]
    (have hQq := trivial; repeat ((first | clear hQq | (with_reducible first | refine T_drw ?_ | refine T_bx fun _ => ?_ | refine s_al fun _ => ?_)); (try simp (disch := first | omega | assumption | ((repeat (first | exact mem_h | exact Up.here | apply mem_t | apply Up.there)); first | done | fail) | (simp; first | done | omega | fail)) [c1, c2])))
    refine T_rets m ⟨by simp [AnsV.val], rfl, rfl⟩ ?_
    simp only [modH, hsv]
    ((repeat (first | exact Sels.nil | (apply Sels.cons; · ((repeat (first | exact mem_h | exact Up.here | exact Sel.here | apply mem_t | apply Up.there | apply Sel.there)); first | done | fail)))); first | done | fail)
  obtain ⟨i, hi⟩ : ∃ i : Nat, o.shard = i := ⟨o.shard.toNat, by omega⟩
  rw [hi] at c1 c2 ⊢
  have hlt : i < m.ts.length := by omega
  obtain ⟨⟨⟨tv, tl⟩, tn⟩, hx⟩ : ∃ x, m.ts[i]? = some x := ⟨_, List.getElem?_eq_getElem hlt⟩
  have hxm := List.mem_of_getElem? hx
  have hgd : m.st.tabs.getD i ([], 0) = (tl, tn) := by simp [MoH.st, List.getD_eq_getElem?_getD, hx]
  have e : expV m.st i now = ({ m.st with tabs := m.st.tabs.set i ((sweepV tl tn 4 now).1, (sweepV tl tn 4 now).2.1) }, ⟨0, 0, false, ((sweepV tl tn 4 now).2.2 : Nat)⟩) := by
    unfold expV
    rw [if_neg (by rw [hstl]; omega)]
    simp only [Int.toNat_natCast, hgd]
  rw [e]
  have h0 : (m.ts.flatMap encSh)[i * 2]? = some tv := by
    have := flat_get (f := encSh) (k := 2) (fun _ => rfl) m.ts i 0 (by omega); rw [hx] at this; exact this
  have h1 : (m.ts.flatMap encSh)[i * 2 + 1]? = some (.int .i64 (tn : Int)) := by
    have := flat_get (f := encSh) (k := 2) (fun _ => rfl) m.ts i 1 (by omega); rw [hx] at this; exact this
  refine T_ptr (e := 113) (k := 2) (v := .slice sa m.ts.length sc) (q := m.ts.length) (xs := m.ts.flatMap encSh) (by ((repeat (first | exact mem_h | exact Up.here | exact Sel.here | apply mem_t | apply Up.there | apply Sel.there)); first | done | fail)) (by omega) ?_
  rintro g gc hg
  cases hg
  (have hQq := trivial; repeat ((first | clear hQq | (with_reducible first | refine T_drw ?_ | refine T_bx fun _ => ?_ | refine s_al fun _ => ?_)); (try simp (disch := first | omega | assumption | ((repeat (first | exact mem_h | exact Up.here | apply mem_t | apply Up.there)); first | done | fail) | (simp; first | done | omega | fail)) [c1, c2, hlt, h0, h1])))
  refine T_cn ent_sweep_Step (fun w' hw' => Step_ok w' tv tl tn 4 now (hm.keys _ hxm) (hm.len _ hxm) (tab_rd (t := (tv, tl)) hw' (ts := m.ts.map (·.1)) (by ((repeat (first | exact mem_h | exact Up.here | exact Sel.here | apply mem_t | apply Up.there | apply Sel.there)); first | done | fail)) (List.mem_map.2 ⟨_, hxm, rfl⟩))) ?_
  rintro r _ rfl
  refine T_open (e := 71) (k := 4) (v := r) (q := (sweepV tl tn 4 now).1.length) (xs := (sweepV tl tn 4 now).1.flatMap encE) (by ((repeat (first | exact mem_h | exact Up.here | exact Sel.here | apply mem_t | apply Up.there | apply Sel.there)); first | done | fail)) fun hr1 hr2 hr3 => ?_
  (have hQq := trivial; repeat ((first | clear hQq | (with_reducible first | refine T_drw ?_ | refine T_bx fun _ => ?_ | refine s_al fun _ => ?_)); (try simp (disch := first | omega | assumption | ((repeat (first | exact mem_h | exact Up.here | apply mem_t | apply Up.there)); first | done | fail) | (simp; first | done | omega | fail)) [c1, c2, hlt])))
  have hr4 : r.cells.toList = [r] := by rw [hr1]
  refine s_st_own (by ((repeat (first | exact mem_h | exact Up.here | exact Sel.here | apply mem_t | apply Up.there | apply Sel.there)); first | done | fail)) (by simp [hr1]) (by rw [flat_len (k := 2) fun _ => rfl]; omega) (by simp [hr3]) ?_
  rw [hr4, set_sh (e' := (sweepV tl tn 4 now).1) hx]
  have hx2 : (m.ts.set i ((r, (sweepV tl tn 4 now).1), tn))[i]? = some ((r, (sweepV tl tn 4 now).1), tn) := by simp [hlt]
  (have hQq := trivial; repeat ((first | clear hQq | (with_reducible first | refine T_drw ?_ | refine T_bx fun _ => ?_ | refine s_al fun _ => ?_)); (try simp (disch := first | omega | assumption | ((repeat (first | exact mem_h | exact Up.here | apply mem_t | apply Up.there)); first | done | fail) | (simp; first | done | omega | fail)) [c1, c2, hlt])))
  refine s_st_own (by ((repeat (first | exact mem_h | exact Up.here | exact Sel.here | apply mem_t | apply Up.there | apply Sel.there)); first | done | fail)) (by simp) (by rw [flat_len (k := 2) fun _ => rfl, List.length_set]; omega) (by simp) ?_
  simp only [cells_int]
  rw [set_sh2 hx2, List.set_set]
  (have hQq := trivial; repeat ((first | clear hQq | (with_reducible first | refine T_drw ?_ | refine T_bx fun _ => ?_ | refine s_al fun _ => ?_)); (try simp (disch := first | omega | assumption | ((repeat (first | exact mem_h | exact Up.here | apply mem_t | apply Up.there)); first | done | fail) | (simp; first | done | omega | fail)) [])))
  refine T_tabPut (r := r) (l := (sweepV tl tn 4 now).1) (i := i) (by ((repeat (first | exact Part.nil | (apply Part.cons; · ((repeat (first | exact mem_h | exact Up.here | exact Sel.here | apply mem_t | apply Up.there | apply Sel.there)); first | done | fail)))); first | done | fail)) ?_
  refine T_rets { m with sv := .slice (some ⟨g, 0, none⟩) m.ts.length sc, ts := m.ts.set i ((r, (sweepV tl tn 4 now).1), (sweepV tl tn 4 now).2.1) } ⟨by simp [AnsV.val], rfl, by simp [MoH.st, List.map_set]⟩ ?_
  simp only [modH, List.map_set, List.length_set]
  ((repeat (first | exact Sels.nil | (apply Sels.cons; · ((repeat (first | exact mem_h | exact Up.here | exact Sel.here | apply mem_t | apply Up.there | apply Sel.there)); first | done | fail)))); first | done | fail)
end Go.Proofs.YtggakcpabomliaaGreat
namespace Go.Proofs.YtggakcpabomliaaGreat
open Go
def liveN (ts : List (List EnV × Nat)) : Nat := (ts.map fun t => countE t.1 1).sum
theorem liveN_le (ts : List (List EnV × Nat)) (h : ∀ t ∈ ts, t.1.length ≤ 1000000) : liveN ts ≤ ts.length * 1000000 := by
  induction ts with
  | nil => simp [liveN]
  | cons t ts ih =>
    have h1 := ih fun x hx => h x (by simp [hx])
    have h2 := h t (by simp)
    have h3 : countE t.1 1 ≤ t.1.length := List.countP_le_length
    have e : liveN (t :: ts) = countE t.1 1 + liveN ts := by simp [liveN]
    rw [e, List.length_cons]; omega
def statV (s : MoS) : MoS × AnsV := (s, ⟨0, 0, false, (liveN s.tabs : Nat)⟩)
theorem stats_ok (w : World) (m : MoH) (o : OpV) (v : Value) (now : Int) (hv : v.cells = #[v] ∧ plain v = true) (hm : MoOk m) (hw : LW false (foots (modH m)) w (modH m) w) :
    Fn PR NoX 64 #[.pointer (some ⟨m.b, 0, none⟩), o.val v, .int .i64 now] w (DoR w m (statV m.st)) := by
  refine mk_model_Model_stats (TW.goH (κ := false) (S := foots (modH m)) ?_ hw)
  unfold sh_model_Model_stats
  simp only [OpV.val]
  unfold DoR
  have hlen := hm.few
  generalize hS : foots (modH m) = S at *
  simp only [modH]
  refine T_opn (e := 113) (k := 2) (v := m.sv) (q := m.ts.length) (xs := m.ts.flatMap encSh) (by ((repeat (first | exact mem_h | exact Up.here | exact Sel.here | apply mem_t | apply Up.there | apply Sel.there)); first | done | fail)) ?_
  intro sa sc hsv
  rw [hsv]
  (have hQq := trivial; repeat ((first | clear hQq | (with_reducible first | refine T_drw ?_ | refine T_bx fun _ => ?_ | refine s_al fun _ => ?_)); (try simp (disch := first | omega | assumption | ((repeat (first | exact mem_h | exact Up.here | apply mem_t | apply Up.there)); first | done | fail) | (simp; first | done | omega | fail)) [])))
  rename_i b4 b6 b7
  obtain ⟨tb, htb⟩ : ∃ tb, tb = m.ts.map fun t => (t.1.2, t.2) := ⟨_, rfl⟩
  have htl : tb.length = m.ts.length := by rw [htb]; simp
  refine T_for0 m.ts.length (fun i => [.pt b7 (.cells #[.int .i64 0, .int .i64 0, .bool false, .int .i64 (liveN (tb.take i) : Nat)] 39), .pt b6 (.cells #[.int .i64 0, .int .i64 0, .bool false, .int .i64 0] 39),
    .pt b4 (.cells #[.int .i64 o.kind, .string o.packet, v, .int .i64 o.shard] 42), .pt m.b (.cells #[.int .i64 m.c.wk, .int .i64 m.c.sh, .int .i64 m.c.cp, .int .i64 m.c.idle, .int .i64 m.c.sl, m.pv, .slice sa m.ts.length sc] 109),
    .own 103 2 m.pv m.pool.length (m.pool.flatMap encB), .own 113 2 (.slice sa m.ts.length sc) m.ts.length (m.ts.flatMap encSh), tabR (m.ts.map (·.1))]) ?_
  intro i hi L hL
  have hsum : liveN (tb.take i) ≤ 1000000000 := by
    have := liveN_le (tb.take i) (by
      intro t ht
      have ht2 := List.mem_of_mem_take ht
      rw [htb] at ht2
      obtain ⟨x, hx, rfl⟩ := List.mem_map.1 ht2; exact hm.len x hx)
    have h2 : (tb.take i).length ≤ 1000 := by rw [List.length_take]; omega
    have h3 : (tb.take i).length * 1000000 ≤ 1000 * 1000000 := Nat.mul_le_mul_right _ h2
    omega
  by_cases hlt : i < m.ts.length
  · obtain ⟨⟨⟨tv, tl⟩, tn⟩, hx⟩ : ∃ x, m.ts[i]? = some x := ⟨_, List.getElem?_eq_getElem hlt⟩
    have hxm := List.mem_of_getElem? hx
    have h0 : (m.ts.flatMap encSh)[i * 2]? = some tv := by
      have := flat_get (f := encSh) (k := 2) (fun _ => rfl) m.ts i 0 (by omega); rw [hx] at this; exact this
    have hst : liveN (tb.take (i + 1)) = liveN (tb.take i) + countE tl 1 := by
      have hx2 : tb[i]? = some (tl, tn) := by rw [htb, List.getElem?_map, hx]; rfl
      rw [List.take_add_one, hx2]; simp [liveN]
    have hcl : countE tl 1 ≤ 1000000 := Nat.le_trans List.countP_le_length (hm.len _ hxm)
    have hL' := hL hlt
    rw [hst] at hL'
    refine T_ptr (e := 113) (k := 2) (v := .slice sa m.ts.length sc) (q := m.ts.length) (xs := m.ts.flatMap encSh) (by ((repeat (first | exact mem_h | exact Up.here | exact Sel.here | apply mem_t | apply Up.there | apply Sel.there)); first | done | fail)) (by omega) ?_
    rintro g gc hg
    cases hg
    (have hQq := trivial; repeat ((first | clear hQq | (with_reducible first | refine T_drw ?_ | refine T_bx fun _ => ?_ | refine s_al fun _ => ?_)); (try simp (disch := first | omega | assumption | ((repeat (first | exact mem_h | exact Up.here | apply mem_t | apply Up.there)); first | done | fail) | (simp; first | done | omega | fail)) [hlt])))
    refine T_cv ent_model_table_live (fun w' hw' => live_ok2 w' g (i * 2) tv tl (by have := (hw'.ownr (e := 113) (k := 2) (q := m.ts.length) (c := sc) (xs := m.ts.flatMap encSh) (by ((repeat (first | exact mem_h | exact Up.here | exact Sel.here | apply mem_t | apply Up.there | apply Sel.there)); first | done | fail))).get h0; rwa [Nat.zero_add] at this) (hm.len _ hxm) (tab_rd (t := (tv, tl)) hw' (ts := m.ts.map (·.1)) (by ((repeat (first | exact mem_h | exact Up.here | exact Sel.here | apply mem_t | apply Up.there | apply Sel.there)); first | done | fail)) (List.mem_map.2 ⟨_, hxm, rfl⟩))) ?_
    (have hQq := trivial; repeat ((first | clear hQq | (with_reducible first | refine T_drw ?_ | refine T_bx fun _ => ?_ | refine s_al fun _ => ?_)); (try simp (disch := first | omega | assumption | ((repeat (first | exact mem_h | exact Up.here | apply mem_t | apply Up.there)); first | done | fail) | (simp; first | done | omega | fail)) [])))
    exact TW.eqH (by simp) hL'
  · obtain rfl : i = m.ts.length := by omega
    rw [← htl, List.take_length, htl]
    (have hQq := trivial; repeat ((first | clear hQq | (with_reducible first | refine T_drw ?_ | refine T_bx fun _ => ?_ | refine s_al fun _ => ?_)); (try simp (disch := first | omega | assumption | ((repeat (first | exact mem_h | exact Up.here | apply mem_t | apply Up.there)); first | done | fail) | (simp; first | done | omega | fail)) [])))
    refine T_rets m ⟨by simp [AnsV.val, statV, MoH.st, htb], rfl, rfl⟩ ?_
    simp only [modH, hsv]
    ((repeat (first | exact Sels.nil | (apply Sels.cons; · ((repeat (first | exact mem_h | exact Up.here | exact Sel.here | apply mem_t | apply Up.there | apply Sel.there)); first | done | fail)))); first | done | fail)
end Go.Proofs.YtggakcpabomliaaGreat
namespace Go.Proofs.YtggakcpabomliaaGreat
open Go
def keyB (k : KeyV) : ByteArray := if bytesOk k then bytesV k else noB
def dispV (s : MoS) (pk : ByteArray) (now : Int) : MoS × AnsV :=
  let x := packetV pk
  if x.2.2 ≠ 0 then (s, ⟨9, 0, false, 0⟩)
  else
    let i := shardV (keyB x.1) s.c.sh
    let t := s.tabs.getD i ([], 0)
    let r := decideV t.1 s.pool (keyB x.1) (closingV x.1 x.2.1) now s.c.idle
    ({ s with tabs := s.tabs.set i (r.1, t.2) }, r.2.1)
structure MoOk2 (m : MoH) : Prop extends MoOk m where
  pool : m.pool.length ≤ 1000
  sh : m.c.sh = m.ts.length
  pos : 0 < m.ts.length
theorem decideV_same {l : List EnV} {p : List BkV} {key : ByteArray} {c : Bool} {now idle : Int} (h : (decideV l p key c now idle).2.2 = false) : (decideV l p key c now idle).1 = l := by
  unfold decideV at h ⊢
  split
  · rfl
  · rw [if_neg ‹_›] at h
    split
    · rw [if_pos ‹_›] at h
      simp only at h
      cases hd : del0 l key with
      | none => simp [delE, hd]
      | some u => rw [hd] at h; cases h
    · rw [if_neg ‹_›] at h
      cases hp : putE l (newX l p key now idle) with
      | none => rfl
      | some u => rw [hp] at h; cases h
theorem T_tabOpen {κ : Bool} {S : List Nat} {w0 : World} {H : List Res} {K0 : WP} {ts : List (Value × List EnV)} {t : Value × List EnV} (hm : tabR ts ∈ H) (ht : t ∈ ts) (h : t.1.cells = #[t.1] → t.1.cells.size = 1 → t.1.cells.toList.all plain = true → TW κ S w0 H K0) : TW κ S w0 H K0 := fun w hw => by
  obtain ⟨a, c, e⟩ := Own.form ((hw.hold _ hm : tabP ts w) t ht)
  exact h (by rw [e]; rfl) (by rw [e]; rfl) (by rw [e]; rfl) w hw
theorem putB_le (s t : ByteArray) (o : Nat) : (putB s o t).size ≤ o + t.size + s.size := by
  simp only [putB, ByteArray.size_append, ByteArray.size_extract]; omega
theorem putV2_le (x : Int) : (putV x 2).size ≤ 2 := by simp
theorem keyB_size (k : KeyV) : (keyB k).size < 2 ^ 60 := by
  unfold keyB
  split
  · rename_i h
    simp only [bytesOk, decide_eq_true_eq] at h
    have hl : longV k.v ≤ 16 := by unfold longV; split <;> (try split) <;> omega
    have h1 := putB_le (putB (putB z38 0 (putV (k.v * 256 + k.proto) 2 ++ putV k.fr 2 ++ putV k.tp 2)) 6 k.src) k.dst 22
    have h2 := putB_le (putB z38 0 (putV (k.v * 256 + k.proto) 2 ++ putV k.fr 2 ++ putV k.tp 2)) k.src 6
    have h3 := putB_le z38 (putV (k.v * 256 + k.proto) 2 ++ putV k.fr 2 ++ putV k.tp 2) 0
    have h4 := putV2_le (k.v * 256 + k.proto)
    have h5 := putV2_le k.fr
    have h6 := putV2_le k.tp
    have h7 := z38_size
    simp only [ByteArray.size_append] at h3
    unfold bytesV
    omega
  · simp
theorem dispatch_ok (w : World) (m : MoH) (o : OpV) (v : Value) (now : Int) (hv : v.cells = #[v] ∧ plain v = true) (hpk : o.packet.size < 2 ^ 40) (hm : MoOk2 m) (hw : LW false (foots (modH m)) w (modH m) w) :
    Fn PR NoX 61 #[.pointer (some ⟨m.b, 0, none⟩), o.val v, .int .i64 now] w (DoR w m (dispV m.st o.packet now)) := by
  refine mk_model_Model_dispatch (TW.goH (κ := false) (S := foots (modH m)) ?_ hw)
  unfold sh_model_Model_dispatch
  simp only [OpV.val]
  unfold DoR
  have hlen := hm.few
  generalize hS : foots (modH m) = S at *
  simp only [modH]
  refine T_opn (e := 113) (k := 2) (v := m.sv) (q := m.ts.length) (xs := m.ts.flatMap encSh) (by ((repeat (first | exact mem_h | exact Up.here | exact Sel.here | apply mem_t | apply Up.there | apply Sel.there)); first | done | fail)) ?_
  intro sa sc hsv
  rw [hsv]
  (have hQq := trivial; repeat ((first | clear hQq | (with_reducible first | refine T_drw ?_ | refine T_bx fun _ => ?_ | refine s_al fun _ => ?_)); (try simp (disch := first | omega | assumption | ((repeat (first | exact mem_h | exact Up.here | apply mem_t | apply Up.there)); first | done | fail) | (simp; first | done | omega | fail)) [])))
  refine T_cv ent_packet_Parse (fun w' hw' => packetParse_ok w' o.packet hpk) ?_
  by_cases c1 : (packetV o.packet).2.2 = 0
  case neg =>
    have e : dispV m.st o.packet now = (m.st, ⟨9, 0, false, 0⟩) := by unfold dispV; simp only; rw [if_pos c1]
    rw [e]
    (have hQq := trivial; repeat ((first | clear hQq | (with_reducible first | refine T_drw ?_ | refine T_bx fun _ => ?_ | refine s_al fun _ => ?_)); (try simp (disch := first | omega | assumption | ((repeat (first | exact mem_h | exact Up.here | apply mem_t | apply Up.there)); first | done | fail) | (simp; first | done | omega | fail)) [packet.val, packetC, c1])))
    refine T_rets m ⟨by simp [AnsV.val], rfl, rfl⟩ ?_
    simp only [modH, hsv]
    ((repeat (first | exact Sels.nil | (apply Sels.cons; · ((repeat (first | exact mem_h | exact Up.here | exact Sel.here | apply mem_t | apply Up.there | apply Sel.there)); first | done | fail)))); first | done | fail)
  have hk := keyB_size (packetV o.packet).1
  (have hQq := trivial; repeat ((first | clear hQq | (with_reducible first | refine T_drw ?_ | refine T_bx fun _ => ?_ | refine s_al fun _ => ?_)); (try simp (disch := first | omega | assumption | ((repeat (first | exact mem_h | exact Up.here | apply mem_t | apply Up.there)); first | done | fail) | (simp; first | done | omega | fail)) [packet.val, packetC, c1])))
  refine T_cv (u := bytesR (packetV o.packet).1) ent_packet_Bytes (fun w' hw' => bytes_ok w' (packetV o.packet).1) ?_
  (have hQq := trivial; repeat ((first | clear hQq | (with_reducible first | refine T_drw ?_ | refine T_bx fun _ => ?_ | refine s_al fun _ => ?_)); (try simp (disch := first | omega | assumption | ((repeat (first | exact mem_h | exact Up.here | apply mem_t | apply Up.there)); first | done | fail) | (simp; first | done | omega | fail)) [bytesR])))
  rename_i b4 b6 b7
  have hsh := hm.sh
  have hpos := hm.pos
  rw [show (if bytesOk (packetV o.packet).1 = true then bytesV (packetV o.packet).1 else noB) = keyB (packetV o.packet).1 from rfl]
  generalize hkey : keyB (packetV o.packet).1 = key at *
  refine T_cv ent_model_Shard (fun w' hw' => Shard_ok w' key m.c.sh hk (by omega)) ?_
  have hlt : shardV key m.c.sh < m.ts.length := by
    unfold shardV; rw [if_neg (by omega), hsh, Int.toNat_natCast]; exact Nat.mod_lt _ hpos
  have e : dispV m.st o.packet now = ({ m.st with tabs := m.st.tabs.set (shardV key m.c.sh) ((decideV (m.st.tabs.getD (shardV key m.c.sh) ([], 0)).1 m.pool key (closingV (packetV o.packet).1 (packetV o.packet).2.1) now m.c.idle).1, (m.st.tabs.getD (shardV key m.c.sh) ([], 0)).2) },
      (decideV (m.st.tabs.getD (shardV key m.c.sh) ([], 0)).1 m.pool key (closingV (packetV o.packet).1 (packetV o.packet).2.1) now m.c.idle).2.1) := by
    unfold dispV; simp only; rw [if_neg (by rw [c1]; simp), hkey]; rfl
  rw [e]
  generalize shardV key m.c.sh = i at *
  obtain ⟨⟨⟨tv, tl⟩, tn⟩, hx⟩ : ∃ x, m.ts[i]? = some x := ⟨_, List.getElem?_eq_getElem hlt⟩
  have hxm := List.mem_of_getElem? hx
  have hgd : m.st.tabs.getD i ([], 0) = (tl, tn) := by simp [MoH.st, List.getD_eq_getElem?_getD, hx]
  rw [hgd]
  simp only
  generalize hcl : closingV (packetV o.packet).1 (packetV o.packet).2.1 = cl at *
  have h0 : (m.ts.flatMap encSh)[i * 2]? = some tv := by
    have := flat_get (f := encSh) (k := 2) (fun _ => rfl) m.ts i 0 (by omega); rw [hx] at this; exact this
  refine T_ptr (e := 113) (k := 2) (v := .slice sa m.ts.length sc) (q := m.ts.length) (xs := m.ts.flatMap encSh) (by ((repeat (first | exact mem_h | exact Up.here | exact Sel.here | apply mem_t | apply Up.there | apply Sel.there)); first | done | fail)) (by omega) ?_
  rintro g gc hg
  cases hg
  (have hQq := trivial; repeat ((first | clear hQq | (with_reducible first | refine T_drw ?_ | refine T_bx fun _ => ?_ | refine s_al fun _ => ?_)); (try simp (disch := first | omega | assumption | ((repeat (first | exact mem_h | exact Up.here | apply mem_t | apply Up.there)); first | done | fail) | (simp; first | done | omega | fail)) [hlt])))
  cases hnw : (decideV tl m.pool key cl now m.c.idle).2.2 with
  | true =>
    refine T_kt2 (α := Nat × Value) (fun x => x.2.cells = #[x.2] ∧ x.2.cells.size = 1 ∧ x.2.cells.toList.all plain = true) (fun x => [.pt x.1 (.cells #[.int .i64 (decideV tl m.pool key cl now m.c.idle).2.1.err, .int .i64 (decideV tl m.pool key cl now m.c.idle).2.1.bk, .bool (decideV tl m.pool key cl now m.c.idle).2.1.made, .int .i64 (decideV tl m.pool key cl now m.c.idle).2.1.count] 39), ownE x.2 (decideV tl m.pool key cl now m.c.idle).1, 
      .pt b7 (.cells #[.int .i64 (packetV o.packet).1.v, .string (packetV o.packet).1.src, .string (packetV o.packet).1.dst, .int .i64 (packetV o.packet).1.fr, .int .i64 (packetV o.packet).1.tp, .int .i64 (packetV o.packet).1.proto, .int .i64 (packetV o.packet).2.1] 101),
      .pt b6 (.cells #[.int .i64 0, .int .i64 0, .bool false, .int .i64 0] 39),
      .pt m.b (.cells #[.int .i64 m.c.wk, .int .i64 m.c.sh, .int .i64 m.c.cp, .int .i64 m.c.idle, .int .i64 m.c.sl, m.pv, .slice (some ⟨g, 0, none⟩) m.ts.length sc] 109),
      .own 103 2 m.pv m.pool.length (m.pool.flatMap encB), .own 113 2 (.slice (some ⟨g, 0, none⟩) m.ts.length sc) m.ts.length (m.ts.flatMap encSh), tabR (m.ts.map (·.1))])
      (fun x => .pointer (some ⟨x.1, 0, none⟩)) (fun x => x.2) ?_ ?_
    · rintro ⟨ba, r⟩ ⟨hr1, hr2, hr3⟩
      simp only at hr1 hr2 hr3 ⊢
      have hr4 : r.cells.toList = [r] := by rw [hr1]
      (have hQq := trivial; repeat ((first | clear hQq | (with_reducible first | refine T_drw ?_ | refine T_bx fun _ => ?_ | refine s_al fun _ => ?_)); (try simp (disch := first | omega | assumption | ((repeat (first | exact mem_h | exact Up.here | apply mem_t | apply Up.there)); first | done | fail) | (simp; first | done | omega | fail)) [hlt])))
      refine s_st_own (by ((repeat (first | exact mem_h | exact Up.here | exact Sel.here | apply mem_t | apply Up.there | apply Sel.there)); first | done | fail)) (by simp [hr1]) (by rw [flat_len (k := 2) fun _ => rfl]; omega) (by simp [hr3]) ?_
      rw [hr4, set_sh (e' := (decideV tl m.pool key cl now m.c.idle).1) hx]
      (have hQq := trivial; repeat ((first | clear hQq | (with_reducible first | refine T_drw ?_ | refine T_bx fun _ => ?_ | refine s_al fun _ => ?_)); (try simp (disch := first | omega | assumption | ((repeat (first | exact mem_h | exact Up.here | apply mem_t | apply Up.there)); first | done | fail) | (simp; first | done | omega | fail)) [])))
      refine T_tabPut (r := r) (l := (decideV tl m.pool key cl now m.c.idle).1) (i := i) (by ((repeat (first | exact Part.nil | (apply Part.cons; · ((repeat (first | exact mem_h | exact Up.here | exact Sel.here | apply mem_t | apply Up.there | apply Sel.there)); first | done | fail)))); first | done | fail)) ?_
      refine T_rets { m with sv := .slice (some ⟨g, 0, none⟩) m.ts.length sc, ts := m.ts.set i ((r, (decideV tl m.pool key cl now m.c.idle).1), tn) } ⟨by simp [AnsV.val], rfl, by simp [MoH.st, List.map_set]⟩ ?_
      simp only [modH, List.map_set, List.length_set]
      ((repeat (first | exact Sels.nil | (apply Sels.cons; · ((repeat (first | exact mem_h | exact Up.here | exact Sel.here | apply mem_t | apply Up.there | apply Sel.there)); first | done | fail)))); first | done | fail)
    · intro J hJ
      (have hQq := trivial; repeat ((first | clear hQq | (with_reducible first | refine T_drw ?_ | refine T_bx fun _ => ?_ | refine s_al fun _ => ?_)); (try simp (disch := first | omega | assumption | ((repeat (first | exact mem_h | exact Up.here | apply mem_t | apply Up.there)); first | done | fail) | (simp; first | done | omega | fail)) [hlt, h0])))
      have hclo : ∀ w', Fn PR NoX 106 #[packetC (packetV o.packet).1 (packetV o.packet).2.1] w' (fun u w'' => u = .bool cl ∧ But [] w' w'') := fun w' => by rw [← hcl]; exact closing_ok w' _ _
      refine ⟨?_, ?_⟩
      · refine T_cv ent_packet_Closing (fun w' _ => hclo w') ?_
        (have hQq := trivial; repeat ((first | clear hQq | (with_reducible first | refine T_drw ?_ | refine T_bx fun _ => ?_ | refine s_al fun _ => ?_)); (try simp (disch := first | omega | assumption | ((repeat (first | exact mem_h | exact Up.here | apply mem_t | apply Up.there)); first | done | fail) | (simp; first | done | omega | fail)) [h0])))
        refine ⟨?_, ?_⟩
        · refine T_cn ent_model_Decide (fun w' hw' => Decide_ok w' tv m.pv tl m.pool key cl now m.c.idle hk (hm.keys _ hxm) (hm.len _ hxm) hm.pool (tab_rd (t := (tv, tl)) hw' (ts := m.ts.map (·.1)) (by ((repeat (first | exact mem_h | exact Up.here | exact Sel.here | apply mem_t | apply Up.there | apply Sel.there)); first | done | fail)) (List.mem_map.2 ⟨_, hxm, rfl⟩)) (RdT.own (e := 103) (k := 2) (by ((repeat (first | exact mem_h | exact Up.here | exact Sel.here | apply mem_t | apply Up.there | apply Sel.there)); first | done | fail)) w' hw')) ?_
          rintro r _ rfl
          simp only [hnw, if_true]
          refine T_open (e := 71) (k := 4) (v := r) (q := (decideV tl m.pool key cl now m.c.idle).1.length) (xs := (decideV tl m.pool key cl now m.c.idle).1.flatMap encE) (by ((repeat (first | exact mem_h | exact Up.here | exact Sel.here | apply mem_t | apply Up.there | apply Sel.there)); first | done | fail)) fun hr1 hr2 hr3 => ?_
          (have hQq := trivial; repeat ((first | clear hQq | (with_reducible first | refine T_drw ?_ | refine T_bx fun _ => ?_ | refine s_al fun _ => ?_)); (try simp (disch := first | omega | assumption | ((repeat (first | exact mem_h | exact Up.here | apply mem_t | apply Up.there)); first | done | fail) | (simp; first | done | omega | fail)) [AnsV.val])))
          rename_i bx
          exact Sels.tw (by ((repeat (first | exact Sels.nil | (apply Sels.cons; · ((repeat (first | exact mem_h | exact Up.here | exact Sel.here | apply mem_t | apply Up.there | apply Sel.there)); first | done | fail)))); first | done | fail)) (hJ (bx, r) ⟨hr1, hr2, hr3⟩)
        · refine ⟨?_, fun _ _ => trivial⟩
          (have hQq := trivial; repeat ((first | clear hQq | (with_reducible first | refine T_drw ?_ | refine T_bx fun _ => ?_ | refine s_al fun _ => ?_)); (try simp (disch := first | omega | assumption | ((repeat (first | exact mem_h | exact Up.here | apply mem_t | apply Up.there)); first | done | fail) | (simp; first | done | omega | fail)) [h0])))
          rename_i bx
          refine T_cn ent_model_Decide (fun w' hw' => Decide_ok w' tv m.pv tl m.pool key cl now m.c.idle hk (hm.keys _ hxm) (hm.len _ hxm) hm.pool (tab_rd (t := (tv, tl)) hw' (ts := m.ts.map (·.1)) (by ((repeat (first | exact mem_h | exact Up.here | exact Sel.here | apply mem_t | apply Up.there | apply Sel.there)); first | done | fail)) (List.mem_map.2 ⟨_, hxm, rfl⟩)) (RdT.own (e := 103) (k := 2) (by ((repeat (first | exact mem_h | exact Up.here | exact Sel.here | apply mem_t | apply Up.there | apply Sel.there)); first | done | fail)) w' hw')) ?_
          rintro r _ rfl
          simp only [hnw, if_true]
          refine T_open (e := 71) (k := 4) (v := r) (q := (decideV tl m.pool key cl now m.c.idle).1.length) (xs := (decideV tl m.pool key cl now m.c.idle).1.flatMap encE) (by ((repeat (first | exact mem_h | exact Up.here | exact Sel.here | apply mem_t | apply Up.there | apply Sel.there)); first | done | fail)) fun hr1 hr2 hr3 => ?_
          (have hQq := trivial; repeat ((first | clear hQq | (with_reducible first | refine T_drw ?_ | refine T_bx fun _ => ?_ | refine s_al fun _ => ?_)); (try simp (disch := first | omega | assumption | ((repeat (first | exact mem_h | exact Up.here | apply mem_t | apply Up.there)); first | done | fail) | (simp; first | done | omega | fail)) [AnsV.val])))
          exact Sels.tw (by ((repeat (first | exact Sels.nil | (apply Sels.cons; · ((repeat (first | exact mem_h | exact Up.here | exact Sel.here | apply mem_t | apply Up.there | apply Sel.there)); first | done | fail)))); first | done | fail)) (hJ (bx, r) ⟨hr1, hr2, hr3⟩)
      · refine ⟨?_, fun _ _ => trivial⟩
        (have hQq := trivial; repeat ((first | clear hQq | (with_reducible first | refine T_drw ?_ | refine T_bx fun _ => ?_ | refine s_al fun _ => ?_)); (try simp (disch := first | omega | assumption | ((repeat (first | exact mem_h | exact Up.here | apply mem_t | apply Up.there)); first | done | fail) | (simp; first | done | omega | fail)) [h0])))
        rename_i bx
        rw [s_watchN (by ((repeat (first | exact mem_h | exact Up.here | exact Sel.here | apply mem_t | apply Up.there | apply Sel.there)); first | done | fail)) (by rfl)]
        (have hQq := trivial; repeat ((first | clear hQq | (with_reducible first | refine T_drw ?_ | refine T_bx fun _ => ?_ | refine s_al fun _ => ?_)); (try simp (disch := first | omega | assumption | ((repeat (first | exact mem_h | exact Up.here | apply mem_t | apply Up.there)); first | done | fail) | (simp; first | done | omega | fail)) [h0])))
        refine T_cv ent_packet_Closing (fun w' _ => hclo w') ?_
        (have hQq := trivial; repeat ((first | clear hQq | (with_reducible first | refine T_drw ?_ | refine T_bx fun _ => ?_ | refine s_al fun _ => ?_)); (try simp (disch := first | omega | assumption | ((repeat (first | exact mem_h | exact Up.here | apply mem_t | apply Up.there)); first | done | fail) | (simp; first | done | omega | fail)) [h0])))
        refine T_cn ent_model_Decide (fun w' hw' => Decide_ok w' tv m.pv tl m.pool key cl now m.c.idle hk (hm.keys _ hxm) (hm.len _ hxm) hm.pool (tab_rd (t := (tv, tl)) hw' (ts := m.ts.map (·.1)) (by ((repeat (first | exact mem_h | exact Up.here | exact Sel.here | apply mem_t | apply Up.there | apply Sel.there)); first | done | fail)) (List.mem_map.2 ⟨_, hxm, rfl⟩)) (RdT.own (e := 103) (k := 2) (by ((repeat (first | exact mem_h | exact Up.here | exact Sel.here | apply mem_t | apply Up.there | apply Sel.there)); first | done | fail)) w' hw')) ?_
        rintro r _ rfl
        simp only [hnw, if_true]
        refine T_open (e := 71) (k := 4) (v := r) (q := (decideV tl m.pool key cl now m.c.idle).1.length) (xs := (decideV tl m.pool key cl now m.c.idle).1.flatMap encE) (by ((repeat (first | exact mem_h | exact Up.here | exact Sel.here | apply mem_t | apply Up.there | apply Sel.there)); first | done | fail)) fun hr1 hr2 hr3 => ?_
        (have hQq := trivial; repeat ((first | clear hQq | (with_reducible first | refine T_drw ?_ | refine T_bx fun _ => ?_ | refine s_al fun _ => ?_)); (try simp (disch := first | omega | assumption | ((repeat (first | exact mem_h | exact Up.here | apply mem_t | apply Up.there)); first | done | fail) | (simp; first | done | omega | fail)) [AnsV.val])))
        exact Sels.tw (by ((repeat (first | exact Sels.nil | (apply Sels.cons; · ((repeat (first | exact mem_h | exact Up.here | exact Sel.here | apply mem_t | apply Up.there | apply Sel.there)); first | done | fail)))); first | done | fail)) (hJ (bx, r) ⟨hr1, hr2, hr3⟩)
  | false =>
    refine T_tabOpen (ts := m.ts.map (·.1)) (t := (tv, tl)) (by ((repeat (first | exact mem_h | exact Up.here | exact Sel.here | apply mem_t | apply Up.there | apply Sel.there)); first | done | fail)) (List.mem_map.2 ⟨_, hxm, rfl⟩) fun hr1 hr2 hr3 => ?_
    simp only at hr1 hr2 hr3
    refine T_kt2 (α := Nat × Value) (fun x => x.2.cells = #[x.2] ∧ x.2.cells.size = 1 ∧ x.2.cells.toList.all plain = true) (fun x => [.pt x.1 (.cells #[.int .i64 (decideV tl m.pool key cl now m.c.idle).2.1.err, .int .i64 (decideV tl m.pool key cl now m.c.idle).2.1.bk, .bool (decideV tl m.pool key cl now m.c.idle).2.1.made, .int .i64 (decideV tl m.pool key cl now m.c.idle).2.1.count] 39), 
      .pt b7 (.cells #[.int .i64 (packetV o.packet).1.v, .string (packetV o.packet).1.src, .string (packetV o.packet).1.dst, .int .i64 (packetV o.packet).1.fr, .int .i64 (packetV o.packet).1.tp, .int .i64 (packetV o.packet).1.proto, .int .i64 (packetV o.packet).2.1] 101),
      .pt b6 (.cells #[.int .i64 0, .int .i64 0, .bool false, .int .i64 0] 39),
      .pt m.b (.cells #[.int .i64 m.c.wk, .int .i64 m.c.sh, .int .i64 m.c.cp, .int .i64 m.c.idle, .int .i64 m.c.sl, m.pv, .slice (some ⟨g, 0, none⟩) m.ts.length sc] 109),
      .own 103 2 m.pv m.pool.length (m.pool.flatMap encB), .own 113 2 (.slice (some ⟨g, 0, none⟩) m.ts.length sc) m.ts.length (m.ts.flatMap encSh), tabR (m.ts.map (·.1))])
      (fun x => .pointer (some ⟨x.1, 0, none⟩)) (fun x => tv) ?_ ?_
    · rintro ⟨ba, r⟩ _
      simp only
      have hr4 : tv.cells.toList = [tv] := by rw [hr1]
      have hsame : m.ts.set i ((tv, tl), tn) = m.ts := by
        obtain ⟨h, e⟩ := List.getElem?_eq_some_iff.1 hx
        rw [← e]; exact List.set_getElem_self h
      have hst : m.st.tabs.set i (tl, tn) = m.st.tabs := by
        have := congrArg (List.map fun t : ShV => (t.1.2, t.2)) hsame
        rw [List.map_set] at this; exact this
      have hd := decideV_same hnw
      (have hQq := trivial; repeat ((first | clear hQq | (with_reducible first | refine T_drw ?_ | refine T_bx fun _ => ?_ | refine s_al fun _ => ?_)); (try simp (disch := first | omega | assumption | ((repeat (first | exact mem_h | exact Up.here | apply mem_t | apply Up.there)); first | done | fail) | (simp; first | done | omega | fail)) [hlt])))
      refine s_st_own (by ((repeat (first | exact mem_h | exact Up.here | exact Sel.here | apply mem_t | apply Up.there | apply Sel.there)); first | done | fail)) (by simp [hr1]) (by rw [flat_len (k := 2) fun _ => rfl]; omega) (by simp [hr3]) ?_
      rw [hr4, set_sh (e' := tl) hx, hsame]
      (have hQq := trivial; repeat ((first | clear hQq | (with_reducible first | refine T_drw ?_ | refine T_bx fun _ => ?_ | refine s_al fun _ => ?_)); (try simp (disch := first | omega | assumption | ((repeat (first | exact mem_h | exact Up.here | apply mem_t | apply Up.there)); first | done | fail) | (simp; first | done | omega | fail)) [])))
      refine T_rets m ⟨by simp [AnsV.val], rfl, by rw [hd, hst]⟩ ?_
      simp only [modH, hsv]
      ((repeat (first | exact Sels.nil | (apply Sels.cons; · ((repeat (first | exact mem_h | exact Up.here | exact Sel.here | apply mem_t | apply Up.there | apply Sel.there)); first | done | fail)))); first | done | fail)
    · intro J hJ
      (have hQq := trivial; repeat ((first | clear hQq | (with_reducible first | refine T_drw ?_ | refine T_bx fun _ => ?_ | refine s_al fun _ => ?_)); (try simp (disch := first | omega | assumption | ((repeat (first | exact mem_h | exact Up.here | apply mem_t | apply Up.there)); first | done | fail) | (simp; first | done | omega | fail)) [hlt, h0])))
      have hclo : ∀ w', Fn PR NoX 106 #[packetC (packetV o.packet).1 (packetV o.packet).2.1] w' (fun u w'' => u = .bool cl ∧ But [] w' w'') := fun w' => by rw [← hcl]; exact closing_ok w' _ _
      refine ⟨?_, ?_⟩
      · refine T_cv ent_packet_Closing (fun w' _ => hclo w') ?_
        (have hQq := trivial; repeat ((first | clear hQq | (with_reducible first | refine T_drw ?_ | refine T_bx fun _ => ?_ | refine s_al fun _ => ?_)); (try simp (disch := first | omega | assumption | ((repeat (first | exact mem_h | exact Up.here | apply mem_t | apply Up.there)); first | done | fail) | (simp; first | done | omega | fail)) [h0])))
        refine ⟨?_, ?_⟩
        · refine T_cn ent_model_Decide (fun w' hw' => Decide_ok w' tv m.pv tl m.pool key cl now m.c.idle hk (hm.keys _ hxm) (hm.len _ hxm) hm.pool (tab_rd (t := (tv, tl)) hw' (ts := m.ts.map (·.1)) (by ((repeat (first | exact mem_h | exact Up.here | exact Sel.here | apply mem_t | apply Up.there | apply Sel.there)); first | done | fail)) (List.mem_map.2 ⟨_, hxm, rfl⟩)) (RdT.own (e := 103) (k := 2) (by ((repeat (first | exact mem_h | exact Up.here | exact Sel.here | apply mem_t | apply Up.there | apply Sel.there)); first | done | fail)) w' hw')) ?_
          rintro r _ rfl
          simp only [hnw, Bool.false_eq_true, if_false]
          (have hQq := trivial; repeat ((first | clear hQq | (with_reducible first | refine T_drw ?_ | refine T_bx fun _ => ?_ | refine s_al fun _ => ?_)); (try simp (disch := first | omega | assumption | ((repeat (first | exact mem_h | exact Up.here | apply mem_t | apply Up.there)); first | done | fail) | (simp; first | done | omega | fail)) [AnsV.val])))
          rename_i bx
          exact Sels.tw (by ((repeat (first | exact Sels.nil | (apply Sels.cons; · ((repeat (first | exact mem_h | exact Up.here | exact Sel.here | apply mem_t | apply Up.there | apply Sel.there)); first | done | fail)))); first | done | fail)) (hJ (bx, tv) ⟨hr1, hr2, hr3⟩)
        · refine ⟨?_, fun _ _ => trivial⟩
          (have hQq := trivial; repeat ((first | clear hQq | (with_reducible first | refine T_drw ?_ | refine T_bx fun _ => ?_ | refine s_al fun _ => ?_)); (try simp (disch := first | omega | assumption | ((repeat (first | exact mem_h | exact Up.here | apply mem_t | apply Up.there)); first | done | fail) | (simp; first | done | omega | fail)) [h0])))
          rename_i bx
          refine T_cn ent_model_Decide (fun w' hw' => Decide_ok w' tv m.pv tl m.pool key cl now m.c.idle hk (hm.keys _ hxm) (hm.len _ hxm) hm.pool (tab_rd (t := (tv, tl)) hw' (ts := m.ts.map (·.1)) (by ((repeat (first | exact mem_h | exact Up.here | exact Sel.here | apply mem_t | apply Up.there | apply Sel.there)); first | done | fail)) (List.mem_map.2 ⟨_, hxm, rfl⟩)) (RdT.own (e := 103) (k := 2) (by ((repeat (first | exact mem_h | exact Up.here | exact Sel.here | apply mem_t | apply Up.there | apply Sel.there)); first | done | fail)) w' hw')) ?_
          rintro r _ rfl
          simp only [hnw, Bool.false_eq_true, if_false]
          (have hQq := trivial; repeat ((first | clear hQq | (with_reducible first | refine T_drw ?_ | refine T_bx fun _ => ?_ | refine s_al fun _ => ?_)); (try simp (disch := first | omega | assumption | ((repeat (first | exact mem_h | exact Up.here | apply mem_t | apply Up.there)); first | done | fail) | (simp; first | done | omega | fail)) [AnsV.val])))
          exact Sels.tw (by ((repeat (first | exact Sels.nil | (apply Sels.cons; · ((repeat (first | exact mem_h | exact Up.here | exact Sel.here | apply mem_t | apply Up.there | apply Sel.there)); first | done | fail)))); first | done | fail)) (hJ (bx, tv) ⟨hr1, hr2, hr3⟩)
      · refine ⟨?_, fun _ _ => trivial⟩
        (have hQq := trivial; repeat ((first | clear hQq | (with_reducible first | refine T_drw ?_ | refine T_bx fun _ => ?_ | refine s_al fun _ => ?_)); (try simp (disch := first | omega | assumption | ((repeat (first | exact mem_h | exact Up.here | apply mem_t | apply Up.there)); first | done | fail) | (simp; first | done | omega | fail)) [h0])))
        rename_i bx
        rw [s_watchN (by ((repeat (first | exact mem_h | exact Up.here | exact Sel.here | apply mem_t | apply Up.there | apply Sel.there)); first | done | fail)) (by rfl)]
        (have hQq := trivial; repeat ((first | clear hQq | (with_reducible first | refine T_drw ?_ | refine T_bx fun _ => ?_ | refine s_al fun _ => ?_)); (try simp (disch := first | omega | assumption | ((repeat (first | exact mem_h | exact Up.here | apply mem_t | apply Up.there)); first | done | fail) | (simp; first | done | omega | fail)) [h0])))
        refine T_cv ent_packet_Closing (fun w' _ => hclo w') ?_
        (have hQq := trivial; repeat ((first | clear hQq | (with_reducible first | refine T_drw ?_ | refine T_bx fun _ => ?_ | refine s_al fun _ => ?_)); (try simp (disch := first | omega | assumption | ((repeat (first | exact mem_h | exact Up.here | apply mem_t | apply Up.there)); first | done | fail) | (simp; first | done | omega | fail)) [h0])))
        refine T_cn ent_model_Decide (fun w' hw' => Decide_ok w' tv m.pv tl m.pool key cl now m.c.idle hk (hm.keys _ hxm) (hm.len _ hxm) hm.pool (tab_rd (t := (tv, tl)) hw' (ts := m.ts.map (·.1)) (by ((repeat (first | exact mem_h | exact Up.here | exact Sel.here | apply mem_t | apply Up.there | apply Sel.there)); first | done | fail)) (List.mem_map.2 ⟨_, hxm, rfl⟩)) (RdT.own (e := 103) (k := 2) (by ((repeat (first | exact mem_h | exact Up.here | exact Sel.here | apply mem_t | apply Up.there | apply Sel.there)); first | done | fail)) w' hw')) ?_
        rintro r _ rfl
        simp only [hnw, Bool.false_eq_true, if_false]
        (have hQq := trivial; repeat ((first | clear hQq | (with_reducible first | refine T_drw ?_ | refine T_bx fun _ => ?_ | refine s_al fun _ => ?_)); (try simp (disch := first | omega | assumption | ((repeat (first | exact mem_h | exact Up.here | apply mem_t | apply Up.there)); first | done | fail) | (simp; first | done | omega | fail)) [AnsV.val])))
        exact Sels.tw (by ((repeat (first | exact Sels.nil | (apply Sels.cons; · ((repeat (first | exact mem_h | exact Up.here | exact Sel.here | apply mem_t | apply Up.there | apply Sel.there)); first | done | fail)))); first | done | fail)) (hJ (bx, tv) ⟨hr1, hr2, hr3⟩)
end Go.Proofs.YtggakcpabomliaaGreat
namespace Go.Proofs.YtggakcpabomliaaGreat
open Go
theorem bdF (a b c d : FuncId) (K : Value → WP) : pur PR (Instr.build 117 #[(0, .func (.func a) #[] #[]), (1, .func (.func b) #[] #[]), (2, .func (.func c) #[] #[]), (3, .func (.func d) #[] #[])]) K = K (.agg #[.func (.func a) #[] #[], .func (.func b) #[] #[], .func (.func c) #[] #[], .func (.func d) #[] #[]]) :=
  p_buildA ty117 ty116 (by rw [show (#[(0, Value.func (.func a) #[] #[]), (1, .func (.func b) #[] #[]), (2, .func (.func c) #[] #[]), (3, .func (.func d) #[] #[])] : Array (Nat × Value)).toList = [(0, .func (.func a) #[] #[]), (1, .func (.func b) #[] #[]), (2, .func (.func c) #[] #[]), (3, .func (.func d) #[] #[])] from rfl, fill_cons rfl rfl (by simp), fill_cons rfl rfl (by simp [spl_size]), fill_cons rfl rfl (by simp [spl_size]), fill_cons rfl rfl (by simp [spl_size])]; rfl)
def doV (s : MoS) (o : OpV) (now : Int) : MoS × AnsV :=
  if o.kind = 0 then dispV s o.packet now else if o.kind = 1 then updV s o.pool else if o.kind = 2 then expV s o.shard now else if o.kind = 3 then statV s else (s, ⟨1, 0, false, 0⟩)
theorem Do_ok (w : World) (m : MoH) (o : OpV) (v : Value) (now : Int) (hv : PoolAt w m v o.pool) (hpk : o.packet.size < 2 ^ 40) (hm : MoOk2 m) (hw : LW false (foots (modH m)) w (modH m) w) :
    Fn PR NoX 20 #[.pointer (some ⟨m.b, 0, none⟩), o.val v, .int .i64 now] w (DoR w m (doV m.st o now)) := by
  refine mk_model_Model_Do (TW.goH (κ := false) (S := foots (modH m)) ?_ hw)
  unfold sh_model_Model_Do
  simp only [OpV.val]
  unfold DoR
  generalize hS : foots (modH m) = S at *
  have hc1 : v.cells.size = 1 := by rw [hv.form.1]; rfl
  by_cases c0 : o.kind < 0
  · have e : doV m.st o now = (m.st, ⟨1, 0, false, 0⟩) := by unfold doV; rw [if_neg (by omega), if_neg (by omega), if_neg (by omega), if_neg (by omega)]
    rw [e]
    simp only [modH]
    (have hQq := trivial; repeat ((first | clear hQq | (with_reducible first | refine T_drw ?_ | refine T_bx fun _ => ?_ | refine s_al fun _ => ?_)); (try simp (disch := first | omega | assumption | ((repeat (first | exact mem_h | exact Up.here | apply mem_t | apply Up.there)); first | done | fail) | (simp; first | done | omega | fail)) [c0, bdF])))
    refine T_rets m ⟨by simp [AnsV.val], rfl, rfl⟩ ?_
    simp only [modH]
    ((repeat (first | exact Sels.nil | (apply Sels.cons; · ((repeat (first | exact mem_h | exact Up.here | exact Sel.here | apply mem_t | apply Up.there | apply Sel.there)); first | done | fail)))); first | done | fail)
  by_cases c4 : 4 ≤ o.kind
  · have e : doV m.st o now = (m.st, ⟨1, 0, false, 0⟩) := by unfold doV; rw [if_neg (by omega), if_neg (by omega), if_neg (by omega), if_neg (by omega)]
    rw [e]
    simp only [modH]
    (have hQq := trivial; repeat ((first | clear hQq | (with_reducible first | refine T_drw ?_ | refine T_bx fun _ => ?_ | refine s_al fun _ => ?_)); (try simp (disch := first | omega | assumption | ((repeat (first | exact mem_h | exact Up.here | apply mem_t | apply Up.there)); first | done | fail) | (simp; first | done | omega | fail)) [c0, c4, bdF])))
    refine T_rets m ⟨by simp [AnsV.val], rfl, rfl⟩ ?_
    simp only [modH]
    ((repeat (first | exact Sels.nil | (apply Sels.cons; · ((repeat (first | exact mem_h | exact Up.here | exact Sel.here | apply mem_t | apply Up.there | apply Sel.there)); first | done | fail)))); first | done | fail)
  have hk : o.kind = 0 ∨ o.kind = 1 ∨ o.kind = 2 ∨ o.kind = 3 := by omega
  rcases hk with hk | hk | hk | hk
  · rw [show doV m.st o now = dispV m.st o.packet now by simp [doV, hk]]
    simp only [modH]
    (have hQq := trivial; repeat ((first | clear hQq | (with_reducible first | refine T_drw ?_ | refine T_bx fun _ => ?_ | refine s_al fun _ => ?_)); (try simp (disch := first | omega | assumption | ((repeat (first | exact mem_h | exact Up.here | apply mem_t | apply Up.there)); first | done | fail) | (simp; first | done | omega | fail)) [hk, bdF])))
    refine T_callP (Hc := modH m) ent_model_Model_dispatch (fun w' hw' hs => by have := dispatch_ok w' m o v now hv.form hpk hm hs; rw [OpV.val, hk] at this; exact this) (by simp only [modH]; ((repeat (first | exact Part.nil | (apply Part.cons; · ((repeat (first | exact mem_h | exact Up.here | exact Sel.here | apply mem_t | apply Up.there | apply Sel.there)); first | done | fail)))); first | done | fail)) ?_
    rintro m' _ ⟨rfl, hb, hst⟩
    simp only [modH]
    (have hQq := trivial; repeat ((first | clear hQq | (with_reducible first | refine T_drw ?_ | refine T_bx fun _ => ?_ | refine s_al fun _ => ?_)); (try simp (disch := first | omega | assumption | ((repeat (first | exact mem_h | exact Up.here | apply mem_t | apply Up.there)); first | done | fail) | (simp; first | done | omega | fail)) [AnsV.val])))
    refine T_rets m' ⟨by simp [AnsV.val], hb, hst⟩ ?_
    simp only [modH]
    ((repeat (first | exact Sels.nil | (apply Sels.cons; · ((repeat (first | exact mem_h | exact Up.here | exact Sel.here | apply mem_t | apply Up.there | apply Sel.there)); first | done | fail)))); first | done | fail)
  · rw [show doV m.st o now = updV m.st o.pool by simp [doV, hk]]
    simp only [modH]
    (have hQq := trivial; repeat ((first | clear hQq | (with_reducible first | refine T_drw ?_ | refine T_bx fun _ => ?_ | refine s_al fun _ => ?_)); (try simp (disch := first | omega | assumption | ((repeat (first | exact mem_h | exact Up.here | apply mem_t | apply Up.there)); first | done | fail) | (simp; first | done | omega | fail)) [hk, bdF])))
    refine T_callP (Hc := modH m) ent_model_Model_update (fun w' hw' hs => by have := update_ok w' m o v now ⟨hv.at (by rw [hS]; exact hw'.ks), hv.off, hv.len, hv.form⟩ hs; rw [OpV.val, hk] at this; exact this) (by simp only [modH]; ((repeat (first | exact Part.nil | (apply Part.cons; · ((repeat (first | exact mem_h | exact Up.here | exact Sel.here | apply mem_t | apply Up.there | apply Sel.there)); first | done | fail)))); first | done | fail)) ?_
    rintro m' _ ⟨rfl, hb, hst⟩
    simp only [modH]
    (have hQq := trivial; repeat ((first | clear hQq | (with_reducible first | refine T_drw ?_ | refine T_bx fun _ => ?_ | refine s_al fun _ => ?_)); (try simp (disch := first | omega | assumption | ((repeat (first | exact mem_h | exact Up.here | apply mem_t | apply Up.there)); first | done | fail) | (simp; first | done | omega | fail)) [AnsV.val])))
    refine T_rets m' ⟨by simp [AnsV.val], hb, hst⟩ ?_
    simp only [modH]
    ((repeat (first | exact Sels.nil | (apply Sels.cons; · ((repeat (first | exact mem_h | exact Up.here | exact Sel.here | apply mem_t | apply Up.there | apply Sel.there)); first | done | fail)))); first | done | fail)
  · rw [show doV m.st o now = expV m.st o.shard now by simp [doV, hk]]
    simp only [modH]
    (have hQq := trivial; repeat ((first | clear hQq | (with_reducible first | refine T_drw ?_ | refine T_bx fun _ => ?_ | refine s_al fun _ => ?_)); (try simp (disch := first | omega | assumption | ((repeat (first | exact mem_h | exact Up.here | apply mem_t | apply Up.there)); first | done | fail) | (simp; first | done | omega | fail)) [hk, bdF])))
    refine T_callP (Hc := modH m) ent_model_Model_expire (fun w' hw' hs => by have := expire_ok w' m o v now hv.form hm.toMoOk hs; rw [OpV.val, hk] at this; exact this) (by simp only [modH]; ((repeat (first | exact Part.nil | (apply Part.cons; · ((repeat (first | exact mem_h | exact Up.here | exact Sel.here | apply mem_t | apply Up.there | apply Sel.there)); first | done | fail)))); first | done | fail)) ?_
    rintro m' _ ⟨rfl, hb, hst⟩
    simp only [modH]
    (have hQq := trivial; repeat ((first | clear hQq | (with_reducible first | refine T_drw ?_ | refine T_bx fun _ => ?_ | refine s_al fun _ => ?_)); (try simp (disch := first | omega | assumption | ((repeat (first | exact mem_h | exact Up.here | apply mem_t | apply Up.there)); first | done | fail) | (simp; first | done | omega | fail)) [AnsV.val])))
    refine T_rets m' ⟨by simp [AnsV.val], hb, hst⟩ ?_
    simp only [modH]
    ((repeat (first | exact Sels.nil | (apply Sels.cons; · ((repeat (first | exact mem_h | exact Up.here | exact Sel.here | apply mem_t | apply Up.there | apply Sel.there)); first | done | fail)))); first | done | fail)
  · rw [show doV m.st o now = statV m.st by simp [doV, hk]]
    simp only [modH]
    (have hQq := trivial; repeat ((first | clear hQq | (with_reducible first | refine T_drw ?_ | refine T_bx fun _ => ?_ | refine s_al fun _ => ?_)); (try simp (disch := first | omega | assumption | ((repeat (first | exact mem_h | exact Up.here | apply mem_t | apply Up.there)); first | done | fail) | (simp; first | done | omega | fail)) [hk, bdF])))
    refine T_callP (Hc := modH m) ent_model_Model_stats (fun w' hw' hs => by have := stats_ok w' m o v now hv.form hm.toMoOk hs; rw [OpV.val, hk] at this; exact this) (by simp only [modH]; ((repeat (first | exact Part.nil | (apply Part.cons; · ((repeat (first | exact mem_h | exact Up.here | exact Sel.here | apply mem_t | apply Up.there | apply Sel.there)); first | done | fail)))); first | done | fail)) ?_
    rintro m' _ ⟨rfl, hb, hst⟩
    simp only [modH]
    (have hQq := trivial; repeat ((first | clear hQq | (with_reducible first | refine T_drw ?_ | refine T_bx fun _ => ?_ | refine s_al fun _ => ?_)); (try simp (disch := first | omega | assumption | ((repeat (first | exact mem_h | exact Up.here | apply mem_t | apply Up.there)); first | done | fail) | (simp; first | done | omega | fail)) [AnsV.val])))
    refine T_rets m' ⟨by simp [AnsV.val], hb, hst⟩ ?_
    simp only [modH]
    ((repeat (first | exact Sels.nil | (apply Sels.cons; · ((repeat (first | exact mem_h | exact Up.here | exact Sel.here | apply mem_t | apply Up.there | apply Sel.there)); first | done | fail)))); first | done | fail)
end Go.Proofs.YtggakcpabomliaaGreat
namespace Go.Proofs.YtggakcpabomliaaGreat
open Go
theorem keys_set {l : List EnV} {j : Nat} {x : EnV} (h : KeysOk l) (hx : x.key.size < 2 ^ 60) : KeysOk (l.set j x) := fun y hy => by
  rcases List.mem_or_eq_of_mem_set hy with h1 | rfl
  · exact h y h1
  · exact hx
theorem keys_new (n : Nat) : KeysOk (newE n) := fun x hx => by
  unfold newE at hx
  rw [(List.mem_replicate.1 hx).2]; simp [noE]
theorem keys_putS {a : List EnV} {x : EnV} (h : KeysOk a) (hx : x.key.size < 2 ^ 60) : KeysOk (putS a x) := by
  unfold putS
  cases hp : putE a x with
  | none => exact h
  | some u => obtain ⟨j, _, rfl⟩ := putE_set hp; exact keys_set h hx
theorem keys_tidy {l : List EnV} (h : KeysOk l) : KeysOk (tidyE l) := by
  unfold tidyE
  have : ∀ (L : List (Nat × EnV)) (a : List EnV), (∀ p ∈ L, p.2.key.size < 2 ^ 60) → KeysOk a → KeysOk (L.foldl (fun acc p => putS acc p.2) a) := by
    intro L
    induction L with
    | nil => intro a _ h; exact h
    | cons p L ih => intro a hL ha; rw [List.foldl_cons]; exact ih _ (fun q hq => hL q (List.mem_cons_of_mem _ hq)) (keys_putS ha (hL p (List.mem_cons_self ..)))
  exact this _ _ (fun p hp => h _ (liveF_mem p hp).1) (keys_new _)
theorem keys_settle {l : List EnV} (h : KeysOk l) : KeysOk (settleE l) := by
  unfold settleE; split
  · exact keys_tidy h
  · exact h
theorem tomb_key : tombE.key.size < 2 ^ 60 := by simp [tombE]
/-- a table of a model: of n places, right -/
structure TabOk (n : Nat) (l : List EnV) : Prop where
  len : l.length = n
  few : n ≤ 64
  keys : KeysOk l
  right : rightE l = true
theorem TabOk.new {n : Nat} (h : n ≤ 64) : TabOk n (newE n) := ⟨by rw [newE_len]; omega, h, keys_new _, right_new _⟩
theorem TabOk.settle {n : Nat} {l : List EnV} (h : TabOk n l) : TabOk n (settleE l) := ⟨by rw [settle_len (by rw [h.len]; exact h.few), h.len], h.few, keys_settle h.keys, right_settle h.right⟩
theorem TabOk.tomb {n : Nat} {l : List EnV} {j : Nat} (h : TabOk n l) (hj : j < l.length) : TabOk n (l.set j tombE) := ⟨by rw [List.length_set, h.len], h.few, keys_set h.keys tomb_key, right_tomb hj h.right⟩
theorem TabOk.put {n : Nat} {l u : List EnV} {x : EnV} (h : TabOk n l) (hx : x.key.size < 2 ^ 60) (h1 : x.st = 1) (hp : putE l x = some u) : TabOk n u :=
  ⟨by rw [putE_len hp, h.len], h.few, by obtain ⟨j, _, rfl⟩ := putE_set hp; exact keys_set h.keys hx, right_put h1 hp h.right⟩
theorem TabOk.perm {n : Nat} {l : List EnV} (h : TabOk n l) : (flowsOf (settleE l)).Perm (flowsOf l) := flowsOf_settle h.right (by rw [h.len]; exact h.few)
theorem findE_entry {l : List EnV} {key : ByteArray} (h : 0 ≤ findE l key) : l[(findE l key).toNat]? = some (atE l key) ∧ (atE l key).st = 1 ∧ (atE l key).key = key := by
  obtain ⟨x, h1, h2, h3⟩ := findE_at (l := l) (key := key) (j := (findE l key).toNat) (by omega)
  have e : atE l key = x := by unfold atE; rw [List.getD_eq_getElem?_getD, h1]; rfl
  rw [e]; exact ⟨h1, h2, h3⟩
theorem del0_some {l u : List EnV} {key : ByteArray} (h : del0 l key = some u) : 0 ≤ findE l key ∧ (findE l key).toNat < l.length ∧ u = l.set (findE l key).toNat tombE ∧ (atE l key :: flowsOf u).Perm (flowsOf l) := by
  unfold del0 at h
  split at h
  · cases h
  · rename_i c
    injection h with h
    subst h
    have h0 : 0 ≤ findE l key := by omega
    obtain ⟨h1, h2, h3⟩ := findE_entry h0
    have hs := flowsOf_set (x := tombE) h1
    unfold oneE at hs
    rw [if_pos h2, if_neg (by simp [tombE])] at hs
    exact ⟨h0, findE_lt h0, rfl, by simpa using hs⟩
theorem putE_flows {l u : List EnV} {x : EnV} (h1 : x.st = 1) (hp : putE l x = some u) : (0 ≤ findE l x.key ∧ (atE l x.key :: flowsOf u).Perm (x :: flowsOf l)) ∨ (findE l x.key < 0 ∧ (flowsOf u).Perm (x :: flowsOf l)) := by
  obtain ⟨j, hj, rfl, hf, hc⟩ := putE_find hp h1
  have hj1 : l[j]? = some l[j] := List.getElem?_eq_getElem hj
  have hs := flowsOf_set (x := x) hj1
  unfold oneE at hs
  rw [if_pos h1] at hs
  rcases hc with hc | ⟨hc, hr⟩
  · left
    have h0 : 0 ≤ findE l x.key := by omega
    obtain ⟨e1, e2, e3⟩ := findE_entry h0
    have : (findE l x.key).toNat = j := by omega
    rw [this, hj1] at e1
    injection e1 with e1
    rw [e1, if_pos e2] at hs
    exact ⟨h0, by simpa using hs⟩
  · right
    refine ⟨hc, ?_⟩
    have hm : ∀ L, roomW L = (j : Nat) → ∃ y, (j, y) ∈ L ∧ y.st ≠ 1 := by
      intro L
      induction L with
      | nil => intro h; simp [roomW] at h <;> omega
      | cons p L ih =>
        intro h
        simp only [roomW] at h
        split at h
        · obtain ⟨y, h1, h2⟩ := ih h; exact ⟨y, List.mem_cons_of_mem _ h1, h2⟩
        · rename_i c2
          have : p.1 = j := by omega
          exact ⟨p.2, by rw [← this]; simp, c2⟩
    obtain ⟨y, h2, h3⟩ := hm _ hr
    have h4 := wayL_get h2
    rw [hj1] at h4
    injection h4 with h4
    rw [if_neg (by rw [h4]; exact h3)] at hs
    simpa using hs
/-- what becomes of the flows by a packet -/
structure Decided (l u : List EnV) (key : ByteArray) (made : Bool) : Prop where
  up : (flowsOf u).length ≤ (flowsOf l).length + 1
  down : (flowsOf l).length ≤ (flowsOf u).length + 1
  new : (flowsOf l).length < (flowsOf u).length → made = true
  from' : ∀ x ∈ flowsOf u, x ∈ flowsOf l ∨ x.key = key
theorem Decided.refl (l : List EnV) (key : ByteArray) (made : Bool) : Decided l l key made := ⟨by omega, by omega, by omega, fun x hx => Or.inl hx⟩
theorem known_find {l : List EnV} {p : List BkV} {key : ByteArray} {now : Int} (h : findE l key < 0) : (knownV l p key now).2 = false := by
  unfold knownV; rw [if_pos (Or.inl h)]
theorem decideV_ok {n : Nat} {l : List EnV} {p : List BkV} {key : ByteArray} {closing : Bool} {now idle : Int} (h : TabOk n l) (hk : key.size < 2 ^ 60) :
    TabOk n (decideV l p key closing now idle).1 ∧ Decided l (decideV l p key closing now idle).1 key (decideV l p key closing now idle).2.1.made := by
  unfold decideV
  split
  · exact ⟨h, .refl _ _ _⟩
  · split
    · unfold delE
      cases hd : del0 l key with
      | none => exact ⟨h, .refl _ _ _⟩
      | some u =>
        obtain ⟨h0, hlt, rfl, hp⟩ := del0_some hd
        have ht := h.tomb hlt
        have hp2 := (ht.perm.cons (atE l key)).trans hp
        have hl := hp2.length_eq
        simp only [List.length_cons] at hl
        exact ⟨ht.settle, by simp only; omega, by simp only; omega, fun h => by simp only at h; omega, fun x hx => Or.inl (hp2.subset (List.mem_cons_of_mem _ hx))⟩
    · cases hp : putE l (newX l p key now idle) with
      | none => exact ⟨h, .refl _ _ _⟩
      | some u =>
        refine ⟨h.put hk rfl hp, ?_⟩
        rcases putE_flows (x := newX l p key now idle) rfl hp with ⟨h0, h1⟩ | ⟨h0, h1⟩
        · have hl := h1.length_eq
          simp only [List.length_cons] at hl
          exact ⟨by simp only; omega, by simp only; omega, fun h => by simp only at h; omega, fun x hx => by
            rcases List.mem_cons.1 (h1.subset (List.mem_cons_of_mem _ hx)) with rfl | h2
            · exact Or.inr rfl
            · exact Or.inl h2⟩
        · have hl := h1.length_eq
          simp only [List.length_cons] at hl
          exact ⟨by simp only; omega, by simp only; omega, fun h => by simp [known_find (p := p) (now := now) (show findE l key < 0 from h0)], fun x hx => by
            rcases List.mem_cons.1 (h1.subset hx) with rfl | h2
            · exact Or.inr rfl
            · exact Or.inl h2⟩
/-- what becomes of the flows by a sweep -/
def Swept (now : Int) (l u : List EnV) (k : Nat) : Prop := ∃ r, (r ++ flowsOf u).Perm (flowsOf l) ∧ (∀ x ∈ r, dueV x now = true) ∧ r.length = k
theorem Swept.trans {now : Int} {a b c : List EnV} {i j : Nat} (h : Swept now a b i) (h' : Swept now b c j) : Swept now a c (i + j) := by
  obtain ⟨r, h1, h2, h3⟩ := h
  obtain ⟨s, h4, h5, h6⟩ := h'
  refine ⟨r ++ s, ?_, ?_, by rw [List.length_append, h3, h6]⟩
  · rw [List.append_assoc]; exact (h4.append_left r).trans h1
  · intro x hx
    rcases List.mem_append.1 hx with hx | hx
    · exact h2 x hx
    · exact h5 x hx
theorem stepP_ok {n : Nat} {l : List EnV} {now : Int} {c j : Nat} (h : TabOk n l) (hj : j < l.length) : TabOk n (stepP now (l, c) j).1 ∧ ∃ k, (stepP now (l, c) j).2 = c + k ∧ Swept now l (stepP now (l, c) j).1 k ∧ (∀ i x, (stepP now (l, c) j).1[i]? = some x → dueV x now = true → i ≠ j ∧ l[i]? = some x) := by
  have hj1 : l[j]? = some l[j] := List.getElem?_eq_getElem hj
  have hd : l.getD j noE = l[j] := by rw [List.getD_eq_getElem?_getD, hj1]; rfl
  unfold stepP
  simp only [hd]
  by_cases c1 : dueV l[j] now = true
  · rw [if_pos c1]
    have hst : l[j].st = 1 := by unfold dueV at c1; simp at c1; exact c1.1
    have hs := flowsOf_set (x := tombE) hj1
    unfold oneE at hs
    rw [if_pos hst, if_neg (by simp [tombE])] at hs
    refine ⟨h.tomb hj, 1, rfl, ⟨[l[j]], by simpa using hs, by simpa using c1, rfl⟩, fun i x hx hdx => ?_⟩
    rcases getElem?_set_some hx with ⟨_, rfl⟩ | h2
    · simp [dueV, tombE] at hdx
    · exact h2
  · rw [if_neg c1]
    refine ⟨h, 0, rfl, ⟨[], by simp, by simp, rfl⟩, fun i x hx hdx => ⟨fun e => ?_, hx⟩⟩
    subst e
    rw [hj1] at hx
    injection hx with hx
    rw [hx] at c1
    exact c1 hdx
theorem fold_ok {n : Nat} {now : Int} : ∀ (L : List Nat) (l : List EnV) (c : Nat), TabOk n l → (∀ j ∈ L, j < n) → TabOk n (L.foldl (stepP now) (l, c)).1 ∧ ∃ k, (L.foldl (stepP now) (l, c)).2 = c + k ∧ Swept now l (L.foldl (stepP now) (l, c)).1 k ∧ (∀ i x, (L.foldl (stepP now) (l, c)).1[i]? = some x → dueV x now = true → i ∉ L ∧ l[i]? = some x) := by
  intro L
  induction L with
  | nil => intro l c h _; exact ⟨h, 0, rfl, ⟨[], by simp, by simp, rfl⟩, fun i x hx _ => ⟨by simp, hx⟩⟩
  | cons j L ih =>
    intro l c h hL
    obtain ⟨h1, k, h2, h3, h3'⟩ := stepP_ok (now := now) (c := c) h (by rw [h.len]; exact hL j (List.mem_cons_self ..))
    obtain ⟨h4, k', h5, h6, h6'⟩ := ih (stepP now (l, c) j).1 (stepP now (l, c) j).2 h1 fun q hq => hL q (List.mem_cons_of_mem _ hq)
    rw [List.foldl_cons]
    refine ⟨h4, k + k', by rw [h5, h2]; omega, h3.trans h6, fun i x hx hd => ?_⟩
    obtain ⟨a, b⟩ := h6' i x hx hd
    obtain ⟨c, d⟩ := h3' i x b hd
    exact ⟨by simp [a, c], d⟩
theorem Swept.zero {now : Int} {l u : List EnV} (h : (flowsOf u).Perm (flowsOf l)) : Swept now l u 0 := ⟨[], h, by simp, rfl⟩
theorem places_lt {f n m : Nat} (hm : 0 < m) : ∀ j ∈ placesL f n m, j < m := fun j hj => by
  unfold placesL at hj
  obtain ⟨i, _, rfl⟩ := List.mem_map.1 hj
  exact Nat.mod_lt _ hm
theorem sweepV_ok {n : Nat} {l : List EnV} {f k now : Int} (h : TabOk n l) (hn : 0 < n) : TabOk n (sweepV l f k now).1 ∧ Swept now l (sweepV l f k now).1 (sweepV l f k now).2.2 := by
  obtain ⟨h1, q, h2, h3⟩ : TabOk n (sweep0 l (fromV l f) (manyV l k) now).1 ∧ ∃ q, (sweep0 l (fromV l f) (manyV l k) now).2 = q ∧ Swept now l (sweep0 l (fromV l f) (manyV l k) now).1 q := by
    obtain ⟨h1, q, h2, h3, _⟩ := fold_ok (now := now) (placesL (fromV l f) (manyV l k) l.length) l 0 h (by rw [← h.len]; exact places_lt (by rw [h.len]; exact hn))
    exact ⟨h1, q, by rw [Nat.zero_add] at h2; exact h2, h3⟩
  unfold sweepV
  simp only
  by_cases c : 0 < (sweep0 l (fromV l f) (manyV l k) now).2
  · rw [if_pos c]
    refine ⟨h1.settle, ?_⟩
    have := h3.trans (Swept.zero (now := now) h1.perm)
    rw [h2]; simpa using this
  · rw [if_neg c]
    exact ⟨h1, by rw [h2]; exact h3⟩
structure Inv (c : CfgV) (s : MoS) : Prop where
  cfg : s.c = c
  ok : cfgOk c = true
  pool : checkV s.pool = 0
  sh : (s.tabs.length : Int) = c.sh
  tab : ∀ t ∈ s.tabs, TabOk c.cp.toNat t.1
  own : ∀ (i : Nat) t, s.tabs[i]? = some t → ∀ x ∈ flowsOf t.1, shardV x.key c.sh = i
theorem cfg_bounds {c : CfgV} (h : cfgOk c = true) : 1 ≤ c.wk ∧ c.wk ≤ 64 ∧ 1 ≤ c.sh ∧ c.sh ≤ 16 ∧ 1 ≤ c.cp ∧ c.cp ≤ 64 ∧ 0 ≤ c.idle ∧ c.idle ≤ 1000000 := by
  simp [cfgOk, inV] at h; omega
theorem Inv.new {c : CfgV} (h : cfgOk c = true) : Inv c ⟨c, [], newTs c⟩ := by
  have hb := cfg_bounds h
  refine ⟨rfl, h, rfl, by simp [newTs]; omega, fun t ht => ?_, fun i t ht x hx => ?_⟩
  · rw [newTs] at ht
    rw [(List.mem_replicate.1 ht).2]
    exact TabOk.new (by omega)
  · have ht := List.mem_of_getElem? ht
    rw [newTs] at ht
    rw [(List.mem_replicate.1 ht).2, flowsOf_new] at hx
    cases hx
theorem shardV_lt {key : ByteArray} {n : Int} (h : 1 ≤ n) : shardV key n < n.toNat := by
  unfold shardV; rw [if_neg (by omega)]; exact Nat.mod_lt _ (by omega)
theorem Inv.set {c : CfgV} {s : MoS} (h : Inv c s) {i : Nat} {t u : List EnV × Nat} (ht : s.tabs[i]? = some t) (hu : TabOk c.cp.toNat u.1) (hf : ∀ x ∈ flowsOf u.1, x ∈ flowsOf t.1 ∨ shardV x.key c.sh = i) : Inv c { s with tabs := s.tabs.set i u } := by
  refine ⟨h.cfg, h.ok, h.pool, by rw [List.length_set]; exact h.sh, fun v hv => ?_, fun j v hv x hx => ?_⟩
  · rcases List.mem_or_eq_of_mem_set hv with h1 | rfl
    · exact h.tab v h1
    · exact hu
  · rcases getElem?_set_some hv with ⟨rfl, rfl⟩ | ⟨_, h2⟩
    · rcases hf x hx with h1 | h1
      · exact h.own j t ht x h1
      · exact h1
    · exact h.own j v h2 x hx
theorem Inv.at {c : CfgV} {s : MoS} (h : Inv c s) {i : Nat} (hi : i < c.sh.toNat) : s.tabs[i]? = some (s.tabs.getD i ([], 0)) := getD_some _ (by have := h.sh; omega)
theorem Inv.do' {c : CfgV} {s : MoS} (h : Inv c s) (o : OpV) (now : Int) : Inv c (doV s o now).1 := by
  have hb := cfg_bounds h.ok
  obtain ⟨sc, sp, st⟩ := s
  obtain rfl : sc = c := h.cfg
  unfold doV
  split
  · unfold dispV
    simp only
    split
    · exact h
    · have hi := shardV_lt (key := keyB (packetV o.packet).1) hb.2.2.1
      have hat := h.at hi
      have ht := h.tab _ (List.mem_of_getElem? hat)
      obtain ⟨h1, h2⟩ := decideV_ok (p := sp) (closing := closingV (packetV o.packet).1 (packetV o.packet).2.1) (now := now) (idle := sc.idle) ht (keyB_size (packetV o.packet).1)
      exact h.set (u := (_, _)) hat h1 fun x hx => by
        rcases h2.from' x hx with h3 | h3
        · exact Or.inl h3
        · exact Or.inr (by rw [h3])
  split
  · unfold updV
    split
    · rename_i hc
      exact ⟨h.cfg, h.ok, hc, h.sh, h.tab, h.own⟩
    · exact h
  split
  · unfold expV
    split
    · exact h
    · rename_i hc
      have hat := h.at (i := o.shard.toNat) (by have := h.sh; omega)
      have ht := h.tab _ (List.mem_of_getElem? hat)
      simp only
      obtain ⟨h1, h2⟩ := sweepV_ok (f := (st.getD o.shard.toNat ([], 0)).2) (k := 4) (now := now) ht (by omega)
      refine h.set (u := (_, _)) hat h1 fun x hx => ?_
      obtain ⟨r, h3, _⟩ := h2
      exact Or.inl (h3.subset (List.mem_append_right _ hx))
  split
  · exact h
  · exact h
theorem Inv.ok2 {m : MoH} {c : CfgV} (h : Inv c m.st) : MoOk2 m := by
  have hb := cfg_bounds h.ok
  have hl : m.st.tabs.length = m.ts.length := by simp [MoH.st]
  have hsh := h.sh
  have hm : ∀ t ∈ m.ts, TabOk c.cp.toNat t.1.2 := fun t ht => h.tab (t.1.2, t.2) (List.mem_map.2 ⟨t, ht, rfl⟩)
  have hc : m.c = c := h.cfg
  have hp := h.pool
  refine ⟨⟨by omega, fun t ht => by rw [(hm t ht).len]; omega, fun t ht => (hm t ht).keys⟩, ?_, by rw [hc]; omega, by omega⟩
  have : m.st.pool = m.pool := rfl
  rw [this] at hp
  unfold checkV at hp
  split at hp
  · rename_i hc; simp at hc; omega
  · cases hp
end Go.Proofs.YtggakcpabomliaaGreat
namespace Go.Proofs.YtggakcpabomliaaGreat
open Go
def wkK : KeyV := ⟨4, ByteArray.mk #[97, 98, 99, 100], ByteArray.mk #[101, 102, 103, 104], 1, 2, 17⟩
def wkC : CfgV := ⟨1, 1, 1, 5, 2⟩
theorem wk_put : (packetP wkK 0).2 = 0 := by kernel_rfl
theorem wk_parse : packetV (packetP wkK 0).1 = (wkK, 0, 0) := by kernel_rfl
theorem wk_size : (packetP wkK 0).1.size < 2 ^ 40 := by
  rw [show (packetP wkK 0).1.size = 28 by kernel_rfl]; omega
theorem wk_closing : closingV wkK 0 = false := by kernel_rfl
theorem wk_cfg : cfgOk wkC = true := by kernel_rfl
theorem wk_cfg0 : cfgOk ⟨0, 0, 0, 0, 0⟩ = false := by kernel_rfl
theorem wk_shard (key : ByteArray) : shardV key 1 = 0 := by unfold shardV; simp [Nat.mod_one]
theorem wk_way (x : EnV) (key : ByteArray) : wayL [x] key = [(0, x)] := by unfold wayL; simp [Nat.mod_one, List.range_succ]
theorem wk_pick (h : Nat) : pickV [(7, 1)] h = 7 := by
  have hm : ∀ x ∈ sortP (ptsL [(7, 1)]), x.2 = 7 := fun x hx => by
    unfold sortP at hx
    have hx := (List.mergeSort_perm _ _).mem_iff.1 hx
    simp only [ptsL, ptsB, List.flatMap_cons, List.flatMap_nil, List.append_nil, List.mem_map] at hx
    obtain ⟨_, _, rfl⟩ := hx; rfl
  have hl : (sortP (ptsL [(7, 1)])).length = 8 := by
    unfold sortP; rw [List.length_mergeSort]; rfl
  unfold pickV succP
  generalize sortP (ptsL [(7, 1)]) = l at *
  rw [if_neg (by omega)]
  have hi : searchV (geP l h) 0 l.length % l.length < l.length := Nat.mod_lt _ (by omega)
  rw [List.getD_eq_getElem?_getD, List.getElem?_eq_getElem hi]
  exact hm _ (List.getElem_mem hi)
def wk0 : MoS := ⟨wkC, [], [([noE], 0)]⟩
def wk1 : MoS := ⟨wkC, [(7, 1)], [([noE], 0)]⟩
def wkE (now : Int) : EnV := ⟨1, keyB wkK, 7, now + 5⟩
def wk2 (now : Int) : MoS := ⟨wkC, [(7, 1)], [([wkE now], 0)]⟩
theorem wk_disp (s : MoS) (hs : s.c = wkC) (now : Int) : dispV s (packetP wkK 0).1 now = ({ s with tabs := s.tabs.set 0 ((decideV (s.tabs.getD 0 ([], 0)).1 s.pool (keyB wkK) false now 5).1, (s.tabs.getD 0 ([], 0)).2) }, (decideV (s.tabs.getD 0 ([], 0)).1 s.pool (keyB wkK) false now 5).2.1) := by
  unfold dispV
  rw [wk_parse]
  simp only [hs, wkC, wk_shard, wk_closing, ne_eq, not_true_eq_false, if_false]
  rfl
theorem wk_find0 : findE [noE] (keyB wkK) = -1 := by unfold findE; rw [wk_way]; rfl
theorem wk_find1 (now : Int) : findE [wkE now] (keyB wkK) = 0 := by unfold findE; rw [wk_way]; simp [findW, wkE]
theorem wk_a : dispV wk0 (packetP wkK 0).1 0 = (wk0, ⟨11, 0, false, 0⟩) := by
  rw [wk_disp _ rfl]
  have : decideV [noE] [] (keyB wkK) false 0 5 = ([noE], ⟨11, 0, false, 0⟩, false) := by
    unfold decideV knownV
    rw [wk_find0]; simp
  simp only [wk0, List.getD_cons_zero, this]
  rfl
theorem wk_b : updV wk0 [(7, 1)] = (wk1, ⟨0, 0, false, 0⟩) := by kernel_rfl
theorem wk_known0 (now : Int) (l : List EnV) (h : findE l (keyB wkK) = -1) : knownV l [(7, 1)] (keyB wkK) now = (0, false) := by
  unfold knownV; rw [h]; simp
theorem wk_d : dispV wk1 (packetP wkK 0).1 0 = (wk2 0, ⟨0, 7, true, 0⟩) := by
  rw [wk_disp _ rfl]
  have : decideV [noE] [(7, 1)] (keyB wkK) false 0 5 = ([wkE 0], ⟨0, 7, true, 0⟩, true) := by
    unfold decideV pickB newX
    unfold putE roomE
    simp only [pickB, wk_known0 0 _ wk_find0, wk_find0, wk_way, wk_pick]
    simp [roomW, noE, wkE]
  simp only [wk1, List.getD_cons_zero, this]
  rfl
theorem wk_know (at' now : Int) (h : now ≤ at' + 5) : knownV [wkE at'] [(7, 1)] (keyB wkK) now = (7, true) := by
  unfold knownV atE
  rw [wk_find1]
  have : findB [(7, 1)] 7 = 0 := by kernel_rfl
  simp [wkE, this]
  omega
theorem wk_late (at' now : Int) (h : at' + 5 < now) : knownV [wkE at'] [(7, 1)] (keyB wkK) now = (0, false) := by
  unfold knownV atE
  rw [wk_find1]
  simp [wkE, h]
theorem wk_again (at' now : Int) (a : AnsV) (hk : pickB [wkE at'] [(7, 1)] (keyB wkK) now = 7) (ha : a = ⟨0, 7, !(knownV [wkE at'] [(7, 1)] (keyB wkK) now).2, 0⟩) (hw : IntKind.i64.wrap (now + 5) = now + 5) : dispV (wk2 at') (packetP wkK 0).1 now = (wk2 now, a) := by
  rw [wk_disp _ rfl]
  have : decideV [wkE at'] [(7, 1)] (keyB wkK) false now 5 = ([wkE now], a, true) := by
    unfold decideV newX
    unfold putE
    rw [hk, hw]
    simp only [wk_find1]
    simp [wkE, ha]
  simp only [wk2, List.getD_cons_zero, this]
  rfl
theorem wk_g : dispV (wk2 0) (packetP wkK 0).1 5 = (wk2 5, ⟨0, 7, false, 0⟩) :=
  wk_again 0 5 _ (by unfold pickB; rw [wk_know 0 5 (by omega)]; rfl) (by rw [wk_know 0 5 (by omega)]; rfl) (by decide)
theorem wk_h : dispV (wk2 5) (packetP wkK 0).1 11 = (wk2 11, ⟨0, 7, true, 0⟩) :=
  wk_again 5 11 _ (by unfold pickB; rw [wk_late 5 11 (by omega)]; exact wk_pick _) (by rw [wk_late 5 11 (by omega)]; rfl) (by decide)
theorem wk_i : statV (wk2 11) = (wk2 11, ⟨0, 0, false, 1⟩) := rfl
theorem wk_j : packetV (ByteArray.mk #[]) = (noK, 0, 2) := by kernel_rfl
end Go.Proofs.YtggakcpabomliaaGreat
namespace Go.Proofs.YtggakcpabomliaaGreat
open Go
@[simp] theorem ans_err (a b c d : Value) (K : Value → WP) : pur PR (Instr.field 39 (.agg #[a, b, c, d]) 0) K = K a := i_fd_39_0 rfl K
@[simp] theorem ans_count (a b c d : Value) (K : Value → WP) : pur PR (Instr.field 39 (.agg #[a, b, c, d]) 3) K = K d := i_fd_39_3 rfl K
section
variable {κ : Bool} {S : List Nat} {w0 w : World} {H Hk : List Res} {K : Value → WP}
theorem part_pre {A B : List Res} : Part A (A ++ B) B := by
  induction A with
  | nil => exact Part.nil
  | cons r A ih => exact Part.cons Sel.here ih
theorem Part.skip {x : Res} {Hc : List Res} (h : Part Hc H Hk) : Part Hc (x :: H) (x :: Hk) := by
  induction h with
  | nil => exact Part.nil
  | cons h1 _ ih => exact Part.cons (Sel.there h1) ih
theorem do_disp (s : MoS) (o : OpV) (now : Int) (h : o.kind = 0) : doV s o now = dispV s o.packet now := by unfold doV; rw [if_pos h]
theorem do_upd (s : MoS) (o : OpV) (now : Int) (h : o.kind = 1) : doV s o now = updV s o.pool := by unfold doV; rw [if_neg (by omega), if_pos h]
theorem do_stat (s : MoS) (o : OpV) (now : Int) (h : o.kind = 3) : doV s o now = statV s := by unfold doV; rw [if_neg (by omega), if_neg (by omega), if_neg (by omega), if_pos h]
theorem do_none (s : MoS) (o : OpV) (now : Int) (h : o.kind < 0 ∨ 3 < o.kind) : doV s o now = (s, ⟨1, 0, false, 0⟩) := by unfold doV; rw [if_neg (by omega), if_neg (by omega), if_neg (by omega), if_neg (by omega)]
theorem poolAt_nil {m : MoH} : PoolAt w m (.slice none 0 0) [] := ⟨Or.inl ⟨rfl, rfl, none, 0, rfl⟩, fun h => by simp at h, by simp, rfl, rfl⟩
theorem poolAt_own {m : MoH} {v : Value} {p : List BkV} {e : TypeId} (hw : LW κ S w0 (modH m ++ Hk) w) (hm : Res.own e 2 v p.length (p.flatMap encB) ∈ Hk) (hl : p.length ≤ 1000) : PoolAt w m v p := by
  have h := hw.hold _ (List.mem_append_right _ hm)
  obtain ⟨a, c, e⟩ := Own.form h
  refine ⟨Own.rd h, fun _ g hg hf => ?_, hl, by rw [e]; rfl, by rw [e]; rfl⟩
  obtain ⟨s, hs, hbs⟩ := mem_foots.1 hf
  exact (List.pairwise_append.1 hw.dis).2.2 s hs _ hm g hbs hg
theorem T_do {m : MoH} {o : OpV} {v : Value} {now : Int} {c : CfgV} (r : MoS × AnsV) (hi : Inv c m.st) (hp : Part (modH m) H Hk) (hpa : ∀ w, LW false S w0 (modH m ++ Hk) w → PoolAt w m v o.pool) (hpk : o.packet.size < 2 ^ 40) (hr : doV m.st o now = r)
    (hK : ∀ m' : MoH, m'.b = m.b → m'.st = r.1 → Inv c m'.st → TW false S w0 (modH m' ++ Hk) (K r.2.val)) : TW false S w0 H (cal PR NoX 20 [.pointer (some ⟨m.b, 0, none⟩), o.val v, .int .i64 now] K) := by
  subst hr
  refine T_callP (Hc := modH m) ent_model_Model_Do (fun w' hw hs => Do_ok w' m o v now (hpa w' hw) hpk hi.ok2 hs) hp ?_
  rintro m' _ ⟨rfl, hb, hst⟩
  exact hK m' hb hst (by rw [hst]; exact hi.do' o now)
theorem Inv.tabs {c : CfgV} {m : MoH} (hi : Inv c m.st) : ∀ t ∈ m.ts, TabOk c.cp.toNat t.1.2 := fun t ht => hi.tab (t.1.2, t.2) (List.mem_map.2 ⟨t, ht, rfl⟩)
theorem tabR_of {m : MoH} : tabR (m.ts.map (·.1)) ∈ modH m := by simp [modH]
theorem mo_tab (hw : LW κ S w0 H w) {m : MoH} (hm : ∀ r ∈ modH m, r ∈ H) : ∀ t ∈ m.ts, Rd1 w t.1.1 t.1.2.length (t.1.2.flatMap encE) := fun t ht =>
  tab_rd hw (hm _ tabR_of) (List.mem_map.2 ⟨t, ht, rfl⟩)
theorem mo_pt {m : MoH} : Res.pt m.b (.cells #[.int .i64 m.c.wk, .int .i64 m.c.sh, .int .i64 m.c.cp, .int .i64 m.c.idle, .int .i64 m.c.sl, m.pv, m.sv] 109) ∈ modH m := mem_h
theorem mo_pv (hw : LW κ S w0 H w) {m : MoH} (hm : ∀ r ∈ modH m, r ∈ H) : w.cell? ⟨m.b, 5, none⟩ = some m.pv := hw.cell (hm _ mo_pt) rfl
theorem mo_sv (hw : LW κ S w0 H w) {m : MoH} (hm : ∀ r ∈ modH m, r ∈ H) : w.cell? ⟨m.b, 6, none⟩ = some m.sv := hw.cell (hm _ mo_pt) rfl
theorem mo_rp (hw : LW κ S w0 H w) {m : MoH} (hm : ∀ r ∈ modH m, r ∈ H) : Rd1 w m.pv m.pool.length (m.pool.flatMap encB) := Own.rd (hw.hold _ (hm _ (mem_t mem_h)))
theorem mo_rs (hw : LW κ S w0 H w) {m : MoH} (hm : ∀ r ∈ modH m, r ∈ H) : Rd1 w m.sv m.ts.length (m.ts.flatMap encSh) := Own.rd (hw.hold _ (hm _ (mem_t (mem_t mem_h))))
/-- a copy of a shard's table -/
theorem T_table {m : MoH} {i : Int} {c : CfgV} (hi : Inv c m.st) (hp : Part (modH m) H Hk) (hK : ∀ r, TW false S w0 (ownE r (tableV m.ts i) :: (modH m ++ Hk)) (K r)) : TW false S w0 H (cal PR NoX 25 [.pointer (some ⟨m.b, 0, none⟩), .int .i64 i] K) := by
  have hb := cfg_bounds hi.ok
  have hsh := hi.sh
  have hl : m.st.tabs.length = m.ts.length := by simp [MoH.st]
  refine TW.perm ?_ hp.perm
  refine T_cn ent_model_Model_Table (fun w' hw' => mTable_ok w' m.b m.sv m.ts i (by omega) (mo_sv hw' fun r hr => List.mem_append_left _ hr) (mo_rs hw' fun r hr => List.mem_append_left _ hr) (mo_tab hw' fun r hr => List.mem_append_left _ hr)
    fun t ht => by rw [(hi.tabs t ht).len]; omega) ?_
  intro r v hv
  subst hv
  exact hK _
theorem T_pool {m : MoH} {c : CfgV} (hi : Inv c m.st) (hp : Part (modH m) H Hk) (hK : ∀ r, TW false S w0 (.own 103 2 r m.pool.length (m.pool.flatMap encB) :: (modH m ++ Hk)) (K r)) : TW false S w0 H (cal PR NoX 23 [.pointer (some ⟨m.b, 0, none⟩)] K) := by
  refine TW.perm ?_ hp.perm
  refine T_cn ent_model_Model_Pool (fun w' hw' => mPool_ok w' m.b m.pv m.pool (by have := hi.ok2.pool; omega) (mo_pv hw' fun r hr => List.mem_append_left _ hr) (mo_rp hw' fun r hr => List.mem_append_left _ hr)) ?_
  intro r v hv
  subst hv
  exact hK _
theorem T_new {c : CfgV} (h0 : cfgOk c = false → TW false S w0 H (K (.tuple #[.pointer none, .int .i64 1])))
    (h1 : ∀ m : MoH, cfgOk c = true → m.st = ⟨c, [], newTs c⟩ → Inv c m.st → TW false S w0 (modH m ++ H) (K (.tuple #[.pointer (some ⟨m.b, 0, none⟩), .int .i64 0]))) : TW false S w0 H (cal PR NoX 16 [c.val] K) := by
  refine T_cn ent_model_New (fun w' _ => mNew_ok w' c) ?_
  rintro m u hm
  cases hc : cfgOk c with
  | false =>
    simp only [hc, Bool.false_eq_true, if_false] at hm ⊢
    subst hm
    exact h0 hc
  | true =>
    simp only [hc, if_true] at hm ⊢
    obtain ⟨rfl, hmc, hmp, hmt⟩ := hm
    have e : m.st = ⟨c, [], newTs c⟩ := by unfold MoH.st; rw [hmc, hmp, hmt]
    exact h1 m hc e (by rw [e]; exact Inv.new hc)
end
end Go.Proofs.YtggakcpabomliaaGreat
namespace Go.Proofs.YtggakcpabomliaaGreat
open Go
theorem works17_ok (w : World) : Fn PR NoX 14 #[] w (fun v w' => v = .bool true ∧ But [] w w') := by
  refine Fn.pure (mk_gangplanklaw17_works (TW.go (κ := false) (S := []) ?_))
  unfold sh_gangplanklaw17_works
  (have hQq := trivial; repeat ((first | clear hQq | (with_reducible first | refine T_drw ?_ | refine T_bx fun _ => ?_ | refine s_al fun _ => ?_ | refine s_bs0 fun _ => ?_ | refine s_bs1 (hK := fun _ => ?_) | refine s_bs2 (hK := fun _ => ?_) | refine s_bs3 (hK := fun _ => ?_) | refine s_bs5 (hK := fun _ => ?_) | refine s_bs6 (hK := fun _ => ?_))); (try simp (disch := first | omega | assumption | ((repeat (first | exact mem_h | exact Up.here | apply mem_t | apply Up.there)); first | done | fail) | (simp; first | done | omega | fail)) [])))
  rename_i bc
  refine T_new (c := wkC) (fun h => by rw [wk_cfg] at h; cases h) fun m _ hst hi => ?_
  (have hQq := trivial; repeat ((first | clear hQq | (with_reducible first | refine T_drw ?_ | refine T_bx fun _ => ?_ | refine s_al fun _ => ?_ | refine s_bs0 fun _ => ?_ | refine s_bs1 (hK := fun _ => ?_) | refine s_bs2 (hK := fun _ => ?_) | refine s_bs3 (hK := fun _ => ?_) | refine s_bs5 (hK := fun _ => ?_) | refine s_bs6 (hK := fun _ => ?_))); (try simp (disch := first | omega | assumption | ((repeat (first | exact mem_h | exact Up.here | apply mem_t | apply Up.there)); first | done | fail) | (simp; first | done | omega | fail)) [])))
  refine T_new (c := ⟨0, 0, 0, 0, 0⟩) (fun _ => ?_) (fun _ h => by rw [wk_cfg0] at h; cases h)
  (have hQq := trivial; repeat ((first | clear hQq | (with_reducible first | refine T_drw ?_ | refine T_bx fun _ => ?_ | refine s_al fun _ => ?_ | refine s_bs0 fun _ => ?_ | refine s_bs1 (hK := fun _ => ?_) | refine s_bs2 (hK := fun _ => ?_) | refine s_bs3 (hK := fun _ => ?_) | refine s_bs5 (hK := fun _ => ?_) | refine s_bs6 (hK := fun _ => ?_))); (try simp (disch := first | omega | assumption | ((repeat (first | exact mem_h | exact Up.here | apply mem_t | apply Up.there)); first | done | fail) | (simp; first | done | omega | fail)) [])))
  refine T_cv ent_packet_Put (fun w' _ => packetPut_ok w' wkK 0) ?_
  rw [wk_put]
  (have hQq := trivial; repeat ((first | clear hQq | (with_reducible first | refine T_drw ?_ | refine T_bx fun _ => ?_ | refine s_al fun _ => ?_ | refine s_bs0 fun _ => ?_ | refine s_bs1 (hK := fun _ => ?_) | refine s_bs2 (hK := fun _ => ?_) | refine s_bs3 (hK := fun _ => ?_) | refine s_bs5 (hK := fun _ => ?_) | refine s_bs6 (hK := fun _ => ?_))); (try simp (disch := first | omega | assumption | ((repeat (first | exact mem_h | exact Up.here | apply mem_t | apply Up.there)); first | done | fail) | (simp; first | done | omega | fail)) [])))
  refine T_do (o := ⟨0, (packetP wkK 0).1, [], 0⟩) (wk0, ⟨11, 0, false, 0⟩) hi (by ((repeat (first | exact part_pre | apply Part.skip)); first | done | fail)) (fun _ _ => poolAt_nil) wk_size (by rw [hst, do_disp _ _ _ rfl]; exact wk_a) fun m1 hb1 hst1 hi1 => ?_
  rw [← hb1]
  clear hst hi hb1
  (have hQq := trivial; repeat ((first | clear hQq | (with_reducible first | refine T_drw ?_ | refine T_bx fun _ => ?_ | refine s_al fun _ => ?_ | refine s_bs0 fun _ => ?_ | refine s_bs1 (hK := fun _ => ?_) | refine s_bs2 (hK := fun _ => ?_) | refine s_bs3 (hK := fun _ => ?_) | refine s_bs5 (hK := fun _ => ?_) | refine s_bs6 (hK := fun _ => ?_))); (try simp (disch := first | omega | assumption | ((repeat (first | exact mem_h | exact Up.here | apply mem_t | apply Up.there)); first | done | fail) | (simp; first | done | omega | fail)) [AnsV.val])))
  refine T_do (o := ⟨1, noB, [(7, 1)], 0⟩) (wk1, ⟨0, 0, false, 0⟩) hi1 (by ((repeat (first | exact part_pre | apply Part.skip)); first | done | fail)) (fun _ h => poolAt_own (p := [(7, 1)]) h mem_h (by decide)) (by simp) (by rw [hst1, do_upd _ _ _ rfl]; exact wk_b) fun m2 hb2 hst2 hi2 => ?_
  rw [← hb2]
  clear hst1 hi1 hb2
  (have hQq := trivial; repeat ((first | clear hQq | (with_reducible first | refine T_drw ?_ | refine T_bx fun _ => ?_ | refine s_al fun _ => ?_ | refine s_bs0 fun _ => ?_ | refine s_bs1 (hK := fun _ => ?_) | refine s_bs2 (hK := fun _ => ?_) | refine s_bs3 (hK := fun _ => ?_) | refine s_bs5 (hK := fun _ => ?_) | refine s_bs6 (hK := fun _ => ?_))); (try simp (disch := first | omega | assumption | ((repeat (first | exact mem_h | exact Up.here | apply mem_t | apply Up.there)); first | done | fail) | (simp; first | done | omega | fail)) [AnsV.val])))
  refine T_do (o := ⟨0, (packetP wkK 0).1, [], 0⟩) (wk2 0, ⟨0, 7, true, 0⟩) hi2 (by ((repeat (first | exact part_pre | apply Part.skip)); first | done | fail)) (fun _ _ => poolAt_nil) wk_size (by rw [hst2, do_disp _ _ _ rfl]; exact wk_d) fun m1 hb1 hst1 hi1 => ?_
  rw [← hb1]
  clear hst2 hi2 hb1
  (have hQq := trivial; repeat ((first | clear hQq | (with_reducible first | refine T_drw ?_ | refine T_bx fun _ => ?_ | refine s_al fun _ => ?_ | refine s_bs0 fun _ => ?_ | refine s_bs1 (hK := fun _ => ?_) | refine s_bs2 (hK := fun _ => ?_) | refine s_bs3 (hK := fun _ => ?_) | refine s_bs5 (hK := fun _ => ?_) | refine s_bs6 (hK := fun _ => ?_))); (try simp (disch := first | omega | assumption | ((repeat (first | exact mem_h | exact Up.here | apply mem_t | apply Up.there)); first | done | fail) | (simp; first | done | omega | fail)) [AnsV.val])))
  refine T_do (o := ⟨0, (packetP wkK 0).1, [], 0⟩) (wk2 5, ⟨0, 7, false, 0⟩) hi1 (by ((repeat (first | exact part_pre | apply Part.skip)); first | done | fail)) (fun _ _ => poolAt_nil) wk_size (by rw [hst1, do_disp _ _ _ rfl]; exact wk_g) fun m2 hb2 hst2 hi2 => ?_
  rw [← hb2]
  clear hst1 hi1 hb2
  (have hQq := trivial; repeat ((first | clear hQq | (with_reducible first | refine T_drw ?_ | refine T_bx fun _ => ?_ | refine s_al fun _ => ?_ | refine s_bs0 fun _ => ?_ | refine s_bs1 (hK := fun _ => ?_) | refine s_bs2 (hK := fun _ => ?_) | refine s_bs3 (hK := fun _ => ?_) | refine s_bs5 (hK := fun _ => ?_) | refine s_bs6 (hK := fun _ => ?_))); (try simp (disch := first | omega | assumption | ((repeat (first | exact mem_h | exact Up.here | apply mem_t | apply Up.there)); first | done | fail) | (simp; first | done | omega | fail)) [AnsV.val])))
  refine T_do (o := ⟨0, (packetP wkK 0).1, [], 0⟩) (wk2 11, ⟨0, 7, true, 0⟩) hi2 (by ((repeat (first | exact part_pre | apply Part.skip)); first | done | fail)) (fun _ _ => poolAt_nil) wk_size (by rw [hst2, do_disp _ _ _ rfl]; exact wk_h) fun m1 hb1 hst1 hi1 => ?_
  rw [← hb1]
  clear hst2 hi2 hb1
  (have hQq := trivial; repeat ((first | clear hQq | (with_reducible first | refine T_drw ?_ | refine T_bx fun _ => ?_ | refine s_al fun _ => ?_ | refine s_bs0 fun _ => ?_ | refine s_bs1 (hK := fun _ => ?_) | refine s_bs2 (hK := fun _ => ?_) | refine s_bs3 (hK := fun _ => ?_) | refine s_bs5 (hK := fun _ => ?_) | refine s_bs6 (hK := fun _ => ?_))); (try simp (disch := first | omega | assumption | ((repeat (first | exact mem_h | exact Up.here | apply mem_t | apply Up.there)); first | done | fail) | (simp; first | done | omega | fail)) [AnsV.val])))
  refine T_do (o := ⟨3, noB, [], 0⟩) (wk2 11, ⟨0, 0, false, 1⟩) hi1 (by ((repeat (first | exact part_pre | apply Part.skip)); first | done | fail)) (fun _ _ => poolAt_nil) (by simp) (by rw [hst1, do_stat _ _ _ rfl]; exact wk_i) fun m2 hb2 hst2 hi2 => ?_
  rw [← hb2]
  clear hst1 hi1 hb2
  simp only [modH, List.cons_append, List.nil_append]
  (have hQq := trivial; repeat ((first | clear hQq | (with_reducible first | refine T_drw ?_ | refine T_bx fun _ => ?_ | refine s_al fun _ => ?_ | refine s_bs0 fun _ => ?_ | refine s_bs1 (hK := fun _ => ?_) | refine s_bs2 (hK := fun _ => ?_) | refine s_bs3 (hK := fun _ => ?_) | refine s_bs5 (hK := fun _ => ?_) | refine s_bs6 (hK := fun _ => ?_))); (try simp (disch := first | omega | assumption | ((repeat (first | exact mem_h | exact Up.here | apply mem_t | apply Up.there)); first | done | fail) | (simp; first | done | omega | fail)) [AnsV.val])))
  refine T_pool hi2 (by simp only [modH]; ((repeat (first | exact Part.nil | (apply Part.cons; · ((repeat (first | exact mem_h | exact Up.here | exact Sel.here | apply mem_t | apply Up.there | apply Sel.there)); first | done | fail)))); first | done | fail)) fun r => ?_
  obtain ⟨hp2, va, hts⟩ : m2.pool = [(7, 1)] ∧ ∃ a, m2.ts = [((a, [wkE 11]), 0)] := by
    have := hst2; unfold MoH.st wk2 at this; simp at this; exact this.2
  have e0 : tableV m2.ts 0 = [wkE 11] := by simp [tableV, hts]
  have e1 : tableV m2.ts 1 = [] := by simp [tableV, hts]
  rw [hp2]
  simp only [modH, List.cons_append, List.nil_append]
  refine T_opn (by ((repeat (first | exact mem_h | exact Up.here | exact Sel.here | apply mem_t | apply Up.there | apply Sel.there)); first | done | fail)) fun ra rc hr => ?_
  subst hr
  (have hQq := trivial; repeat ((first | clear hQq | (with_reducible first | refine T_drw ?_ | refine T_bx fun _ => ?_ | refine s_al fun _ => ?_ | refine s_bs0 fun _ => ?_ | refine s_bs1 (hK := fun _ => ?_) | refine s_bs2 (hK := fun _ => ?_) | refine s_bs3 (hK := fun _ => ?_) | refine s_bs5 (hK := fun _ => ?_) | refine s_bs6 (hK := fun _ => ?_))); (try simp (disch := first | omega | assumption | ((repeat (first | exact mem_h | exact Up.here | apply mem_t | apply Up.there)); first | done | fail) | (simp; first | done | omega | fail)) [])))
  refine T_table hi2 (by simp only [modH]; ((repeat (first | exact Part.nil | (apply Part.cons; · ((repeat (first | exact mem_h | exact Up.here | exact Sel.here | apply mem_t | apply Up.there | apply Sel.there)); first | done | fail)))); first | done | fail)) fun r => ?_
  rw [e0]
  simp only [modH, List.cons_append, List.nil_append]
  refine T_opn (by ((repeat (first | exact mem_h | exact Up.here | exact Sel.here | apply mem_t | apply Up.there | apply Sel.there)); first | done | fail)) fun ra rc hr => ?_
  subst hr
  (have hQq := trivial; repeat ((first | clear hQq | (with_reducible first | refine T_drw ?_ | refine T_bx fun _ => ?_ | refine s_al fun _ => ?_ | refine s_bs0 fun _ => ?_ | refine s_bs1 (hK := fun _ => ?_) | refine s_bs2 (hK := fun _ => ?_) | refine s_bs3 (hK := fun _ => ?_) | refine s_bs5 (hK := fun _ => ?_) | refine s_bs6 (hK := fun _ => ?_))); (try simp (disch := first | omega | assumption | ((repeat (first | exact mem_h | exact Up.here | apply mem_t | apply Up.there)); first | done | fail) | (simp; first | done | omega | fail)) [])))
  refine T_table hi2 (by simp only [modH]; ((repeat (first | exact Part.nil | (apply Part.cons; · ((repeat (first | exact mem_h | exact Up.here | exact Sel.here | apply mem_t | apply Up.there | apply Sel.there)); first | done | fail)))); first | done | fail)) fun r => ?_
  rw [e1]
  simp only [modH, List.cons_append, List.nil_append]
  refine T_opn (by ((repeat (first | exact mem_h | exact Up.here | exact Sel.here | apply mem_t | apply Up.there | apply Sel.there)); first | done | fail)) fun ra rc hr => ?_
  subst hr
  (have hQq := trivial; repeat ((first | clear hQq | (with_reducible first | refine T_drw ?_ | refine T_bx fun _ => ?_ | refine s_al fun _ => ?_ | refine s_bs0 fun _ => ?_ | refine s_bs1 (hK := fun _ => ?_) | refine s_bs2 (hK := fun _ => ?_) | refine s_bs3 (hK := fun _ => ?_) | refine s_bs5 (hK := fun _ => ?_) | refine s_bs6 (hK := fun _ => ?_))); (try simp (disch := first | omega | assumption | ((repeat (first | exact mem_h | exact Up.here | apply mem_t | apply Up.there)); first | done | fail) | (simp; first | done | omega | fail)) [])))
  refine T_do (o := ⟨0, noB, [], 0⟩) (wk2 11, ⟨9, 0, false, 0⟩) hi2 (by simp only [modH]; ((repeat (first | exact Part.nil | (apply Part.cons; · ((repeat (first | exact mem_h | exact Up.here | exact Sel.here | apply mem_t | apply Up.there | apply Sel.there)); first | done | fail)))); first | done | fail)) (fun _ _ => poolAt_nil) (by simp) (by rw [hst2, do_disp _ _ _ rfl]; unfold dispV; rw [wk_j]; rfl) fun m1 hb1 hst1 hi1 => ?_
  rw [← hb1]
  (have hQq := trivial; repeat ((first | clear hQq | (with_reducible first | refine T_drw ?_ | refine T_bx fun _ => ?_ | refine s_al fun _ => ?_ | refine s_bs0 fun _ => ?_ | refine s_bs1 (hK := fun _ => ?_) | refine s_bs2 (hK := fun _ => ?_) | refine s_bs3 (hK := fun _ => ?_) | refine s_bs5 (hK := fun _ => ?_) | refine s_bs6 (hK := fun _ => ?_))); (try simp (disch := first | omega | assumption | ((repeat (first | exact mem_h | exact Up.here | apply mem_t | apply Up.there)); first | done | fail) | (simp; first | done | omega | fail)) [AnsV.val])))
  refine T_do (o := ⟨9, noB, [], 0⟩) (wk2 11, ⟨1, 0, false, 0⟩) hi1 (by ((repeat (first | exact part_pre | apply Part.skip)); first | done | fail)) (fun _ _ => poolAt_nil) (by simp) (by rw [hst1, do_none _ _ _ (Or.inr (by decide))]) fun m2 hb2 hst2 hi2 => ?_
  (have hQq := trivial; repeat ((first | clear hQq | (with_reducible first | refine T_drw ?_ | refine T_bx fun _ => ?_ | refine s_al fun _ => ?_ | refine s_bs0 fun _ => ?_ | refine s_bs1 (hK := fun _ => ?_) | refine s_bs2 (hK := fun _ => ?_) | refine s_bs3 (hK := fun _ => ?_) | refine s_bs5 (hK := fun _ => ?_) | refine s_bs6 (hK := fun _ => ?_))); (try simp (disch := first | omega | assumption | ((repeat (first | exact mem_h | exact Up.here | apply mem_t | apply Up.there)); first | done | fail) | (simp; first | done | omega | fail)) [AnsV.val])))
  exact T_ret rfl
end Go.Proofs.YtggakcpabomliaaGreat
namespace Go.Proofs.YtggakcpabomliaaGreat
open Go
def sh_gangplankref08_Find (X : Nat → Prop) (t0 t1 : Value) (R : Value → WP) : WP :=
  jn (n := 2) (fun t4 t5 =>
  R (.int .i64 (-1))) fun J1 =>
  lp (n := 2) (fun L2 t4_1 t5_1 =>
  jn (n := 0) (
  jn (n := 1) (fun t4_2 =>
  pur PR (binOp .add 3 t5_1 (.int .i64 1)) fun t11 =>
  L2 t4_2 t11) fun J3 =>
  pur PR (Instr.indexAt 32 t0 t5_1) fun t14 =>
  pur PR (Instr.fieldAt 103 t14 0) fun t15 =>
  rds PR (Instr.loadAt 3 t15) fun t16 =>
  pur PR (binOp .eql 3 t16 t1) fun t18 =>
  cnd t18 (
  R t5_1) (
  J3 t4_1)) fun J4 =>
  pur PR (builtinS .len #[32] 0 [t0]) fun t8 =>
  pur PR (binOp .lss 3 t5_1 t8) fun t9 =>
  cnd t9 (
  J4) (
  J1 t4_1 t5_1)) (.int .i64 0) (.int .i64 0)
theorem sh_gangplankref08_Find_eq (X : Nat → Prop) (t0 t1 : Value) (R : Value → WP) : vcFun PR X Tryz.f76 [t0, t1] R = sh_gangplankref08_Find X t0 t1 R := by kernel_rfl
theorem ent_gangplankref08_Find : Enters PR 76 := enters_of Tryz.func76 (by kernel_rfl) rfl
theorem mk_gangplankref08_Find {X : Nat → Prop} {t0 t1 : Value} {R : Value → WP} {w : World} (h : sh_gangplankref08_Find X t0 t1 R w) : Fn PR X 76 #[t0, t1] w R := fn_of_vc (args := [t0, t1]) mixed Tryz.func76 (by rw [sh_gangplankref08_Find_eq]; exact h)
end Go.Proofs.YtggakcpabomliaaGreat
namespace Go.Proofs.YtggakcpabomliaaGreat
open Go
def sh_gangplankref17_Decide (X : Nat → Prop) (t0 t1 t2 t3 t4 t5 : Value) (R : Value → WP) : WP :=
  lou PR X (Instr.alloc 39 true (.tuple #[])) fun t13 =>
  cal PR X 75 [t0, t2] fun t23 =>
  pur PR (binOp .geq 3 t23 (.int .i64 0)) fun t25 =>
  gj t25 true (fun J => J t0) fun t27 =>
  gj t25 true (fun J => J t23) fun t28 =>
  gj t25 true (fun J => pur PR (builtinS .max #[3, 3] 0 [t28, (.int .i64 0)]) J) fun t29 =>
  gj t25 true (fun J => pur PR (Instr.indexAt 50 t27 t29) J) fun t30 =>
  gj t25 true (fun J => pur PR (Instr.fieldAt 71 t30 3) J) fun t31 =>
  gj t25 true (fun J => rds PR (Instr.loadAt 3 t31) J) fun t32 =>
  gj t25 true (fun J => J t4) fun t33 =>
  gj t25 true (fun J => pur PR (binOp .geq 3 t32 t33) J) fun t34 =>
  pur PR (do pure (if ← asBool t25 then t34 else (.bool false))) fun t35 =>
  gj t35 true (fun J => J t1) fun t37 =>
  gj t35 true (fun J => J t0) fun t38 =>
  gj t35 true (fun J => J t23) fun t39 =>
  gj t35 true (fun J => pur PR (builtinS .max #[3, 3] 0 [t39, (.int .i64 0)]) J) fun t40 =>
  gj t35 true (fun J => pur PR (Instr.indexAt 50 t38 t40) J) fun t41 =>
  gj t35 true (fun J => pur PR (Instr.fieldAt 71 t41 2) J) fun t42 =>
  gj t35 true (fun J => rds PR (Instr.loadAt 3 t42) J) fun t43 =>
  gj t35 true (fun J => cal PR X 76 [t37, t43] J) fun t44 =>
  gj t35 true (fun J => pur PR (binOp .geq 3 t44 (.int .i64 0)) J) fun t45 =>
  pur PR (do pure (if ← asBool t35 then t45 else (.bool false))) fun t46 =>
  cal PR X 78 [t2] fun t49 =>
  cal PR X 77 [t1, t49] fun t50 =>
  jn (n := 2) (fun t16 t12 =>
  jn (n := 1) (fun t12_1 =>
  pur PR (binOp .add 3 t4 t5) fun t78 =>
  cal PR X 80 [t0, t2, t16, t78] fun t79 =>
  pur PR (Instr.extract t79 0) fun t80 =>
  pur PR (Instr.extract t79 1) fun t81 =>
  jn (n := 1) (fun t12_2 =>
  pur PR (Op.unary .not t46) fun t90 =>
  pur PR (Instr.build 39 #[(1, t16), (2, t90)]) fun t91 =>
  sto PR X (Instr.storeAt 39 t13 t91) <|
  rds PR (finS [.v t80, .c 39 t13]) R) fun J1 =>
  pur PR (binOp .neq 28 t81 (.int .i64 0)) fun t83 =>
  cnd t83 (
  pur PR (Instr.build 39 #[(0, t81)]) fun t86 =>
  sto PR X (Instr.storeAt 39 t13 t86) <|
  rds PR (finS [.v t0, .c 39 t13]) R) (
  J1 t12_1)) fun J2 =>
  cnd t3 (
  cal PR X 79 [t0, t2] fun t66 =>
  pur PR (Instr.extract t66 0) fun t67 =>
  pur PR (Instr.extract t66 1) fun t68 =>
  pur PR (Instr.build 39 #[(1, t16)]) fun t71 =>
  sto PR X (Instr.storeAt 39 t13 t71) <|
  rds PR (finS [.v t67, .c 39 t13]) R) (
  J2 t12)) fun J3 =>
  cnd t46 (
  pur PR (Instr.indexAt 50 t0 t23) fun t54 =>
  pur PR (Instr.fieldAt 71 t54 2) fun t55 =>
  rds PR (Instr.loadAt 3 t55) fun t56 =>
  J3 t56 (.slice none 0 0)) (
  pur PR (builtinS .len #[32] 0 [t1]) fun t58 =>
  pur PR (binOp .eql 3 t58 (.int .i64 0)) fun t59 =>
  cnd t59 (
  pur PR (Instr.build 39 #[(0, (.int .i64 11))]) fun t61 =>
  sto PR X (Instr.storeAt 39 t13 t61) <|
  rds PR (finS [.v t0, .c 39 t13]) R) (
  J3 t50 (.slice none 0 0)))
theorem sh_gangplankref17_Decide_eq (X : Nat → Prop) (t0 t1 t2 t3 t4 t5 : Value) (R : Value → WP) : vcFun PR X Tryz.f28 [t0, t1, t2, t3, t4, t5] R = sh_gangplankref17_Decide X t0 t1 t2 t3 t4 t5 R := by kernel_rfl
theorem ent_gangplankref17_Decide : Enters PR 28 := enters_of Tryz.func28 (by kernel_rfl) rfl
theorem mk_gangplankref17_Decide {X : Nat → Prop} {t0 t1 t2 t3 t4 t5 : Value} {R : Value → WP} {w : World} (h : sh_gangplankref17_Decide X t0 t1 t2 t3 t4 t5 R w) : Fn PR X 28 #[t0, t1, t2, t3, t4, t5] w R := fn_of_vc (args := [t0, t1, t2, t3, t4, t5]) mixed Tryz.func28 (by rw [sh_gangplankref17_Decide_eq]; exact h)
def sh_gangplankref17_Shard (X : Nat → Prop) (t0 t1 : Value) (R : Value → WP) : WP :=
  jn (n := 1) (fun t4 =>
  cal PR X 78 [t0] fun t8 =>
  pur PR (binOp .quo 68 t8 (.int .u64 4294967296)) fun t9 =>
  pur PR (convert 3 68 t1) fun t11 =>
  pur PR (binOp .rem 68 t9 t11) fun t12 =>
  pur PR (convert 68 3 t12) fun t13 =>
  R t13) fun J1 =>
  pur PR (binOp .lss 3 t1 (.int .i64 1)) fun t6 =>
  cnd t6 (
  R (.int .i64 0)) (
  J1 (.int .i64 0))
theorem sh_gangplankref17_Shard_eq (X : Nat → Prop) (t0 t1 : Value) (R : Value → WP) : vcFun PR X Tryz.f30 [t0, t1] R = sh_gangplankref17_Shard X t0 t1 R := by kernel_rfl
theorem ent_gangplankref17_Shard : Enters PR 30 := enters_of Tryz.func30 (by kernel_rfl) rfl
theorem mk_gangplankref17_Shard {X : Nat → Prop} {t0 t1 : Value} {R : Value → WP} {w : World} (h : sh_gangplankref17_Shard X t0 t1 R w) : Fn PR X 30 #[t0, t1] w R := fn_of_vc (args := [t0, t1]) mixed Tryz.func30 (by rw [sh_gangplankref17_Shard_eq]; exact h)
end Go.Proofs.YtggakcpabomliaaGreat
namespace Go.Proofs.YtggakcpabomliaaGreat
open Go
def sh_gangplankref12_New (X : Nat → Prop) (t0 : Value) (R : Value → WP) : WP :=
  pur PR (builtinS .min #[3, 3] 0 [t0, (.int .i64 64)]) fun t4 =>
  pur PR (builtinS .max #[3, 3] 0 [(.int .i64 0), t4]) fun t5 =>
  lou PR X (Instr.makeSlice 50 t5 t5) fun t6 =>
  R t6
theorem sh_gangplankref12_New_eq (X : Nat → Prop) (t0 : Value) (R : Value → WP) : vcFun PR X Tryz.f60 [t0] R = sh_gangplankref12_New X t0 R := by kernel_rfl
theorem ent_gangplankref12_New : Enters PR 60 := enters_of Tryz.func60 (by kernel_rfl) rfl
theorem mk_gangplankref12_New {X : Nat → Prop} {t0 : Value} {R : Value → WP} {w : World} (h : sh_gangplankref12_New X t0 R w) : Fn PR X 60 #[t0] w R := fn_of_vc (args := [t0]) mixed Tryz.func60 (by rw [sh_gangplankref12_New_eq]; exact h)
def sh_gangplankref12_Delete (X : Nat → Prop) (t0 t1 : Value) (R : Value → WP) : WP :=
  cal PR X 75 [t0, t1] fun t9 =>
  jn (n := 2) (fun t4 t5 =>
  cal PR X 112 [t0, t9] fun t15 =>
  cal PR X 113 [t15] fun t16 =>
  R (.tuple #[t16, (.bool true)])) fun J1 =>
  pur PR (binOp .lss 3 t9 (.int .i64 0)) fun t11 =>
  cnd t11 (
  R (.tuple #[t0, (.bool false)])) (
  J1 (.slice none 0 0) (.bool false))
theorem sh_gangplankref12_Delete_eq (X : Nat → Prop) (t0 t1 : Value) (R : Value → WP) : vcFun PR X Tryz.f79 [t0, t1] R = sh_gangplankref12_Delete X t0 t1 R := by kernel_rfl
theorem ent_gangplankref12_Delete : Enters PR 79 := enters_of Tryz.func79 (by kernel_rfl) rfl
theorem mk_gangplankref12_Delete {X : Nat → Prop} {t0 t1 : Value} {R : Value → WP} {w : World} (h : sh_gangplankref12_Delete X t0 t1 R w) : Fn PR X 79 #[t0, t1] w R := fn_of_vc (args := [t0, t1]) mixed Tryz.func79 (by rw [sh_gangplankref12_Delete_eq]; exact h)
def sh_gangplankref12_Put (X : Nat → Prop) (t0 t1 t2 t3 : Value) (R : Value → WP) : WP :=
  cal PR X 75 [t0, t1] fun t13 =>
  jn (n := 1) (fun t10 =>
  jn (n := 2) (fun t8 t9 =>
  pur PR (Instr.build 71 #[(0, (.int .i64 1)), (1, t1), (2, t2), (3, t3)]) fun t27 =>
  cal PR X 125 [t0, t10, t27] fun t28 =>
  R (.tuple #[t28, (.int .i64 0)])) fun J1 =>
  pur PR (binOp .lss 3 t10 (.int .i64 0)) fun t20 =>
  cnd t20 (
  R (.tuple #[t0, (.int .i64 12)])) (
  J1 (.slice none 0 0) (.int .i64 0))) fun J2 =>
  pur PR (binOp .lss 3 t13 (.int .i64 0)) fun t15 =>
  cnd t15 (
  cal PR X 124 [t0, t1] fun t18 =>
  J2 t18) (
  J2 t13)
theorem sh_gangplankref12_Put_eq (X : Nat → Prop) (t0 t1 t2 t3 : Value) (R : Value → WP) : vcFun PR X Tryz.f80 [t0, t1, t2, t3] R = sh_gangplankref12_Put X t0 t1 t2 t3 R := by kernel_rfl
theorem ent_gangplankref12_Put : Enters PR 80 := enters_of Tryz.func80 (by kernel_rfl) rfl
theorem mk_gangplankref12_Put {X : Nat → Prop} {t0 t1 t2 t3 : Value} {R : Value → WP} {w : World} (h : sh_gangplankref12_Put X t0 t1 t2 t3 R w) : Fn PR X 80 #[t0, t1, t2, t3] w R := fn_of_vc (args := [t0, t1, t2, t3]) mixed Tryz.func80 (by rw [sh_gangplankref12_Put_eq]; exact h)
def sh_gangplankref12_Bury (X : Nat → Prop) (t0 t1 : Value) (R : Value → WP) : WP :=
  pur PR (Instr.build 71 #[(0, (.int .i64 2))]) fun t7 =>
  cal PR X 125 [t0, t1, t7] fun t8 =>
  R t8
theorem sh_gangplankref12_Bury_eq (X : Nat → Prop) (t0 t1 : Value) (R : Value → WP) : vcFun PR X Tryz.f112 [t0, t1] R = sh_gangplankref12_Bury X t0 t1 R := by kernel_rfl
theorem ent_gangplankref12_Bury : Enters PR 112 := enters_of Tryz.func112 (by kernel_rfl) rfl
theorem mk_gangplankref12_Bury {X : Nat → Prop} {t0 t1 : Value} {R : Value → WP} {w : World} (h : sh_gangplankref12_Bury X t0 t1 R w) : Fn PR X 112 #[t0, t1] w R := fn_of_vc (args := [t0, t1]) mixed Tryz.func112 (by rw [sh_gangplankref12_Bury_eq]; exact h)
def sh_gangplankref12_Settle (X : Nat → Prop) (t0 : Value) (R : Value → WP) : WP :=
  jn (n := 1) (fun t2 =>
  R t0) fun J1 =>
  cal PR X 69 [t0, (.int .i64 2)] fun t4 =>
  pur PR (binOp .mul 3 (.int .i64 2) t4) fun t5 =>
  pur PR (builtinS .len #[50] 0 [t0]) fun t7 =>
  pur PR (binOp .gtr 3 t5 t7) fun t8 =>
  cnd t8 (
  cal PR X 161 [t0] fun t10 =>
  R t10) (
  J1 (.slice none 0 0))
theorem sh_gangplankref12_Settle_eq (X : Nat → Prop) (t0 : Value) (R : Value → WP) : vcFun PR X Tryz.f113 [t0] R = sh_gangplankref12_Settle X t0 R := by kernel_rfl
theorem ent_gangplankref12_Settle : Enters PR 113 := enters_of Tryz.func113 (by kernel_rfl) rfl
theorem mk_gangplankref12_Settle {X : Nat → Prop} {t0 : Value} {R : Value → WP} {w : World} (h : sh_gangplankref12_Settle X t0 R w) : Fn PR X 113 #[t0] w R := fn_of_vc (args := [t0]) mixed Tryz.func113 (by rw [sh_gangplankref12_Settle_eq]; exact h)
def sh_gangplankref12_with (X : Nat → Prop) (t0 t1 t2 : Value) (R : Value → WP) : WP :=
  lou PR X (Instr.box 71 t2) fun t5 =>
  jn (n := 2) (fun t7 t8 =>
  R t7) fun J1 =>
  lp (n := 2) (fun L2 t7_1 t8_1 =>
  jn (n := 0) (
  jn (n := 1) (fun t7_2 =>
  pur PR (binOp .add 3 t8_1 (.int .i64 1)) fun t14 =>
  L2 t7_2 t14) fun J3 =>
  pur PR (binOp .eql 3 t8_1 t1) fun t17 =>
  cnd t17 (
  rds PR (Instr.loadAt 71 t5) fun t19 =>
  lou PR X (Instr.buildSlice 50 1 #[(0, t19)]) fun t20 =>
  lou PR X (builtinS .append #[50, 50] 50 [t7_1, t20]) fun t21 =>
  J3 t21) (
  pur PR (Instr.indexAt 50 t0 t8_1) fun t25 =>
  rds PR (Instr.loadAt 71 t25) fun t26 =>
  lou PR X (Instr.buildSlice 50 1 #[(0, t26)]) fun t27 =>
  lou PR X (builtinS .append #[50, 50] 50 [t7_1, t27]) fun t28 =>
  J3 t28)) fun J4 =>
  pur PR (builtinS .len #[50] 0 [t0]) fun t11 =>
  pur PR (binOp .lss 3 t8_1 t11) fun t12 =>
  cnd t12 (
  J4) (
  J1 t7_1 t8_1)) (.slice none 0 0) (.int .i64 0)
theorem sh_gangplankref12_with_eq (X : Nat → Prop) (t0 t1 t2 : Value) (R : Value → WP) : vcFun PR X Tryz.f125 [t0, t1, t2] R = sh_gangplankref12_with X t0 t1 t2 R := by kernel_rfl
theorem ent_gangplankref12_with : Enters PR 125 := enters_of Tryz.func125 (by kernel_rfl) rfl
theorem mk_gangplankref12_with {X : Nat → Prop} {t0 t1 t2 : Value} {R : Value → WP} {w : World} (h : sh_gangplankref12_with X t0 t1 t2 R w) : Fn PR X 125 #[t0, t1, t2] w R := fn_of_vc (args := [t0, t1, t2]) mixed Tryz.func125 (by rw [sh_gangplankref12_with_eq]; exact h)
def sh_gangplankref12_Tidy (X : Nat → Prop) (t0 : Value) (R : Value → WP) : WP :=
  pur PR (builtinS .len #[50] 0 [t0]) fun t8 =>
  cal PR X 60 [t8] fun t9 =>
  jn (n := 2) (fun t3 t4 =>
  R t3) fun J1 =>
  lp (n := 2) (fun L2 t3_1 t4_1 =>
  jn (n := 0) (
  jn (n := 1) (fun t3_2 =>
  pur PR (binOp .add 3 t4_1 (.int .i64 1)) fun t15 =>
  L2 t3_2 t15) fun J3 =>
  pur PR (Instr.indexAt 50 t0 t4_1) fun t18 =>
  pur PR (Instr.fieldAt 71 t18 0) fun t19 =>
  rds PR (Instr.loadAt 3 t19) fun t20 =>
  pur PR (binOp .eql 3 t20 (.int .i64 1)) fun t21 =>
  cnd t21 (
  drw <|
  pur PR (Instr.indexAt 50 t0 t4_1) fun t26 =>
  pur PR (Instr.fieldAt 71 t26 1) fun t27 =>
  rds PR (Instr.loadAt 9 t27) fun t28 =>
  pur PR (Instr.indexAt 50 t0 t4_1) fun t31 =>
  pur PR (Instr.fieldAt 71 t31 2) fun t32 =>
  rds PR (Instr.loadAt 3 t32) fun t33 =>
  pur PR (Instr.indexAt 50 t0 t4_1) fun t36 =>
  pur PR (Instr.fieldAt 71 t36 3) fun t37 =>
  rds PR (Instr.loadAt 3 t37) fun t38 =>
  cal PR X 80 [t3_1, t28, t33, t38] fun t39 =>
  pur PR (Instr.extract t39 0) fun t40 =>
  pur PR (Instr.extract t39 1) fun t41 =>
  J3 t40) (
  J3 t3_1)) fun J4 =>
  pur PR (builtinS .len #[50] 0 [t0]) fun t12 =>
  pur PR (binOp .lss 3 t4_1 t12) fun t13 =>
  cnd t13 (
  J4) (
  J1 t3_1 t4_1)) t9 (.int .i64 0)
theorem sh_gangplankref12_Tidy_eq (X : Nat → Prop) (t0 : Value) (R : Value → WP) : vcFun PR X Tryz.f161 [t0] R = sh_gangplankref12_Tidy X t0 R := by kernel_rfl
theorem ent_gangplankref12_Tidy : Enters PR 161 := enters_of Tryz.func161 (by kernel_rfl) rfl
theorem mk_gangplankref12_Tidy {X : Nat → Prop} {t0 : Value} {R : Value → WP} {w : World} (h : sh_gangplankref12_Tidy X t0 R w) : Fn PR X 161 #[t0] w R := fn_of_vc (args := [t0]) mixed Tryz.func161 (by rw [sh_gangplankref12_Tidy_eq]; exact h)
end Go.Proofs.YtggakcpabomliaaGreat
namespace Go.Proofs.YtggakcpabomliaaGreat
open Go
def sh_gangplankref11_Same (X : Nat → Prop) (t0 t1 : Value) (R : Value → WP) : WP :=
  jn (n := 1) (fun t4 =>
  jn (n := 2) (fun t4_1 t5 =>
  R (.bool true)) fun J1 =>
  lp (n := 2) (fun L2 t4_2 t5_1 =>
  jn (n := 0) (
  jn (n := 1) (fun t4_3 =>
  pur PR (binOp .add 3 t5_1 (.int .i64 1)) fun t16 =>
  L2 t4_3 t16) fun J3 =>
  drw <|
  pur PR (Instr.indexAt 50 t0 t5_1) fun t19 =>
  rds PR (Instr.loadAt 71 t19) fun t20 =>
  pur PR (Instr.indexAt 50 t1 t5_1) fun t23 =>
  rds PR (Instr.loadAt 71 t23) fun t24 =>
  rds PR (eqS .neq 71 (.tmp 20) (.tmp 24) t20 t24) fun t25 =>
  cnd t25 (
  R (.bool false)) (
  J3 t4_2)) fun J4 =>
  pur PR (builtinS .len #[50] 0 [t0]) fun t13 =>
  pur PR (binOp .lss 3 t5_1 t13) fun t14 =>
  cnd t14 (
  J4) (
  J1 t4_2 t5_1)) t4 (.int .i64 0)) fun J5 =>
  pur PR (builtinS .len #[50] 0 [t0]) fun t7 =>
  pur PR (builtinS .len #[50] 0 [t1]) fun t9 =>
  pur PR (binOp .neq 3 t7 t9) fun t10 =>
  cnd t10 (
  R (.bool false)) (
  J5 (.bool false))
theorem sh_gangplankref11_Same_eq (X : Nat → Prop) (t0 t1 : Value) (R : Value → WP) : vcFun PR X Tryz.f24 [t0, t1] R = sh_gangplankref11_Same X t0 t1 R := by kernel_rfl
theorem ent_gangplankref11_Same : Enters PR 24 := enters_of Tryz.func24 (by kernel_rfl) rfl
theorem mk_gangplankref11_Same {X : Nat → Prop} {t0 t1 : Value} {R : Value → WP} {w : World} (h : sh_gangplankref11_Same X t0 t1 R w) : Fn PR X 24 #[t0, t1] w R := fn_of_vc (args := [t0, t1]) mixed Tryz.func24 (by rw [sh_gangplankref11_Same_eq]; exact h)
def sh_gangplankref11_Few (X : Nat → Prop) (t0 : Value) (R : Value → WP) : WP :=
  jn (n := 1) (fun t2 =>
  jn (n := 2) (fun t2_1 t3 =>
  R (.bool true)) fun J1 =>
  lp (n := 2) (fun L2 t2_2 t3_1 =>
  jn (n := 0) (
  jn (n := 1) (fun t2_3 =>
  pur PR (binOp .add 3 t3_1 (.int .i64 1)) fun t12 =>
  L2 t2_3 t12) fun J3 =>
  pur PR (Instr.indexAt 50 t0 t3_1) fun t15 =>
  pur PR (Instr.fieldAt 71 t15 1) fun t16 =>
  rds PR (Instr.loadAt 9 t16) fun t17 =>
  pur PR (builtinS .len #[9] 0 [t17]) fun t18 =>
  pur PR (binOp .gtr 3 t18 (.int .i64 60)) fun t19 =>
  cnd t19 (
  R (.bool false)) (
  J3 t2_2)) fun J4 =>
  pur PR (builtinS .len #[50] 0 [t0]) fun t9 =>
  pur PR (binOp .lss 3 t3_1 t9) fun t10 =>
  cnd t10 (
  J4) (
  J1 t2_2 t3_1)) t2 (.int .i64 0)) fun J5 =>
  pur PR (builtinS .len #[50] 0 [t0]) fun t5 =>
  pur PR (binOp .gtr 3 t5 (.int .i64 80)) fun t6 =>
  cnd t6 (
  R (.bool false)) (
  J5 (.bool false))
theorem sh_gangplankref11_Few_eq (X : Nat → Prop) (t0 : Value) (R : Value → WP) : vcFun PR X Tryz.f26 [t0] R = sh_gangplankref11_Few X t0 R := by kernel_rfl
theorem ent_gangplankref11_Few : Enters PR 26 := enters_of Tryz.func26 (by kernel_rfl) rfl
theorem mk_gangplankref11_Few {X : Nat → Prop} {t0 : Value} {R : Value → WP} {w : World} (h : sh_gangplankref11_Few X t0 R w) : Fn PR X 26 #[t0] w R := fn_of_vc (args := [t0]) mixed Tryz.func26 (by rw [sh_gangplankref11_Few_eq]; exact h)
def sh_gangplankref11_Count (X : Nat → Prop) (t0 t1 : Value) (R : Value → WP) : WP :=
  jn (n := 2) (fun t5 t6 =>
  R t5) fun J1 =>
  lp (n := 2) (fun L2 t5_1 t6_1 =>
  jn (n := 0) (
  jn (n := 1) (fun t5_2 =>
  pur PR (binOp .add 3 t6_1 (.int .i64 1)) fun t12 =>
  L2 t5_2 t12) fun J3 =>
  pur PR (Instr.indexAt 50 t0 t6_1) fun t15 =>
  pur PR (Instr.fieldAt 71 t15 0) fun t16 =>
  rds PR (Instr.loadAt 3 t16) fun t17 =>
  pur PR (binOp .eql 3 t17 t1) fun t19 =>
  cnd t19 (
  pur PR (binOp .add 3 t5_1 (.int .i64 1)) fun t21 =>
  J3 t21) (
  J3 t5_1)) fun J4 =>
  pur PR (builtinS .len #[50] 0 [t0]) fun t9 =>
  pur PR (binOp .lss 3 t6_1 t9) fun t10 =>
  cnd t10 (
  J4) (
  J1 t5_1 t6_1)) (.int .i64 0) (.int .i64 0)
theorem sh_gangplankref11_Count_eq (X : Nat → Prop) (t0 t1 : Value) (R : Value → WP) : vcFun PR X Tryz.f69 [t0, t1] R = sh_gangplankref11_Count X t0 t1 R := by kernel_rfl
theorem ent_gangplankref11_Count : Enters PR 69 := enters_of Tryz.func69 (by kernel_rfl) rfl
theorem mk_gangplankref11_Count {X : Nat → Prop} {t0 t1 : Value} {R : Value → WP} {w : World} (h : sh_gangplankref11_Count X t0 t1 R w) : Fn PR X 69 #[t0, t1] w R := fn_of_vc (args := [t0, t1]) mixed Tryz.func69 (by rw [sh_gangplankref11_Count_eq]; exact h)
def sh_gangplankref11_Find (X : Nat → Prop) (t0 t1 : Value) (R : Value → WP) : WP :=
  pur PR (builtinS .len #[50] 0 [t0]) fun t10 =>
  cal PR X 120 [t1, t10] fun t11 =>
  jn (n := 2) (fun t4 t6 =>
  R (.int .i64 (-1))) fun J1 =>
  lp (n := 2) (fun L2 t4_1 t6_1 =>
  jn (n := 0) (
  jn (n := 1) (fun t4_2 =>
  pur PR (binOp .add 3 t6_1 (.int .i64 1)) fun t17 =>
  L2 t4_2 t17) fun J3 =>
  pur PR (binOp .add 3 t11 t6_1) fun t20 =>
  pur PR (builtinS .len #[50] 0 [t0]) fun t22 =>
  pur PR (binOp .rem 3 t20 t22) fun t23 =>
  jn (n := 1) (fun t4_3 =>
  pur PR (Instr.indexAt 50 t0 t23) fun t32 =>
  pur PR (Instr.fieldAt 71 t32 0) fun t33 =>
  rds PR (Instr.loadAt 3 t33) fun t34 =>
  pur PR (binOp .eql 3 t34 (.int .i64 1)) fun t35 =>
  gj t35 true (fun J => J t0) fun t37 =>
  gj t35 true (fun J => J t23) fun t38 =>
  gj t35 true (fun J => pur PR (Instr.indexAt 50 t37 t38) J) fun t39 =>
  gj t35 true (fun J => pur PR (Instr.fieldAt 71 t39 1) J) fun t40 =>
  gj t35 true (fun J => rds PR (Instr.loadAt 9 t40) J) fun t41 =>
  gj t35 true (fun J => J t1) fun t42 =>
  gj t35 true (fun J => pur PR (binOp .eql 9 t41 t42) J) fun t43 =>
  pur PR (do pure (if ← asBool t35 then t43 else (.bool false))) fun t44 =>
  cnd t44 (
  R t23) (
  J3 t4_3)) fun J4 =>
  pur PR (Instr.indexAt 50 t0 t23) fun t26 =>
  pur PR (Instr.fieldAt 71 t26 0) fun t27 =>
  rds PR (Instr.loadAt 3 t27) fun t28 =>
  pur PR (binOp .eql 3 t28 (.int .i64 0)) fun t29 =>
  cnd t29 (
  R (.int .i64 (-1))) (
  J4 t4_1)) fun J5 =>
  pur PR (builtinS .len #[50] 0 [t0]) fun t14 =>
  pur PR (binOp .lss 3 t6_1 t14) fun t15 =>
  cnd t15 (
  J5) (
  J1 t4_1 t6_1)) (.int .i64 0) (.int .i64 0)
theorem sh_gangplankref11_Find_eq (X : Nat → Prop) (t0 t1 : Value) (R : Value → WP) : vcFun PR X Tryz.f75 [t0, t1] R = sh_gangplankref11_Find X t0 t1 R := by kernel_rfl
theorem ent_gangplankref11_Find : Enters PR 75 := enters_of Tryz.func75 (by kernel_rfl) rfl
theorem mk_gangplankref11_Find {X : Nat → Prop} {t0 t1 : Value} {R : Value → WP} {w : World} (h : sh_gangplankref11_Find X t0 t1 R w) : Fn PR X 75 #[t0, t1] w R := fn_of_vc (args := [t0, t1]) mixed Tryz.func75 (by rw [sh_gangplankref11_Find_eq]; exact h)
def sh_gangplankref11_Home (X : Nat → Prop) (t0 t1 : Value) (R : Value → WP) : WP :=
  jn (n := 1) (fun t4 =>
  cal PR X 78 [t0] fun t8 =>
  pur PR (convert 3 68 t1) fun t10 =>
  pur PR (binOp .rem 68 t8 t10) fun t11 =>
  pur PR (convert 68 3 t11) fun t12 =>
  R t12) fun J1 =>
  pur PR (binOp .lss 3 t1 (.int .i64 1)) fun t6 =>
  cnd t6 (
  R (.int .i64 0)) (
  J1 (.int .i64 0))
theorem sh_gangplankref11_Home_eq (X : Nat → Prop) (t0 t1 : Value) (R : Value → WP) : vcFun PR X Tryz.f120 [t0, t1] R = sh_gangplankref11_Home X t0 t1 R := by kernel_rfl
theorem ent_gangplankref11_Home : Enters PR 120 := enters_of Tryz.func120 (by kernel_rfl) rfl
theorem mk_gangplankref11_Home {X : Nat → Prop} {t0 t1 : Value} {R : Value → WP} {w : World} (h : sh_gangplankref11_Home X t0 t1 R w) : Fn PR X 120 #[t0, t1] w R := fn_of_vc (args := [t0, t1]) mixed Tryz.func120 (by rw [sh_gangplankref11_Home_eq]; exact h)
def sh_gangplankref11_Room (X : Nat → Prop) (t0 t1 : Value) (R : Value → WP) : WP :=
  jn (n := 1) (fun t4 =>
  pur PR (builtinS .len #[50] 0 [t0]) fun t14 =>
  cal PR X 120 [t1, t14] fun t15 =>
  jn (n := 2) (fun t4_1 t6 =>
  R (.int .i64 (-1))) fun J1 =>
  lp (n := 2) (fun L2 t4_2 t6_1 =>
  jn (n := 0) (
  jn (n := 1) (fun t4_3 =>
  pur PR (binOp .add 3 t6_1 (.int .i64 1)) fun t21 =>
  L2 t4_3 t21) fun J3 =>
  pur PR (binOp .add 3 t15 t6_1) fun t24 =>
  pur PR (builtinS .len #[50] 0 [t0]) fun t26 =>
  pur PR (binOp .rem 3 t24 t26) fun t27 =>
  pur PR (Instr.indexAt 50 t0 t27) fun t30 =>
  pur PR (Instr.fieldAt 71 t30 0) fun t31 =>
  rds PR (Instr.loadAt 3 t31) fun t32 =>
  pur PR (binOp .neq 3 t32 (.int .i64 1)) fun t33 =>
  cnd t33 (
  R t27) (
  J3 t4_2)) fun J4 =>
  pur PR (builtinS .len #[50] 0 [t0]) fun t18 =>
  pur PR (binOp .lss 3 t6_1 t18) fun t19 =>
  cnd t19 (
  J4) (
  J1 t4_2 t6_1)) t4 (.int .i64 0)) fun J5 =>
  cal PR X 75 [t0, t1] fun t10 =>
  pur PR (binOp .geq 3 t10 (.int .i64 0)) fun t11 =>
  cnd t11 (
  R (.int .i64 (-1))) (
  J5 (.int .i64 0))
theorem sh_gangplankref11_Room_eq (X : Nat → Prop) (t0 t1 : Value) (R : Value → WP) : vcFun PR X Tryz.f124 [t0, t1] R = sh_gangplankref11_Room X t0 t1 R := by kernel_rfl
theorem ent_gangplankref11_Room : Enters PR 124 := enters_of Tryz.func124 (by kernel_rfl) rfl
theorem mk_gangplankref11_Room {X : Nat → Prop} {t0 t1 : Value} {R : Value → WP} {w : World} (h : sh_gangplankref11_Room X t0 t1 R w) : Fn PR X 124 #[t0, t1] w R := fn_of_vc (args := [t0, t1]) mixed Tryz.func124 (by rw [sh_gangplankref11_Room_eq]; exact h)
end Go.Proofs.YtggakcpabomliaaGreat
namespace Go.Proofs.YtggakcpabomliaaGreat
open Go
def few11 (l : List EnV) : Bool := decide (l.length ≤ 80) && l.all fun x => decide (x.key.size ≤ 60)
theorem few11_ok (w : World) (v : Value) (l : List EnV) (hn : l.length ≤ 9223372036854775807) (hv : Rd1 w v l.length (l.flatMap encE)) : Fn PR NoX 26 #[v] w (fun r w' => r = .bool (few11 l) ∧ But [] w w') := by
  refine Fn.pure (mk_gangplankref11_Few (TW.go (κ := false) (S := []) ?_))
  unfold sh_gangplankref11_Few
  obtain ⟨a, c, rfl, hr⟩ := hv.form
  by_cases c0 : (80 : Int) < l.length
  · (have hQq := trivial; repeat ((first | clear hQq | (with_reducible first | refine T_drw ?_ | refine T_bx fun _ => ?_ | refine s_al fun _ => ?_)); (try simp (disch := first | omega | assumption | ((repeat (first | exact mem_h | exact Up.here | apply mem_t | apply Up.there)); first | done | fail) | (simp; first | done | omega | fail)) [c0])))
    exact T_ret (by simp [few11]; omega)
  (have hQq := trivial; repeat ((first | clear hQq | (with_reducible first | refine T_drw ?_ | refine T_bx fun _ => ?_ | refine s_al fun _ => ?_)); (try simp (disch := first | omega | assumption | ((repeat (first | exact mem_h | exact Up.here | apply mem_t | apply Up.there)); first | done | fail) | (simp; first | done | omega | fail)) [c0])))
  refine T_for1 l.length (fun _ _ => .bool false) (fun _ (_ : Unit) => []) (fun i _ => ∀ (j : Nat) x, j < i → l[j]? = some x → x.key.size ≤ 60) () (by intros; omega) ?_
  rintro i _ hi hφ L hL
  by_cases hlt : i < l.length
  · have hx := List.getElem?_eq_getElem hlt
    obtain ⟨b, o, rfl, hrow⟩ := hr (by omega)
    have hc := hrow.cellAt (f := encE) (k := 4) (j := 1) (fun _ => rfl) hx rfl
    by_cases c1 : (60 : Int) < l[i].key.size
    · (have hQq := trivial; repeat ((first | clear hQq | (with_reducible first | refine T_drw ?_ | refine T_bx fun _ => ?_ | refine s_al fun _ => ?_)); (try simp (disch := first | omega | assumption | ((repeat (first | exact mem_h | exact Up.here | apply mem_t | apply Up.there)); first | done | fail) | (simp; first | done | omega | fail)) [hlt, hc, c1])))
      refine T_ret ?_
      have : few11 l = false := by
        unfold few11
        rw [Bool.and_eq_false_iff]; right
        rw [List.all_eq_false]
        exact ⟨l[i], List.getElem_mem hlt, by simp; omega⟩
      rw [this]
    · (have hQq := trivial; repeat ((first | clear hQq | (with_reducible first | refine T_drw ?_ | refine T_bx fun _ => ?_ | refine s_al fun _ => ?_)); (try simp (disch := first | omega | assumption | ((repeat (first | exact mem_h | exact Up.here | apply mem_t | apply Up.there)); first | done | fail) | (simp; first | done | omega | fail)) [hlt, hc, c1])))
      refine hL hlt () fun j x hj hx' => ?_
      by_cases e : j < i
      · exact hφ j x e hx'
      · obtain rfl : j = i := by omega
        rw [hx] at hx'; injection hx' with hx'; rw [← hx']; omega
  · (have hQq := trivial; repeat ((first | clear hQq | (with_reducible first | refine T_drw ?_ | refine T_bx fun _ => ?_ | refine s_al fun _ => ?_)); (try simp (disch := first | omega | assumption | ((repeat (first | exact mem_h | exact Up.here | apply mem_t | apply Up.there)); first | done | fail) | (simp; first | done | omega | fail)) [hlt])))
    refine T_ret ?_
    have : few11 l = true := by
      unfold few11
      rw [Bool.and_eq_true]
      refine ⟨by simp; omega, ?_⟩
      rw [List.all_eq_true]
      intro x hx
      obtain ⟨j, hj, e⟩ := List.getElem_of_mem hx
      simpa using hφ j x (by omega) (by simp [hj, e])
    rw [this]
end Go.Proofs.YtggakcpabomliaaGreat
namespace Go.Proofs.YtggakcpabomliaaGreat
open Go
def sh_gangplankref02_Sum (X : Nat → Prop) (t0 : Value) (R : Value → WP) : WP :=
  cal PR X 123 [(.int .u64 14695981039346656037), t0] fun t4 =>
  R t4
theorem sh_gangplankref02_Sum_eq (X : Nat → Prop) (t0 : Value) (R : Value → WP) : vcFun PR X Tryz.f78 [t0] R = sh_gangplankref02_Sum X t0 R := by kernel_rfl
theorem ent_gangplankref02_Sum : Enters PR 78 := enters_of Tryz.func78 (by kernel_rfl) rfl
theorem mk_gangplankref02_Sum {X : Nat → Prop} {t0 : Value} {R : Value → WP} {w : World} (h : sh_gangplankref02_Sum X t0 R w) : Fn PR X 78 #[t0] w R := fn_of_vc (args := [t0]) mixed Tryz.func78 (by rw [sh_gangplankref02_Sum_eq]; exact h)
def sh_gangplankref02_Join (X : Nat → Prop) (t0 t1 : Value) (R : Value → WP) : WP :=
  jn (n := 2) (fun t0_1 t5 =>
  R t0_1) fun J1 =>
  lp (n := 2) (fun L2 t0_2 t5_1 =>
  jn (n := 0) (
  jn (n := 1) (fun t0_3 =>
  pur PR (binOp .add 3 t5_1 (.int .i64 1)) fun t11 =>
  L2 t0_3 t11) fun J3 =>
  pur PR (Instr.index 9 t1 t5_1) fun t15 =>
  cal PR X 167 [t0_2, t15] fun t16 =>
  J3 t16) fun J4 =>
  pur PR (builtinS .len #[9] 0 [t1]) fun t8 =>
  pur PR (binOp .lss 3 t5_1 t8) fun t9 =>
  cnd t9 (
  J4) (
  J1 t0_2 t5_1)) t0 (.int .i64 0)
theorem sh_gangplankref02_Join_eq (X : Nat → Prop) (t0 t1 : Value) (R : Value → WP) : vcFun PR X Tryz.f123 [t0, t1] R = sh_gangplankref02_Join X t0 t1 R := by kernel_rfl
theorem ent_gangplankref02_Join : Enters PR 123 := enters_of Tryz.func123 (by kernel_rfl) rfl
theorem mk_gangplankref02_Join {X : Nat → Prop} {t0 t1 : Value} {R : Value → WP} {w : World} (h : sh_gangplankref02_Join X t0 t1 R w) : Fn PR X 123 #[t0, t1] w R := fn_of_vc (args := [t0, t1]) mixed Tryz.func123 (by rw [sh_gangplankref02_Join_eq]; exact h)
def sh_gangplankref02_Next (X : Nat → Prop) (t0 t1 : Value) (R : Value → WP) : WP :=
  pur PR (convert 5 68 t1) fun t7 =>
  pur PR (binOp .xor 68 t0 t7) fun t8 =>
  pur PR (binOp .mul 68 t8 (.int .u64 1099511628211)) fun t9 =>
  R t9
theorem sh_gangplankref02_Next_eq (X : Nat → Prop) (t0 t1 : Value) (R : Value → WP) : vcFun PR X Tryz.f167 [t0, t1] R = sh_gangplankref02_Next X t0 t1 R := by kernel_rfl
theorem ent_gangplankref02_Next : Enters PR 167 := enters_of Tryz.func167 (by kernel_rfl) rfl
theorem mk_gangplankref02_Next {X : Nat → Prop} {t0 t1 : Value} {R : Value → WP} {w : World} (h : sh_gangplankref02_Next X t0 t1 R w) : Fn PR X 167 #[t0, t1] w R := fn_of_vc (args := [t0, t1]) mixed Tryz.func167 (by rw [sh_gangplankref02_Next_eq]; exact h)
end Go.Proofs.YtggakcpabomliaaGreat
namespace Go.Proofs.YtggakcpabomliaaGreat
open Go
theorem next2_ok (w : World) (h b : Nat) (hh : h < 2 ^ 64) (hb : b < 256) : Fn PR NoX 167 #[.int .u64 (h : Int), .int .u8 (b : Int)] w (fun v w' => v = .int .u64 (fnvN h b : Nat) ∧ But [] w w') := by
  refine Fn.pure (mk_gangplankref02_Next (TW.go (κ := false) (S := []) ?_))
  unfold sh_gangplankref02_Next
  (have hQq := trivial; repeat ((first | clear hQq | (with_reducible first | refine T_drw ?_ | refine T_bx fun _ => ?_ | refine s_al fun _ => ?_)); (try simp (disch := first | omega | assumption | ((repeat (first | exact mem_h | exact Up.here | apply mem_t | apply Up.there)); first | done | fail) | (simp; first | done | omega | fail)) [])))
  have e1 : (h % 2 ^ IntKind.u64.bits ^^^ b % 2 ^ IntKind.u64.bits) = h ^^^ b := by rw [show (2 : Nat) ^ IntKind.u64.bits = 2 ^ 64 from rfl, Nat.mod_eq_of_lt hh, Nat.mod_eq_of_lt (by omega)]
  have e2 : h ^^^ b < 2 ^ 64 := Nat.xor_lt_two_pow hh (by omega)
  rw [e1, wrapu64 (n := ((h ^^^ b : Nat) : Int)) (by omega) (by omega)]
  refine T_ret ?_
  have e3 : IntKind.u64.wrap (((h ^^^ b : Nat) : Int) * 1099511628211) = (fnvN h b : Nat) := by
    simp only [IntKind.wrap, IntKind.bits, IntKind.signed, fnvN]
    simp
  rw [e3]
theorem join2_ok (w : World) (h : Nat) (s : ByteArray) (hh : h < 2 ^ 64) (hs : s.size < 2 ^ 60) : Fn PR NoX 123 #[.int .u64 (h : Int), .string s] w (fun v w' => v = .int .u64 (fnvJ h s : Nat) ∧ But [] w w') := by
  refine Fn.pure (mk_gangplankref02_Join (TW.go (κ := false) (S := []) ?_))
  unfold sh_gangplankref02_Join
  (have hQq := trivial; repeat ((first | clear hQq | (with_reducible first | refine T_drw ?_ | refine T_bx fun _ => ?_ | refine s_al fun _ => ?_)); (try simp (disch := first | omega | assumption | ((repeat (first | exact mem_h | exact Up.here | apply mem_t | apply Up.there)); first | done | fail) | (simp; first | done | omega | fail)) [])))
  refine T_for1 s.size (fun i (_ : Unit) => .int .u64 (fnvI h s i : Nat)) (fun _ _ => []) (fun _ _ => True) () trivial ?_
  rintro i _ hi _ L hL
  by_cases hlt : i < s.size
  · obtain ⟨by0, hb0, hb1⟩ := byte_get (s := s) (i := i) hlt
    have hb0' : s[((i : Nat) : Int).toNat]? = some by0 := by rw [Int.toNat_natCast]; exact hb0
    (have hQq := trivial; repeat ((first | clear hQq | (with_reducible first | refine T_drw ?_ | refine T_bx fun _ => ?_ | refine s_al fun _ => ?_)); (try simp (disch := first | omega | assumption | ((repeat (first | exact mem_h | exact Up.here | apply mem_t | apply Up.there)); first | done | fail) | (simp; first | done | omega | fail)) [hlt, i_is_9])))
    rw [hb1]
    refine T_cv ent_gangplankref02_Next (fun w' _ => next2_ok w' _ _ (fnvI_lt hh s i) (byteAt_lt s i)) ?_
    (have hQq := trivial; repeat ((first | clear hQq | (with_reducible first | refine T_drw ?_ | refine T_bx fun _ => ?_ | refine s_al fun _ => ?_)); (try simp (disch := first | omega | assumption | ((repeat (first | exact mem_h | exact Up.here | apply mem_t | apply Up.there)); first | done | fail) | (simp; first | done | omega | fail)) [])))
    exact hL hlt () trivial
  · obtain rfl : i = s.size := by omega
    (have hQq := trivial; repeat ((first | clear hQq | (with_reducible first | refine T_drw ?_ | refine T_bx fun _ => ?_ | refine s_al fun _ => ?_)); (try simp (disch := first | omega | assumption | ((repeat (first | exact mem_h | exact Up.here | apply mem_t | apply Up.there)); first | done | fail) | (simp; first | done | omega | fail)) [])))
    exact T_ret rfl
theorem sum2_ok (w : World) (s : ByteArray) (hs : s.size < 2 ^ 60) : Fn PR NoX 78 #[.string s] w (fun v w' => v = .int .u64 (fnvS s : Nat) ∧ But [] w w') := by
  refine Fn.pure (mk_gangplankref02_Sum (TW.go (κ := false) (S := []) ?_))
  unfold sh_gangplankref02_Sum
  refine T_cv ent_gangplankref02_Join (fun w' _ => join2_ok w' 14695981039346656037 s (by omega) hs) ?_
  exact T_ret rfl
end Go.Proofs.YtggakcpabomliaaGreat
namespace Go.Proofs.YtggakcpabomliaaGreat
open Go
theorem home11_ok (w : World) (key : ByteArray) (n : Nat) (hk : key.size < 2 ^ 60) (hn : n ≤ 1000000) : Fn PR NoX 120 #[.string key, .int .i64 (n : Int)] w (fun v w' => v = .int .i64 (if n = 0 then 0 else homeV key n : Nat) ∧ But [] w w') := by
  refine Fn.pure (mk_gangplankref11_Home (TW.go (κ := false) (S := []) ?_))
  unfold sh_gangplankref11_Home
  by_cases c1 : n = 0
  · have c1' : (n : Int) < 1 := by omega
    (have hQq := trivial; repeat ((first | clear hQq | (with_reducible first | refine T_drw ?_ | refine T_bx fun _ => ?_ | refine s_al fun _ => ?_)); (try simp (disch := first | omega | assumption | ((repeat (first | exact mem_h | exact Up.here | apply mem_t | apply Up.there)); first | done | fail) | (simp; first | done | omega | fail)) [c1'])))
    exact T_ret (by simp [c1])
  have c1' : ¬ (n : Int) < 1 := by omega
  have c1'' : ¬ (n : Int) = 0 := by omega
  (have hQq := trivial; repeat ((first | clear hQq | (with_reducible first | refine T_drw ?_ | refine T_bx fun _ => ?_ | refine s_al fun _ => ?_)); (try simp (disch := first | omega | assumption | ((repeat (first | exact mem_h | exact Up.here | apply mem_t | apply Up.there)); first | done | fail) | (simp; first | done | omega | fail)) [c1'])))
  refine T_cv ent_gangplankref02_Sum (fun w' _ => sum2_ok w' key hk) ?_
  have hl := fnvS_lt key
  have hm : homeV key n < n := Nat.mod_lt _ (by omega)
  have e1 : ((fnvS key : Nat) : Int).tmod n = (homeV key n : Nat) := by unfold homeV; rw [Int.tmod_eq_emod_of_nonneg (by omega)]; omega
  have e2 : ((fnvS key : Nat) : Int) % n = (homeV key n : Nat) := by unfold homeV; omega
  (have hQq := trivial; repeat ((first | clear hQq | (with_reducible first | refine T_drw ?_ | refine T_bx fun _ => ?_ | refine s_al fun _ => ?_)); (try simp (disch := first | omega | assumption | ((repeat (first | exact mem_h | exact Up.here | apply mem_t | apply Up.there)); first | done | fail) | (simp; first | done | omega | fail)) [c1'', e1, p_rem])))
  exact T_ret (by simp [c1])
theorem way_drop {l : List EnV} {key : ByteArray} {i : Nat} (hi : i < l.length) : (wayL l key).drop i = ((homeV key l.length + i) % l.length, l.getD ((homeV key l.length + i) % l.length) noE) :: (wayL l key).drop (i + 1) := by
  have h : i < (wayL l key).length := by simpa [wayL] using hi
  rw [List.drop_eq_getElem_cons h]
  simp [wayL]
theorem rem_way {n h i : Nat} (hn : 0 < n) : ((h : Int) + (i : Int)).tmod (n : Int) = ((h + i) % n : Nat) := by
  rw [Int.tmod_eq_emod_of_nonneg (by omega), Int.natCast_emod, Int.natCast_add]
theorem find11_ok (w : World) (v : Value) (l : List EnV) (key : ByteArray) (hk : key.size < 2 ^ 60) (hn : l.length ≤ 1000000) (hv : Rd1 w v l.length (l.flatMap encE)) :
    Fn PR NoX 75 #[v, .string key] w (fun r w' => r = .int .i64 (findE l key) ∧ But [] w w') := by
  refine Fn.pure (mk_gangplankref11_Find (TW.go (κ := false) (S := []) ?_))
  unfold sh_gangplankref11_Find
  obtain ⟨a, c, rfl, hr⟩ := hv.form
  (have hQq := trivial; repeat ((first | clear hQq | (with_reducible first | refine T_drw ?_ | refine T_bx fun _ => ?_ | refine s_al fun _ => ?_)); (try simp (disch := first | omega | assumption | ((repeat (first | exact mem_h | exact Up.here | apply mem_t | apply Up.there)); first | done | fail) | (simp; first | done | omega | fail)) [])))
  refine T_cv ent_gangplankref11_Home (fun w' _ => home11_ok w' key l.length hk hn) ?_
  by_cases h0 : l.length = 0
  · have h0' : ¬ (0 : Int) < l.length := by omega
    (have hQq := trivial; repeat ((first | clear hQq | (with_reducible first | refine T_drw ?_ | refine T_bx fun _ => ?_ | refine s_al fun _ => ?_)); (try simp (disch := first | omega | assumption | ((repeat (first | exact mem_h | exact Up.here | apply mem_t | apply Up.there)); first | done | fail) | (simp; first | done | omega | fail)) [h0])))
    refine T_for1 0 (fun _ _ => .int .i64 0) (fun _ (_ : Unit) => []) (fun _ _ => True) () trivial ?_
    rintro i _ hi _ L hL
    obtain rfl : i = 0 := by omega
    (have hQq := trivial; repeat ((first | clear hQq | (with_reducible first | refine T_drw ?_ | refine T_bx fun _ => ?_ | refine s_al fun _ => ?_)); (try simp (disch := first | omega | assumption | ((repeat (first | exact mem_h | exact Up.here | apply mem_t | apply Up.there)); first | done | fail) | (simp; first | done | omega | fail)) [h0, h0'])))
    refine T_ret ?_
    have : l = [] := List.length_eq_zero_iff.1 h0
    subst this; rfl
  have hm : homeV key l.length < l.length := Nat.mod_lt _ (by omega)
  rw [if_neg h0]
  (have hQq := trivial; repeat ((first | clear hQq | (with_reducible first | refine T_drw ?_ | refine T_bx fun _ => ?_ | refine s_al fun _ => ?_)); (try simp (disch := first | omega | assumption | ((repeat (first | exact mem_h | exact Up.here | apply mem_t | apply Up.there)); first | done | fail) | (simp; first | done | omega | fail)) [])))
  refine T_for1 l.length (fun _ _ => .int .i64 0) (fun _ (_ : Unit) => []) (fun i _ => findW key ((wayL l key).drop i) = findE l key) () rfl ?_
  rintro i _ hi hφ L hL
  by_cases hlt : i < l.length
  · obtain ⟨b, o, rfl, hrow⟩ := hr (by omega)
    rw [way_drop hlt] at hφ
    have hq : (homeV key l.length + i) % l.length < l.length := Nat.mod_lt _ (by omega)
    have hrem := rem_way (n := l.length) (h := homeV key l.length) (i := i) (by omega)
    have hnz : ¬ (l.length : Int) = 0 := by omega
    generalize (homeV key l.length + i) % l.length = q at *
    have hx := getD_some noE hq
    have h1 := hrow.cellAt (f := encE) (k := 4) (j := 0) (fun _ => rfl) hx rfl
    have h2 := hrow.cellAt (f := encE) (k := 4) (j := 1) (fun _ => rfl) hx rfl
    generalize l.getD q noE = x at *
    simp only [findW] at hφ
    by_cases c0 : x.st = 0
    · rw [if_pos c0] at hφ
      (have hQq := trivial; repeat ((first | clear hQq | (with_reducible first | refine T_drw ?_ | refine T_bx fun _ => ?_ | refine s_al fun _ => ?_)); (try simp (disch := first | omega | assumption | ((repeat (first | exact mem_h | exact Up.here | apply mem_t | apply Up.there)); first | done | fail) | (simp; first | done | omega | fail)) [hlt, hrem, hnz, p_rem, c0])))
      exact T_ret (by rw [← hφ])
    rw [if_neg c0] at hφ
    by_cases c1 : x.st = 1
    · by_cases c2 : x.key = key
      · rw [if_pos ⟨c1, c2⟩] at hφ
        (have hQq := trivial; repeat ((first | clear hQq | (with_reducible first | refine T_drw ?_ | refine T_bx fun _ => ?_ | refine s_al fun _ => ?_)); (try simp (disch := first | omega | assumption | ((repeat (first | exact mem_h | exact Up.here | apply mem_t | apply Up.there)); first | done | fail) | (simp; first | done | omega | fail)) [hlt, hrem, hnz, p_rem, c0, c1, c2])))
        exact T_ret (by rw [← hφ])
      · rw [if_neg (fun h => c2 h.2)] at hφ
        (have hQq := trivial; repeat ((first | clear hQq | (with_reducible first | refine T_drw ?_ | refine T_bx fun _ => ?_ | refine s_al fun _ => ?_)); (try simp (disch := first | omega | assumption | ((repeat (first | exact mem_h | exact Up.here | apply mem_t | apply Up.there)); first | done | fail) | (simp; first | done | omega | fail)) [hlt, hrem, hnz, p_rem, c0, c1, c2])))
        exact hL hlt () hφ
    · rw [if_neg (fun h => c1 h.1)] at hφ
      (have hQq := trivial; repeat ((first | clear hQq | (with_reducible first | refine T_drw ?_ | refine T_bx fun _ => ?_ | refine s_al fun _ => ?_)); (try simp (disch := first | omega | assumption | ((repeat (first | exact mem_h | exact Up.here | apply mem_t | apply Up.there)); first | done | fail) | (simp; first | done | omega | fail)) [hlt, hrem, hnz, p_rem, c0, c1])))
      exact hL hlt () hφ
  · obtain rfl : i = l.length := by omega
    have hwl : (wayL l key).length = l.length := by simp [wayL]
    rw [List.drop_of_length_le (by omega)] at hφ
    (have hQq := trivial; repeat ((first | clear hQq | (with_reducible first | refine T_drw ?_ | refine T_bx fun _ => ?_ | refine s_al fun _ => ?_)); (try simp (disch := first | omega | assumption | ((repeat (first | exact mem_h | exact Up.here | apply mem_t | apply Up.there)); first | done | fail) | (simp; first | done | omega | fail)) [])))
    exact T_ret (by rw [← hφ]; rfl)
theorem room11_ok (w : World) (v : Value) (l : List EnV) (key : ByteArray) (hk : key.size < 2 ^ 60) (hn : l.length ≤ 1000000) (hv : Rd1 w v l.length (l.flatMap encE)) :
    Fn PR NoX 124 #[v, .string key] w (fun r w' => r = .int .i64 (roomE l key) ∧ But [] w w') := by
  refine Fn.pure (mk_gangplankref11_Room (TW.go (κ := false) (S := []) ?_))
  unfold sh_gangplankref11_Room
  obtain ⟨a, c, rfl, hr⟩ := hv.form
  refine T_cv ent_gangplankref11_Find (fun w' hw' => find11_ok w' _ l key hk hn (hv.ks hw'.ks (by simp))) ?_
  by_cases cf : 0 ≤ findE l key
  · (have hQq := trivial; repeat ((first | clear hQq | (with_reducible first | refine T_drw ?_ | refine T_bx fun _ => ?_ | refine s_al fun _ => ?_)); (try simp (disch := first | omega | assumption | ((repeat (first | exact mem_h | exact Up.here | apply mem_t | apply Up.there)); first | done | fail) | (simp; first | done | omega | fail)) [cf])))
    exact T_ret (by rw [roomE, if_pos cf])
  have hre : roomE l key = roomW (wayL l key) := if_neg cf
  rw [hre]
  (have hQq := trivial; repeat ((first | clear hQq | (with_reducible first | refine T_drw ?_ | refine T_bx fun _ => ?_ | refine s_al fun _ => ?_)); (try simp (disch := first | omega | assumption | ((repeat (first | exact mem_h | exact Up.here | apply mem_t | apply Up.there)); first | done | fail) | (simp; first | done | omega | fail)) [cf])))
  refine T_cv ent_gangplankref11_Home (fun w' _ => home11_ok w' key l.length hk hn) ?_
  by_cases h0 : l.length = 0
  · have h0' : ¬ (0 : Int) < l.length := by omega
    (have hQq := trivial; repeat ((first | clear hQq | (with_reducible first | refine T_drw ?_ | refine T_bx fun _ => ?_ | refine s_al fun _ => ?_)); (try simp (disch := first | omega | assumption | ((repeat (first | exact mem_h | exact Up.here | apply mem_t | apply Up.there)); first | done | fail) | (simp; first | done | omega | fail)) [h0])))
    refine T_for1 0 (fun _ _ => .int .i64 0) (fun _ (_ : Unit) => []) (fun _ _ => True) () trivial ?_
    rintro i _ hi _ L hL
    obtain rfl : i = 0 := by omega
    (have hQq := trivial; repeat ((first | clear hQq | (with_reducible first | refine T_drw ?_ | refine T_bx fun _ => ?_ | refine s_al fun _ => ?_)); (try simp (disch := first | omega | assumption | ((repeat (first | exact mem_h | exact Up.here | apply mem_t | apply Up.there)); first | done | fail) | (simp; first | done | omega | fail)) [h0, h0'])))
    refine T_ret ?_
    have : l = [] := List.length_eq_zero_iff.1 h0
    subst this; rfl
  have hm : homeV key l.length < l.length := Nat.mod_lt _ (by omega)
  rw [if_neg h0]
  (have hQq := trivial; repeat ((first | clear hQq | (with_reducible first | refine T_drw ?_ | refine T_bx fun _ => ?_ | refine s_al fun _ => ?_)); (try simp (disch := first | omega | assumption | ((repeat (first | exact mem_h | exact Up.here | apply mem_t | apply Up.there)); first | done | fail) | (simp; first | done | omega | fail)) [])))
  refine T_for1 l.length (fun _ _ => .int .i64 0) (fun _ (_ : Unit) => []) (fun i _ => roomW ((wayL l key).drop i) = roomW (wayL l key)) () rfl ?_
  rintro i _ hi hφ L hL
  by_cases hlt : i < l.length
  · obtain ⟨b, o, rfl, hrow⟩ := hr (by omega)
    rw [way_drop hlt] at hφ
    have hq : (homeV key l.length + i) % l.length < l.length := Nat.mod_lt _ (by omega)
    have hrem := rem_way (n := l.length) (h := homeV key l.length) (i := i) (by omega)
    have hnz : ¬ (l.length : Int) = 0 := by omega
    generalize (homeV key l.length + i) % l.length = q at *
    have hx := getD_some noE hq
    have h1 := hrow.cellAt (f := encE) (k := 4) (j := 0) (fun _ => rfl) hx rfl
    generalize l.getD q noE = x at *
    simp only [roomW] at hφ
    by_cases c1 : x.st = 1
    · rw [if_pos c1] at hφ
      (have hQq := trivial; repeat ((first | clear hQq | (with_reducible first | refine T_drw ?_ | refine T_bx fun _ => ?_ | refine s_al fun _ => ?_)); (try simp (disch := first | omega | assumption | ((repeat (first | exact mem_h | exact Up.here | apply mem_t | apply Up.there)); first | done | fail) | (simp; first | done | omega | fail)) [hlt, hrem, hnz, p_rem, c1])))
      exact hL hlt () hφ
    · rw [if_neg c1] at hφ
      (have hQq := trivial; repeat ((first | clear hQq | (with_reducible first | refine T_drw ?_ | refine T_bx fun _ => ?_ | refine s_al fun _ => ?_)); (try simp (disch := first | omega | assumption | ((repeat (first | exact mem_h | exact Up.here | apply mem_t | apply Up.there)); first | done | fail) | (simp; first | done | omega | fail)) [hlt, hrem, hnz, p_rem, c1])))
      exact T_ret (by rw [← hφ])
  · obtain rfl : i = l.length := by omega
    have hwl : (wayL l key).length = l.length := by simp [wayL]
    rw [List.drop_of_length_le (by omega)] at hφ
    (have hQq := trivial; repeat ((first | clear hQq | (with_reducible first | refine T_drw ?_ | refine T_bx fun _ => ?_ | refine s_al fun _ => ?_)); (try simp (disch := first | omega | assumption | ((repeat (first | exact mem_h | exact Up.here | apply mem_t | apply Up.there)); first | done | fail) | (simp; first | done | omega | fail)) [])))
    exact T_ret (by rw [← hφ]; rfl)
theorem same11_ok (w : World) (u v : Value) (l m : List EnV) (hn : l.length ≤ 1000000) (hm : m.length ≤ 1000000) (hu : Rd1 w u l.length (l.flatMap encE)) (hv : Rd1 w v m.length (m.flatMap encE)) :
    Fn PR NoX 24 #[u, v] w (fun r w' => r = .bool (decide (l = m)) ∧ But [] w w') := by
  refine Fn.pure (mk_gangplankref11_Same (TW.go (κ := false) (S := []) ?_))
  unfold sh_gangplankref11_Same
  obtain ⟨a, c, rfl, hr⟩ := hu.form
  obtain ⟨a', c', rfl, hr'⟩ := hv.form
  by_cases hlen : l.length = m.length
  case neg =>
    have hne : ¬ l = m := fun h => hlen (by rw [h])
    have hl' : ¬ ((l.length : Nat) : Int) = m.length := by omega
    (have hQq := trivial; repeat ((first | clear hQq | (with_reducible first | refine T_drw ?_ | refine T_bx fun _ => ?_ | refine s_al fun _ => ?_)); (try simp (disch := first | omega | assumption | ((repeat (first | exact mem_h | exact Up.here | apply mem_t | apply Up.there)); first | done | fail) | (simp; first | done | omega | fail)) [hl', hlen])))
    exact T_ret (by simp [hne])
  (have hQq := trivial; repeat ((first | clear hQq | (with_reducible first | refine T_drw ?_ | refine T_bx fun _ => ?_ | refine s_al fun _ => ?_)); (try simp (disch := first | omega | assumption | ((repeat (first | exact mem_h | exact Up.here | apply mem_t | apply Up.there)); first | done | fail) | (simp; first | done | omega | fail)) [hlen])))
  refine T_for1 (α := Unit) m.length (fun _ _ => .bool false) (fun _ _ => []) (fun i _ => ∀ j, j < i → l[j]? = m[j]?) () (by intro j hj; omega) ?_
  rintro i _ hi hpre L hL
  by_cases hlt : i < m.length
  · obtain ⟨b, o, rfl, hrow⟩ := hr (by omega)
    obtain ⟨b', o', rfl, hrow'⟩ := hr' (by omega)
    obtain ⟨x, hx⟩ : ∃ x, l[i]? = some x := ⟨_, List.getElem?_eq_getElem (by omega)⟩
    obtain ⟨y, hy⟩ : ∃ y, m[i]? = some y := ⟨_, List.getElem?_eq_getElem hlt⟩
    have h1 := hrow.at (f := encE) (k := 4) (fun _ => rfl) hx
    have h2 := hrow'.at (f := encE) (k := 4) (fun _ => rfl) hy
    rw [encE] at h1 h2
    by_cases he : x = y
    · subst he
      (have hQq := trivial; repeat ((first | clear hQq | (with_reducible first | refine T_drw ?_ | refine T_bx fun _ => ?_ | refine s_al fun _ => ?_)); (try simp (disch := first | omega | assumption | ((repeat (first | exact mem_h | exact Up.here | apply mem_t | apply Up.there)); first | done | fail) | (simp; first | done | omega | fail)) [hlt, hlen, h1, h2])))
      refine Sels.tw .nil (hL hlt () ?_)
      intro j hj
      by_cases hji : j = i
      · subst hji; rw [hx, hy]
      · exact hpre j (by omega)
    · have hne : ¬ l = m := fun h => he (by rw [h] at hx; rw [hx] at hy; exact Option.some.inj hy)
      have he' : ¬ (x.st = y.st ∧ x.key = y.key ∧ x.bk = y.bk ∧ x.dl = y.dl) := fun h => he (by cases x; cases y; simpa using h)
      (have hQq := trivial; repeat ((first | clear hQq | (with_reducible first | refine T_drw ?_ | refine T_bx fun _ => ?_ | refine s_al fun _ => ?_)); (try simp (disch := first | omega | assumption | ((repeat (first | exact mem_h | exact Up.here | apply mem_t | apply Up.there)); first | done | fail) | (simp; first | done | omega | fail)) [hlt, hlen, h1, h2])))
      refine T_if (fun _ => T_ret (by simp [hne])) fun hc => absurd ?_ he'
      refine ⟨Classical.byContradiction fun h => hc (Or.inl h), Classical.byContradiction fun h => hc (Or.inr (Or.inl h)), Classical.byContradiction fun h => hc (Or.inr (Or.inr (Or.inl h))), Classical.byContradiction fun h => hc (Or.inr (Or.inr (Or.inr h)))⟩
  · obtain rfl : i = m.length := by omega
    have : l = m := pre_eq hlen fun j hj => hpre j (by omega)
    (have hQq := trivial; repeat ((first | clear hQq | (with_reducible first | refine T_drw ?_ | refine T_bx fun _ => ?_ | refine s_al fun _ => ?_)); (try simp (disch := first | omega | assumption | ((repeat (first | exact mem_h | exact Up.here | apply mem_t | apply Up.there)); first | done | fail) | (simp; first | done | omega | fail)) [hlen])))
    exact T_ret (by rw [decide_eq_true this])
theorem count11_ok (w : World) (v : Value) (l : List EnV) (st : Int) (hn : l.length ≤ 1000000) (hv : Rd1 w v l.length (l.flatMap encE)) :
    Fn PR NoX 69 #[v, .int .i64 st] w (fun r w' => r = .int .i64 (countE l st : Nat) ∧ But [] w w') := by
  refine Fn.pure (mk_gangplankref11_Count (TW.go (κ := false) (S := []) ?_))
  unfold sh_gangplankref11_Count
  obtain ⟨a, c, rfl, hr⟩ := hv.form
  (have hQq := trivial; repeat ((first | clear hQq | (with_reducible first | refine T_drw ?_ | refine T_bx fun _ => ?_ | refine s_al fun _ => ?_)); (try simp (disch := first | omega | assumption | ((repeat (first | exact mem_h | exact Up.here | apply mem_t | apply Up.there)); first | done | fail) | (simp; first | done | omega | fail)) [])))
  refine T_for1 (α := Unit) l.length (fun i _ => .int .i64 (countE (l.take i) st : Nat)) (fun _ _ => []) (fun _ _ => True) () trivial ?_
  rintro i _ hi _ L hL
  by_cases hlt : i < l.length
  · obtain ⟨b, o, rfl, hrow⟩ := hr (by omega)
    have hx : l[i]? = some l[i] := List.getElem?_eq_getElem hlt
    have h1 := hrow.cellAt (f := encE) (k := 4) (j := 0) (fun _ => rfl) hx rfl
    have hc := countP_take (p := fun x : EnV => decide (x.st = st)) hx
    have hle : countE (l.take i) st ≤ i := Nat.le_trans List.countP_le_length (by simp; omega)
    have e : countE (l.take (i + 1)) st = countE (l.take i) st + if decide (l[i].st = st) then 1 else 0 := hc
    have hw1 : IntKind.i64.wrap (((countE (l.take i) st : Nat) : Int) + 1) = ((countE (l.take i) st : Nat) : Int) + 1 := wrap64 (by omega) (by omega)
    by_cases c1 : l[i].st = st
    · (have hQq := trivial; repeat ((first | clear hQq | (with_reducible first | refine T_drw ?_ | refine T_bx fun _ => ?_ | refine s_al fun _ => ?_)); (try simp (disch := first | omega | assumption | ((repeat (first | exact mem_h | exact Up.here | apply mem_t | apply Up.there)); first | done | fail) | (simp; first | done | omega | fail)) [hlt, h1, c1, hw1])))
      have h := hL hlt () trivial
      rw [e, if_pos (by simpa using c1)] at h
      simpa using h
    · (have hQq := trivial; repeat ((first | clear hQq | (with_reducible first | refine T_drw ?_ | refine T_bx fun _ => ?_ | refine s_al fun _ => ?_)); (try simp (disch := first | omega | assumption | ((repeat (first | exact mem_h | exact Up.here | apply mem_t | apply Up.there)); first | done | fail) | (simp; first | done | omega | fail)) [hlt, h1, c1])))
      have h := hL hlt () trivial
      rw [e, if_neg (by simpa using c1)] at h
      simpa using h
  · obtain rfl : i = l.length := by omega
    (have hQq := trivial; repeat ((first | clear hQq | (with_reducible first | refine T_drw ?_ | refine T_bx fun _ => ?_ | refine s_al fun _ => ?_)); (try simp (disch := first | omega | assumption | ((repeat (first | exact mem_h | exact Up.here | apply mem_t | apply Up.there)); first | done | fail) | (simp; first | done | omega | fail)) [])))
    exact T_ret rfl
end Go.Proofs.YtggakcpabomliaaGreat
namespace Go.Proofs.YtggakcpabomliaaGreat
open Go
theorem set_take {α : Type} {l : List α} {i at' : Nat} {x y : α} (hy : l[i]? = some y) : (l.set at' x).take (i + 1) = (l.set at' x).take i ++ [if i = at' then x else y] := by
  have hi := (List.getElem?_eq_some_iff.1 hy).1
  rw [List.take_add_one]
  by_cases c : i = at'
  · subst c; rw [List.getElem?_set_self hi]; simp
  · rw [List.getElem?_set_ne (Ne.symm c), hy]; simp [c]
theorem with12_ok (w : World) (v : Value) (l : List EnV) (at' : Nat) (x : EnV) (hn : l.length ≤ 1000000) (hv : Rd1 w v l.length (l.flatMap encE)) :
    Fn PR NoX 125 #[v, .int .i64 (at' : Int), .agg #[.int .i64 x.st, .string x.key, .int .i64 x.bk, .int .i64 x.dl]] w (Rn [] w (fun r u => u = r) fun r => [ownE r (l.set at' x)]) := by
  refine mk_gangplankref12_with (TW.go (κ := false) (S := []) ?_)
  unfold sh_gangplankref12_with
  obtain ⟨a, c, rfl, hr⟩ := hv.form
  (have hQq := trivial; repeat ((first | clear hQq | (with_reducible first | refine T_drw ?_ | refine T_bx fun _ => ?_ | refine s_al fun _ => ?_ | refine s_bs0 fun _ => ?_ | refine s_bs1 (hK := fun _ => ?_) | refine s_bs2 (hK := fun _ => ?_) | refine s_bs3 (hK := fun _ => ?_) | refine s_bs5 (hK := fun _ => ?_) | refine s_bs6 (hK := fun _ => ?_))); (try simp (disch := first | omega | assumption | ((repeat (first | exact mem_h | exact Up.here | apply mem_t | apply Up.there)); first | done | fail) | (simp; first | done | omega | fail)) [])))
  rename_i bx
  refine T_nil 71 4 ?_
  refine T_for1 l.length (fun i (y : Option Addr × Nat) => .slice y.1 i y.2) (fun i y => [.own 71 4 (.slice y.1 i y.2) i (((l.set at' x).take i).flatMap encE), .pt bx (.cells #[.int .i64 x.st, .string x.key, .int .i64 x.bk, .int .i64 x.dl] 71)]) (fun i y => True) (none, 0) trivial ?_ (by simp)
  rintro i ⟨ya, yc⟩ hi _ L hL
  by_cases hlt : i < l.length
  · have hx : l[i]? = some l[i] := List.getElem?_eq_getElem hlt
    obtain ⟨b, o, rfl, hrow⟩ := hr (by omega)
    have h1 := hrow.at (f := encE) (k := 4) (fun _ => rfl) hx
    rw [encE] at h1
    have hst := set_take (at' := at') (x := x) hx
    by_cases c1 : i = at'
    · rw [if_pos c1] at hst
      subst c1
      (have hQq := trivial; repeat ((first | clear hQq | (with_reducible first | refine T_drw ?_ | refine T_bx fun _ => ?_ | refine s_al fun _ => ?_ | refine s_bs0 fun _ => ?_ | refine s_bs1 (hK := fun _ => ?_) | refine s_bs2 (hK := fun _ => ?_) | refine s_bs3 (hK := fun _ => ?_) | refine s_bs5 (hK := fun _ => ?_) | refine s_bs6 (hK := fun _ => ?_))); (try simp (disch := first | omega | assumption | ((repeat (first | exact mem_h | exact Up.here | apply mem_t | apply Up.there)); first | done | fail) | (simp; first | done | omega | fail)) [hlt])))
      refine s_app (e := 71) (k := 4) (q := i) (r := 1) (xs := ((l.set i x).take i).flatMap encE) (news := encE x) (by ((repeat (first | exact mem_h | exact Up.here | exact Sel.here | apply mem_t | apply Up.there | apply Sel.there)); first | done | fail)) (RdT.own (by ((repeat (first | exact mem_h | exact Up.here | exact Sel.here | apply mem_t | apply Up.there | apply Sel.there)); first | done | fail))) (by decide) rfl (by simp [encE]) (by simp only [maxLen]; omega) (by omega) fun a' c' => ?_
      (have hQq := trivial; repeat ((first | clear hQq | (with_reducible first | refine T_drw ?_ | refine T_bx fun _ => ?_ | refine s_al fun _ => ?_ | refine s_bs0 fun _ => ?_ | refine s_bs1 (hK := fun _ => ?_) | refine s_bs2 (hK := fun _ => ?_) | refine s_bs3 (hK := fun _ => ?_) | refine s_bs5 (hK := fun _ => ?_) | refine s_bs6 (hK := fun _ => ?_))); (try simp (disch := first | omega | assumption | ((repeat (first | exact mem_h | exact Up.here | apply mem_t | apply Up.there)); first | done | fail) | (simp; first | done | omega | fail)) [])))
      have h2 := hL hlt (a', c') trivial
      rw [hst, List.flatMap_append, show [x].flatMap encE = encE x by simp] at h2
      exact Sels.tw (by ((repeat (first | exact Sels.nil | (apply Sels.cons; · ((repeat (first | exact mem_h | exact Up.here | exact Sel.here | apply mem_t | apply Up.there | apply Sel.there)); first | done | fail)))); first | done | fail)) h2
    · rw [if_neg c1] at hst
      have c1' : ¬ (i : Int) = (at' : Int) := by omega
      (have hQq := trivial; repeat ((first | clear hQq | (with_reducible first | refine T_drw ?_ | refine T_bx fun _ => ?_ | refine s_al fun _ => ?_ | refine s_bs0 fun _ => ?_ | refine s_bs1 (hK := fun _ => ?_) | refine s_bs2 (hK := fun _ => ?_) | refine s_bs3 (hK := fun _ => ?_) | refine s_bs5 (hK := fun _ => ?_) | refine s_bs6 (hK := fun _ => ?_))); (try simp (disch := first | omega | assumption | ((repeat (first | exact mem_h | exact Up.here | apply mem_t | apply Up.there)); first | done | fail) | (simp; first | done | omega | fail)) [hlt, c1, c1', h1])))
      refine s_app (e := 71) (k := 4) (q := i) (r := 1) (xs := ((l.set at' x).take i).flatMap encE) (news := encE l[i]) (by ((repeat (first | exact mem_h | exact Up.here | exact Sel.here | apply mem_t | apply Up.there | apply Sel.there)); first | done | fail)) (RdT.own (by ((repeat (first | exact mem_h | exact Up.here | exact Sel.here | apply mem_t | apply Up.there | apply Sel.there)); first | done | fail))) (by decide) rfl (by simp [encE]) (by simp only [maxLen]; omega) (by omega) fun a' c' => ?_
      (have hQq := trivial; repeat ((first | clear hQq | (with_reducible first | refine T_drw ?_ | refine T_bx fun _ => ?_ | refine s_al fun _ => ?_ | refine s_bs0 fun _ => ?_ | refine s_bs1 (hK := fun _ => ?_) | refine s_bs2 (hK := fun _ => ?_) | refine s_bs3 (hK := fun _ => ?_) | refine s_bs5 (hK := fun _ => ?_) | refine s_bs6 (hK := fun _ => ?_))); (try simp (disch := first | omega | assumption | ((repeat (first | exact mem_h | exact Up.here | apply mem_t | apply Up.there)); first | done | fail) | (simp; first | done | omega | fail)) [])))
      have h2 := hL hlt (a', c') trivial
      rw [hst, List.flatMap_append, show [l[i]].flatMap encE = encE l[i] by simp] at h2
      exact Sels.tw (by ((repeat (first | exact Sels.nil | (apply Sels.cons; · ((repeat (first | exact mem_h | exact Up.here | exact Sel.here | apply mem_t | apply Up.there | apply Sel.there)); first | done | fail)))); first | done | fail)) h2
  · obtain rfl : i = l.length := by omega
    (have hQq := trivial; repeat ((first | clear hQq | (with_reducible first | refine T_drw ?_ | refine T_bx fun _ => ?_ | refine s_al fun _ => ?_ | refine s_bs0 fun _ => ?_ | refine s_bs1 (hK := fun _ => ?_) | refine s_bs2 (hK := fun _ => ?_) | refine s_bs3 (hK := fun _ => ?_) | refine s_bs5 (hK := fun _ => ?_) | refine s_bs6 (hK := fun _ => ?_))); (try simp (disch := first | omega | assumption | ((repeat (first | exact mem_h | exact Up.here | apply mem_t | apply Up.there)); first | done | fail) | (simp; first | done | omega | fail)) [])))
    refine T_rets (.slice ya l.length yc) rfl ?_
    rw [List.take_of_length_le (by simp)]
    simp only [ownE, List.length_set]
    ((repeat (first | exact Sels.nil | (apply Sels.cons; · ((repeat (first | exact mem_h | exact Up.here | exact Sel.here | apply mem_t | apply Up.there | apply Sel.there)); first | done | fail)))); first | done | fail)
theorem put12_ok (w : World) (v : Value) (l : List EnV) (key : ByteArray) (bk dl : Int) (hk : key.size < 2 ^ 60) (hn : l.length ≤ 1000000) (hv : Rd1 w v l.length (l.flatMap encE)) :
    Fn PR NoX 80 #[v, .string key, .int .i64 bk, .int .i64 dl] w (Rn [] w (fun r u => u = .tuple #[if (putE l ⟨1, key, bk, dl⟩).isSome then r else v, .int .i64 (if (putE l ⟨1, key, bk, dl⟩).isSome then 0 else 12)]) fun r => if (putE l ⟨1, key, bk, dl⟩).isSome then [ownE r ((putE l ⟨1, key, bk, dl⟩).getD l)] else []) := by
  refine mk_gangplankref12_Put (TW.go (κ := false) (S := []) ?_)
  unfold sh_gangplankref12_Put
  have hwith : ∀ (q : Nat) (K : Value → WP), putE l ⟨1, key, bk, dl⟩ = some (l.set q ⟨1, key, bk, dl⟩) → (∀ r, TW false [] w [ownE r (l.set q ⟨1, key, bk, dl⟩)] (K r)) → TW false [] w [] (cal PR NoX 125 [v, .int .i64 (q : Int), .agg #[.int .i64 1, .string key, .int .i64 bk, .int .i64 dl]] K) := fun q K _ hK => by
    refine T_cn ent_gangplankref12_with (fun w' hw' => with12_ok w' v l q ⟨1, key, bk, dl⟩ hn (hv.ks hw'.ks (by simp))) ?_
    intro _ r hr
    subst hr
    exact hK r
  refine T_cv ent_gangplankref11_Find (fun w' hw' => find11_ok w' _ l key hk hn (hv.ks hw'.ks (by simp))) ?_
  by_cases c1 : findE l key < 0
  · (have hQq := trivial; repeat ((first | clear hQq | (with_reducible first | refine T_drw ?_ | refine T_bx fun _ => ?_ | refine s_al fun _ => ?_ | refine s_bs0 fun _ => ?_ | refine s_bs1 (hK := fun _ => ?_) | refine s_bs2 (hK := fun _ => ?_) | refine s_bs3 (hK := fun _ => ?_) | refine s_bs5 (hK := fun _ => ?_) | refine s_bs6 (hK := fun _ => ?_))); (try simp (disch := first | omega | assumption | ((repeat (first | exact mem_h | exact Up.here | apply mem_t | apply Up.there)); first | done | fail) | (simp; first | done | omega | fail)) [c1])))
    refine T_cv ent_gangplankref11_Room (fun w' hw' => room11_ok w' _ l key hk hn (hv.ks hw'.ks (by simp))) ?_
    by_cases c2 : roomE l key < 0
    · have e : putE l ⟨1, key, bk, dl⟩ = none := by unfold putE; simp only; rw [if_pos c1, if_pos c2]
      (have hQq := trivial; repeat ((first | clear hQq | (with_reducible first | refine T_drw ?_ | refine T_bx fun _ => ?_ | refine s_al fun _ => ?_ | refine s_bs0 fun _ => ?_ | refine s_bs1 (hK := fun _ => ?_) | refine s_bs2 (hK := fun _ => ?_) | refine s_bs3 (hK := fun _ => ?_) | refine s_bs5 (hK := fun _ => ?_) | refine s_bs6 (hK := fun _ => ?_))); (try simp (disch := first | omega | assumption | ((repeat (first | exact mem_h | exact Up.here | apply mem_t | apply Up.there)); first | done | fail) | (simp; first | done | omega | fail)) [c2])))
      rw [e]
      exact T_rets v (by simp) (by simpa using Sels.nil)
    · have e : putE l ⟨1, key, bk, dl⟩ = some (l.set (roomE l key).toNat ⟨1, key, bk, dl⟩) := by unfold putE; simp only; rw [if_pos c1, if_neg c2]
      (have hQq := trivial; repeat ((first | clear hQq | (with_reducible first | refine T_drw ?_ | refine T_bx fun _ => ?_ | refine s_al fun _ => ?_ | refine s_bs0 fun _ => ?_ | refine s_bs1 (hK := fun _ => ?_) | refine s_bs2 (hK := fun _ => ?_) | refine s_bs3 (hK := fun _ => ?_) | refine s_bs5 (hK := fun _ => ?_) | refine s_bs6 (hK := fun _ => ?_))); (try simp (disch := first | omega | assumption | ((repeat (first | exact mem_h | exact Up.here | apply mem_t | apply Up.there)); first | done | fail) | (simp; first | done | omega | fail)) [c2])))
      rw [show roomE l key = ((roomE l key).toNat : Int) by omega]
      refine hwith _ _ e fun r => ?_
      (have hQq := trivial; repeat ((first | clear hQq | (with_reducible first | refine T_drw ?_ | refine T_bx fun _ => ?_ | refine s_al fun _ => ?_ | refine s_bs0 fun _ => ?_ | refine s_bs1 (hK := fun _ => ?_) | refine s_bs2 (hK := fun _ => ?_) | refine s_bs3 (hK := fun _ => ?_) | refine s_bs5 (hK := fun _ => ?_) | refine s_bs6 (hK := fun _ => ?_))); (try simp (disch := first | omega | assumption | ((repeat (first | exact mem_h | exact Up.here | apply mem_t | apply Up.there)); first | done | fail) | (simp; first | done | omega | fail)) [])))
      rw [e]
      exact T_rets r (by simp) (by simpa using Sels.cons Sel.here Sels.nil)
  · have e : putE l ⟨1, key, bk, dl⟩ = some (l.set (findE l key).toNat ⟨1, key, bk, dl⟩) := by unfold putE; simp only; rw [if_neg c1, if_neg c1]
    (have hQq := trivial; repeat ((first | clear hQq | (with_reducible first | refine T_drw ?_ | refine T_bx fun _ => ?_ | refine s_al fun _ => ?_ | refine s_bs0 fun _ => ?_ | refine s_bs1 (hK := fun _ => ?_) | refine s_bs2 (hK := fun _ => ?_) | refine s_bs3 (hK := fun _ => ?_) | refine s_bs5 (hK := fun _ => ?_) | refine s_bs6 (hK := fun _ => ?_))); (try simp (disch := first | omega | assumption | ((repeat (first | exact mem_h | exact Up.here | apply mem_t | apply Up.there)); first | done | fail) | (simp; first | done | omega | fail)) [c1])))
    rw [show findE l key = ((findE l key).toNat : Int) by omega]
    refine hwith _ _ e fun r => ?_
    (have hQq := trivial; repeat ((first | clear hQq | (with_reducible first | refine T_drw ?_ | refine T_bx fun _ => ?_ | refine s_al fun _ => ?_ | refine s_bs0 fun _ => ?_ | refine s_bs1 (hK := fun _ => ?_) | refine s_bs2 (hK := fun _ => ?_) | refine s_bs3 (hK := fun _ => ?_) | refine s_bs5 (hK := fun _ => ?_) | refine s_bs6 (hK := fun _ => ?_))); (try simp (disch := first | omega | assumption | ((repeat (first | exact mem_h | exact Up.here | apply mem_t | apply Up.there)); first | done | fail) | (simp; first | done | omega | fail)) [])))
    rw [e]
    exact T_rets r (by simp) (by simpa using Sels.cons Sel.here Sels.nil)
theorem bury12_ok (w : World) (v : Value) (l : List EnV) (at' : Nat) (hn : l.length ≤ 1000000) (hv : Rd1 w v l.length (l.flatMap encE)) :
    Fn PR NoX 112 #[v, .int .i64 (at' : Int)] w (Rn [] w (fun r u => u = r) fun r => [ownE r (l.set at' tombE)]) := by
  refine mk_gangplankref12_Bury (TW.go (κ := false) (S := []) ?_)
  unfold sh_gangplankref12_Bury
  (have hQq := trivial; repeat ((first | clear hQq | (with_reducible first | refine T_drw ?_ | refine T_bx fun _ => ?_ | refine s_al fun _ => ?_ | refine s_bs0 fun _ => ?_ | refine s_bs1 (hK := fun _ => ?_) | refine s_bs2 (hK := fun _ => ?_) | refine s_bs3 (hK := fun _ => ?_) | refine s_bs5 (hK := fun _ => ?_) | refine s_bs6 (hK := fun _ => ?_))); (try simp (disch := first | omega | assumption | ((repeat (first | exact mem_h | exact Up.here | apply mem_t | apply Up.there)); first | done | fail) | (simp; first | done | omega | fail)) [])))
  refine T_cn ent_gangplankref12_with (fun w' hw' => with12_ok w' v l at' tombE hn (hv.ks hw'.ks (by simp))) ?_
  intro _ r hr
  subst hr
  exact T_rets r rfl (by ((repeat (first | exact Sels.nil | (apply Sels.cons; · ((repeat (first | exact mem_h | exact Up.here | exact Sel.here | apply mem_t | apply Up.there | apply Sel.there)); first | done | fail)))); first | done | fail))
theorem new12_ok (w : World) (n : Nat) (hn : n ≤ 1000000) : Fn PR NoX 60 #[.int .i64 (n : Int)] w (Rn [] w (fun r u => u = r) fun r => [ownE r (newE n)]) := by
  refine mk_gangplankref12_New (TW.go (κ := false) (S := []) ?_)
  unfold sh_gangplankref12_New
  have e : max 0 (min (n : Int) 64) = ((min n 64 : Nat) : Int) := by omega
  (have hQq := trivial; repeat ((first | clear hQq | (with_reducible first | refine T_drw ?_ | refine T_bx fun _ => ?_ | refine s_al fun _ => ?_ | refine s_bs0 fun _ => ?_ | refine s_bs1 (hK := fun _ => ?_) | refine s_bs2 (hK := fun _ => ?_) | refine s_bs3 (hK := fun _ => ?_) | refine s_bs5 (hK := fun _ => ?_) | refine s_bs6 (hK := fun _ => ?_))); (try simp (disch := first | omega | assumption | ((repeat (first | exact mem_h | exact Up.here | apply mem_t | apply Up.there)); first | done | fail) | (simp; first | done | omega | fail)) [])))
  rw [e]
  refine s_ms (by omega) (by omega) (by omega) (by omega) fun b => ?_
  rw [Int.toNat_natCast, zeroE]
  refine T_rets _ rfl ?_
  simp only [ownE, newE, List.length_replicate]
  ((repeat (first | exact Sels.nil | (apply Sels.cons; · ((repeat (first | exact mem_h | exact Up.here | exact Sel.here | apply mem_t | apply Up.there | apply Sel.there)); first | done | fail)))); first | done | fail)
def tidyI (l : List EnV) (i : Nat) : List EnV := (liveL (l.take i)).foldl (fun acc p => putS acc p.2) (newE l.length)
theorem tidyI_next {l : List EnV} {i : Nat} {x : EnV} (hx : l[i]? = some x) : tidyI l (i + 1) = if x.st = 1 then putS (tidyI l i) x else tidyI l i := by
  unfold tidyI
  rw [liveL_at hx, List.foldl_append]
  split <;> rfl
theorem tidyI_len (l : List EnV) (i : Nat) : (tidyI l i).length = min l.length 64 := by unfold tidyI; rw [tidy_len, newE_len]
theorem tidy12_ok (w : World) (v : Value) (l : List EnV) (hks : KeysOk l) (hn : l.length ≤ 1000000) (hv : Rd1 w v l.length (l.flatMap encE)) :
    Fn PR NoX 161 #[v] w (Rn [] w (fun r u => u = r) fun r => [ownE r (tidyE l)]) := by
  refine mk_gangplankref12_Tidy (TW.go (κ := false) (S := []) ?_)
  unfold sh_gangplankref12_Tidy
  obtain ⟨a, c, rfl, hr⟩ := hv.form
  (have hQq := trivial; repeat ((first | clear hQq | (with_reducible first | refine T_drw ?_ | refine T_bx fun _ => ?_ | refine s_al fun _ => ?_ | refine s_bs0 fun _ => ?_ | refine s_bs1 (hK := fun _ => ?_) | refine s_bs2 (hK := fun _ => ?_) | refine s_bs3 (hK := fun _ => ?_) | refine s_bs5 (hK := fun _ => ?_) | refine s_bs6 (hK := fun _ => ?_))); (try simp (disch := first | omega | assumption | ((repeat (first | exact mem_h | exact Up.here | apply mem_t | apply Up.there)); first | done | fail) | (simp; first | done | omega | fail)) [])))
  refine T_cn ent_gangplankref12_New (fun w' _ => new12_ok w' l.length hn) ?_
  intro _ r0 hr0
  subst hr0
  (have hQq := trivial; repeat ((first | clear hQq | (with_reducible first | refine T_drw ?_ | refine T_bx fun _ => ?_ | refine s_al fun _ => ?_ | refine s_bs0 fun _ => ?_ | refine s_bs1 (hK := fun _ => ?_) | refine s_bs2 (hK := fun _ => ?_) | refine s_bs3 (hK := fun _ => ?_) | refine s_bs5 (hK := fun _ => ?_) | refine s_bs6 (hK := fun _ => ?_))); (try simp (disch := first | omega | assumption | ((repeat (first | exact mem_h | exact Up.here | apply mem_t | apply Up.there)); first | done | fail) | (simp; first | done | omega | fail)) [])))
  refine T_for1 l.length (fun i (r : Value) => r) (fun i r => [ownE r (tidyI l i)]) (fun i r => True) r0 trivial ?_ (by simp [tidyI, liveL, liveF])
  rintro i r hi _ L hL
  by_cases hlt : i < l.length
  · have hx : l[i]? = some l[i] := List.getElem?_eq_getElem hlt
    obtain ⟨b, o, rfl, hrow⟩ := hr (by omega)
    have h0 := hrow.cellAt (f := encE) (k := 4) (j := 0) (fun _ => rfl) hx rfl
    have h1 := hrow.cellAt (f := encE) (k := 4) (j := 1) (fun _ => rfl) hx rfl
    have h2 := hrow.cellAt (f := encE) (k := 4) (j := 2) (fun _ => rfl) hx rfl
    have h3 := hrow.cellAt (f := encE) (k := 4) (j := 3) (fun _ => rfl) hx rfl
    have hst := tidyI_next hx
    have hkx : l[i].key.size < 2 ^ 60 := hks _ (List.getElem_mem hlt)
    have hlen := tidyI_len l i
    by_cases c1 : l[i].st = 1
    · rw [if_pos c1] at hst
      (have hQq := trivial; repeat ((first | clear hQq | (with_reducible first | refine T_drw ?_ | refine T_bx fun _ => ?_ | refine s_al fun _ => ?_ | refine s_bs0 fun _ => ?_ | refine s_bs1 (hK := fun _ => ?_) | refine s_bs2 (hK := fun _ => ?_) | refine s_bs3 (hK := fun _ => ?_) | refine s_bs5 (hK := fun _ => ?_) | refine s_bs6 (hK := fun _ => ?_))); (try simp (disch := first | omega | assumption | ((repeat (first | exact mem_h | exact Up.here | apply mem_t | apply Up.there)); first | done | fail) | (simp; first | done | omega | fail)) [hlt, h0, h1, h2, h3, c1])))
      refine T_cn ent_gangplankref12_Put (fun w' hw' => put12_ok w' r (tidyI l i) l[i].key l[i].bk l[i].dl hkx (by omega) (RdT.own (by ((repeat (first | exact mem_h | exact Up.here | exact Sel.here | apply mem_t | apply Up.there | apply Sel.there)); first | done | fail)) w' hw')) ?_
      have hxe : (⟨1, l[i].key, l[i].bk, l[i].dl⟩ : EnV) = l[i] := by cases hl : l[i]; rw [hl] at c1; simp only at c1; subst c1; rfl
      rintro r2 _ rfl
      rw [hxe]
      cases hp : putE (tidyI l i) l[i] with
      | none =>
        have e2 : putS (tidyI l i) l[i] = tidyI l i := by unfold putS; rw [hp]; rfl
        (have hQq := trivial; repeat ((first | clear hQq | (with_reducible first | refine T_drw ?_ | refine T_bx fun _ => ?_ | refine s_al fun _ => ?_ | refine s_bs0 fun _ => ?_ | refine s_bs1 (hK := fun _ => ?_) | refine s_bs2 (hK := fun _ => ?_) | refine s_bs3 (hK := fun _ => ?_) | refine s_bs5 (hK := fun _ => ?_) | refine s_bs6 (hK := fun _ => ?_))); (try simp (disch := first | omega | assumption | ((repeat (first | exact mem_h | exact Up.here | apply mem_t | apply Up.there)); first | done | fail) | (simp; first | done | omega | fail)) [])))
        have h := hL hlt r trivial
        rw [hst, e2] at h
        exact Sels.tw (by ((repeat (first | exact Sels.nil | (apply Sels.cons; · ((repeat (first | exact mem_h | exact Up.here | exact Sel.here | apply mem_t | apply Up.there | apply Sel.there)); first | done | fail)))); first | done | fail)) h
      | some u =>
        have e2 : putS (tidyI l i) l[i] = u := by unfold putS; rw [hp]; rfl
        (have hQq := trivial; repeat ((first | clear hQq | (with_reducible first | refine T_drw ?_ | refine T_bx fun _ => ?_ | refine s_al fun _ => ?_ | refine s_bs0 fun _ => ?_ | refine s_bs1 (hK := fun _ => ?_) | refine s_bs2 (hK := fun _ => ?_) | refine s_bs3 (hK := fun _ => ?_) | refine s_bs5 (hK := fun _ => ?_) | refine s_bs6 (hK := fun _ => ?_))); (try simp (disch := first | omega | assumption | ((repeat (first | exact mem_h | exact Up.here | apply mem_t | apply Up.there)); first | done | fail) | (simp; first | done | omega | fail)) [])))
        have h := hL hlt r2 trivial
        rw [hst, e2] at h
        exact Sels.tw (by ((repeat (first | exact Sels.nil | (apply Sels.cons; · ((repeat (first | exact mem_h | exact Up.here | exact Sel.here | apply mem_t | apply Up.there | apply Sel.there)); first | done | fail)))); first | done | fail)) h
    · rw [if_neg c1] at hst
      (have hQq := trivial; repeat ((first | clear hQq | (with_reducible first | refine T_drw ?_ | refine T_bx fun _ => ?_ | refine s_al fun _ => ?_ | refine s_bs0 fun _ => ?_ | refine s_bs1 (hK := fun _ => ?_) | refine s_bs2 (hK := fun _ => ?_) | refine s_bs3 (hK := fun _ => ?_) | refine s_bs5 (hK := fun _ => ?_) | refine s_bs6 (hK := fun _ => ?_))); (try simp (disch := first | omega | assumption | ((repeat (first | exact mem_h | exact Up.here | apply mem_t | apply Up.there)); first | done | fail) | (simp; first | done | omega | fail)) [hlt, h0, c1])))
      have h := hL hlt r trivial
      rw [hst] at h
      exact Sels.tw (by ((repeat (first | exact Sels.nil | (apply Sels.cons; · ((repeat (first | exact mem_h | exact Up.here | exact Sel.here | apply mem_t | apply Up.there | apply Sel.there)); first | done | fail)))); first | done | fail)) h
  · obtain rfl : i = l.length := by omega
    have e : tidyI l l.length = tidyE l := by unfold tidyI tidyE; rw [List.take_length]
    (have hQq := trivial; repeat ((first | clear hQq | (with_reducible first | refine T_drw ?_ | refine T_bx fun _ => ?_ | refine s_al fun _ => ?_ | refine s_bs0 fun _ => ?_ | refine s_bs1 (hK := fun _ => ?_) | refine s_bs2 (hK := fun _ => ?_) | refine s_bs3 (hK := fun _ => ?_) | refine s_bs5 (hK := fun _ => ?_) | refine s_bs6 (hK := fun _ => ?_))); (try simp (disch := first | omega | assumption | ((repeat (first | exact mem_h | exact Up.here | apply mem_t | apply Up.there)); first | done | fail) | (simp; first | done | omega | fail)) [])))
    rw [e]
    exact T_rets r rfl (by ((repeat (first | exact Sels.nil | (apply Sels.cons; · ((repeat (first | exact mem_h | exact Up.here | exact Sel.here | apply mem_t | apply Up.there | apply Sel.there)); first | done | fail)))); first | done | fail))
theorem settle12_ok (w : World) (v : Value) (l : List EnV) (hks : KeysOk l) (hn : l.length ≤ 1000000) (hv : Rd1 w v l.length (l.flatMap encE)) :
    Fn PR NoX 113 #[v] w (Rn [] w (fun r u => u = if l.length < 2 * countE l 2 then r else v) fun r => if l.length < 2 * countE l 2 then [ownE r (settleE l)] else []) := by
  refine mk_gangplankref12_Settle (TW.go (κ := false) (S := []) ?_)
  unfold sh_gangplankref12_Settle
  obtain ⟨a, c, rfl, hr⟩ := hv.form
  refine T_cv ent_gangplankref11_Count (fun w' hw' => count11_ok w' _ l 2 hn (hv.ks hw'.ks (by simp))) ?_
  have hle : countE l 2 ≤ l.length := List.countP_le_length
  have hw2 : IntKind.i64.wrap (2 * ((countE l 2 : Nat) : Int)) = 2 * ((countE l 2 : Nat) : Int) := wrap64 (by omega) (by omega)
  by_cases c1 : l.length < 2 * countE l 2
  · have c1' : (l.length : Int) < 2 * ((countE l 2 : Nat) : Int) := by omega
    have e : settleE l = tidyE l := by unfold settleE; rw [if_pos c1]
    (have hQq := trivial; repeat ((first | clear hQq | (with_reducible first | refine T_drw ?_ | refine T_bx fun _ => ?_ | refine s_al fun _ => ?_ | refine s_bs0 fun _ => ?_ | refine s_bs1 (hK := fun _ => ?_) | refine s_bs2 (hK := fun _ => ?_) | refine s_bs3 (hK := fun _ => ?_) | refine s_bs5 (hK := fun _ => ?_) | refine s_bs6 (hK := fun _ => ?_))); (try simp (disch := first | omega | assumption | ((repeat (first | exact mem_h | exact Up.here | apply mem_t | apply Up.there)); first | done | fail) | (simp; first | done | omega | fail)) [hw2, c1'])))
    refine T_cn ent_gangplankref12_Tidy (fun w' hw' => tidy12_ok w' _ l hks hn (hv.ks hw'.ks (by simp))) ?_
    intro _ r hr
    subst hr
    refine T_rets r (by simp [c1]) ?_
    rw [if_pos c1, e]
    ((repeat (first | exact Sels.nil | (apply Sels.cons; · ((repeat (first | exact mem_h | exact Up.here | exact Sel.here | apply mem_t | apply Up.there | apply Sel.there)); first | done | fail)))); first | done | fail)
  · have c1' : ¬ (l.length : Int) < 2 * ((countE l 2 : Nat) : Int) := by omega
    (have hQq := trivial; repeat ((first | clear hQq | (with_reducible first | refine T_drw ?_ | refine T_bx fun _ => ?_ | refine s_al fun _ => ?_ | refine s_bs0 fun _ => ?_ | refine s_bs1 (hK := fun _ => ?_) | refine s_bs2 (hK := fun _ => ?_) | refine s_bs3 (hK := fun _ => ?_) | refine s_bs5 (hK := fun _ => ?_) | refine s_bs6 (hK := fun _ => ?_))); (try simp (disch := first | omega | assumption | ((repeat (first | exact mem_h | exact Up.here | apply mem_t | apply Up.there)); first | done | fail) | (simp; first | done | omega | fail)) [hw2, c1'])))
    refine T_rets .nilIface (by simp [c1]) ?_
    rw [if_neg c1]
    exact Sels.nil
theorem settle_own {w : World} {H : List Res} {K : Value → WP} {r : Value} {l : List EnV} (hks : KeysOk l) (hn : l.length ≤ 1000000) (hK : ∀ r, TW false [] w (ownE r (settleE l) :: H) (K r)) :
    TW false [] w (ownE r l :: H) (cal PR NoX 113 [r] K) := by
  refine T_cn ent_gangplankref12_Settle (fun w' hw' => settle12_ok w' r l hks hn (RdT.own mem_h w' hw')) ?_
  rintro r2 _ rfl
  by_cases c1 : l.length < 2 * countE l 2
  · rw [if_pos c1, if_pos c1]
    exact TW.sub (hK r2) (List.Sublist.cons_cons _ (List.sublist_cons_self ..))
  · rw [if_neg c1, if_neg c1]
    have e : settleE l = l := by unfold settleE; rw [if_neg c1]
    have := hK r
    rw [e] at this
    exact this
theorem delete12_ok (w : World) (v : Value) (l : List EnV) (key : ByteArray) (hk : key.size < 2 ^ 60) (hks : KeysOk l) (hn : l.length ≤ 1000000) (hv : Rd1 w v l.length (l.flatMap encE)) :
    Fn PR NoX 79 #[v, .string key] w (Rn [] w (fun r u => u = .tuple #[if (del0 l key).isSome then r else v, .bool (del0 l key).isSome]) fun r => if (del0 l key).isSome then [ownE r (delE l key)] else []) := by
  refine mk_gangplankref12_Delete (TW.go (κ := false) (S := []) ?_)
  unfold sh_gangplankref12_Delete
  refine T_cv ent_gangplankref11_Find (fun w' hw' => find11_ok w' _ l key hk hn (hv.ks hw'.ks (by simp))) ?_
  by_cases c1 : findE l key < 0
  · have e : del0 l key = none := by unfold del0; rw [if_pos c1]
    (have hQq := trivial; repeat ((first | clear hQq | (with_reducible first | refine T_drw ?_ | refine T_bx fun _ => ?_ | refine s_al fun _ => ?_ | refine s_bs0 fun _ => ?_ | refine s_bs1 (hK := fun _ => ?_) | refine s_bs2 (hK := fun _ => ?_) | refine s_bs3 (hK := fun _ => ?_) | refine s_bs5 (hK := fun _ => ?_) | refine s_bs6 (hK := fun _ => ?_))); (try simp (disch := first | omega | assumption | ((repeat (first | exact mem_h | exact Up.here | apply mem_t | apply Up.there)); first | done | fail) | (simp; first | done | omega | fail)) [c1])))
    exact T_rets .nilIface (by simp [e]) (by rw [e]; exact Sels.nil)
  · have e : del0 l key = some (l.set (findE l key).toNat tombE) := by unfold del0; rw [if_neg c1]
    have e2 : delE l key = settleE (l.set (findE l key).toNat tombE) := by unfold delE; rw [e]
    (have hQq := trivial; repeat ((first | clear hQq | (with_reducible first | refine T_drw ?_ | refine T_bx fun _ => ?_ | refine s_al fun _ => ?_ | refine s_bs0 fun _ => ?_ | refine s_bs1 (hK := fun _ => ?_) | refine s_bs2 (hK := fun _ => ?_) | refine s_bs3 (hK := fun _ => ?_) | refine s_bs5 (hK := fun _ => ?_) | refine s_bs6 (hK := fun _ => ?_))); (try simp (disch := first | omega | assumption | ((repeat (first | exact mem_h | exact Up.here | apply mem_t | apply Up.there)); first | done | fail) | (simp; first | done | omega | fail)) [c1])))
    have hq : findE l key = ((findE l key).toNat : Int) := by omega
    rw [hq]
    refine T_cn ent_gangplankref12_Bury (fun w' hw' => bury12_ok w' v l (findE l key).toNat hn (hv.ks hw'.ks (by simp))) ?_
    intro _ r hr
    subst hr
    refine settle_own (keys_set hks tomb_key) (by simpa using hn) fun r2 => ?_
    refine T_rets r2 (by simp [e]) ?_
    simp only [e, Option.isSome_some, if_true, e2]
    ((repeat (first | exact Sels.nil | (apply Sels.cons; · ((repeat (first | exact mem_h | exact Up.here | exact Sel.here | apply mem_t | apply Up.there | apply Sel.there)); first | done | fail)))); first | done | fail)
end Go.Proofs.YtggakcpabomliaaGreat
namespace Go.Proofs.YtggakcpabomliaaGreat
open Go
def sh_gangplankref09_Of (X : Nat → Prop) (t0 : Value) (R : Value → WP) : WP :=
  jn (n := 2) (fun t3 t4 =>
  cal PR X 166 [t3] fun t41 =>
  R t41) fun J1 =>
  lp (n := 2) (fun L2 t3_1 t4_1 =>
  jn (n := 0) (
  jn (n := 2) (fun t3_2 t5 =>
  pur PR (binOp .add 3 t4_1 (.int .i64 1)) fun t11 =>
  L2 t3_2 t11) fun J3 =>
  lp (n := 2) (fun L4 t3_3 t5_1 =>
  jn (n := 0) (
  jn (n := 1) (fun t3_4 =>
  pur PR (binOp .add 3 t5_1 (.int .i64 1)) fun t23 =>
  L4 t3_4 t23) fun J5 =>
  drw <|
  pur PR (Instr.indexAt 32 t0 t4_1) fun t27 =>
  pur PR (Instr.fieldAt 103 t27 0) fun t28 =>
  rds PR (Instr.loadAt 3 t28) fun t29 =>
  pur PR (Instr.indexAt 32 t0 t4_1) fun t34 =>
  pur PR (Instr.fieldAt 103 t34 0) fun t35 =>
  rds PR (Instr.loadAt 3 t35) fun t36 =>
  cal PR X 165 [t29, t5_1] fun t31 =>
  watch PR [(none, (Instr.loadAt 3 t35), t36)] <|
  pur PR (Instr.build 199 #[(0, t31), (1, t36)]) fun t37 =>
  lou PR X (Instr.buildSlice 146 1 #[(0, t37)]) fun t38 =>
  lou PR X (builtinS .append #[146, 146] 146 [t3_3, t38]) fun t39 =>
  J5 t39) fun J6 =>
  pur PR (Instr.indexAt 32 t0 t4_1) fun t15 =>
  pur PR (Instr.fieldAt 103 t15 1) fun t16 =>
  rds PR (Instr.loadAt 3 t16) fun t17 =>
  pur PR (builtinS .min #[3, 3] 0 [t17, (.int .i64 16)]) fun t18 =>
  pur PR (builtinS .max #[3, 3] 0 [(.int .i64 0), t18]) fun t19 =>
  pur PR (binOp .mul 3 (.int .i64 8) t19) fun t20 =>
  pur PR (binOp .lss 3 t5_1 t20) fun t21 =>
  cnd t21 (
  J6) (
  J3 t3_3 t5_1)) t3_1 (.int .i64 0)) fun J7 =>
  pur PR (builtinS .len #[32] 0 [t0]) fun t8 =>
  pur PR (binOp .lss 3 t4_1 t8) fun t9 =>
  cnd t9 (
  J7) (
  J1 t3_1 t4_1)) (.slice none 0 0) (.int .i64 0)
theorem sh_gangplankref09_Of_eq (X : Nat → Prop) (t0 : Value) (R : Value → WP) : vcFun PR X Tryz.f122 [t0] R = sh_gangplankref09_Of X t0 R := by kernel_rfl
theorem ent_gangplankref09_Of : Enters PR 122 := enters_of Tryz.func122 (by kernel_rfl) rfl
theorem mk_gangplankref09_Of {X : Nat → Prop} {t0 : Value} {R : Value → WP} {w : World} (h : sh_gangplankref09_Of X t0 R w) : Fn PR X 122 #[t0] w R := fn_of_vc (args := [t0]) mixed Tryz.func122 (by rw [sh_gangplankref09_Of_eq]; exact h)
def sh_gangplankref09_Hash (X : Nat → Prop) (t0 t1 : Value) (R : Value → WP) : WP :=
  pur PR (convert 3 68 t0) fun t6 =>
  cal PR X 159 [t6, (.int .i64 4)] fun t7 =>
  pur PR (convert 3 68 t1) fun t9 =>
  cal PR X 159 [t9, (.int .i64 2)] fun t10 =>
  pur PR (binOp .add 9 t7 t10) fun t11 =>
  pur PR (binOp .add 9 t11 (.string (ByteArray.mk #[0, 0, 0, 0]))) fun t12 =>
  cal PR X 78 [t12] fun t13 =>
  R t13
theorem sh_gangplankref09_Hash_eq (X : Nat → Prop) (t0 t1 : Value) (R : Value → WP) : vcFun PR X Tryz.f165 [t0, t1] R = sh_gangplankref09_Hash X t0 t1 R := by kernel_rfl
theorem ent_gangplankref09_Hash : Enters PR 165 := enters_of Tryz.func165 (by kernel_rfl) rfl
theorem mk_gangplankref09_Hash {X : Nat → Prop} {t0 t1 : Value} {R : Value → WP} {w : World} (h : sh_gangplankref09_Hash X t0 t1 R w) : Fn PR X 165 #[t0, t1] w R := fn_of_vc (args := [t0, t1]) mixed Tryz.func165 (by rw [sh_gangplankref09_Hash_eq]; exact h)
def sh_gangplankref09_sort (X : Nat → Prop) (t0 : Value) (R : Value → WP) : WP :=
  jn (n := 1) (fun t2 =>
  pur PR (builtinS .len #[146] 0 [t0]) fun t9 =>
  pur PR (binOp .quo 3 t9 (.int .i64 2)) fun t10 =>
  drw <|
  pur PR (Instr.sliceAt 146 t0 none (some t10) none) fun t13 =>
  pur PR (Instr.sliceAt 146 t0 (some t10) none none) fun t17 =>
  cal PR X 166 [t13] fun t14 =>
  cal PR X 166 [t17] fun t18 =>
  cal PR X 196 [t14, t18] fun t19 =>
  R t19) fun J1 =>
  pur PR (builtinS .len #[146] 0 [t0]) fun t5 =>
  pur PR (binOp .lss 3 t5 (.int .i64 2)) fun t6 =>
  cnd t6 (
  R t0) (
  J1 (.slice none 0 0))
theorem sh_gangplankref09_sort_eq (X : Nat → Prop) (t0 : Value) (R : Value → WP) : vcFun PR X Tryz.f166 [t0] R = sh_gangplankref09_sort X t0 R := by kernel_rfl
theorem ent_gangplankref09_sort : Enters PR 166 := enters_of Tryz.func166 (by kernel_rfl) rfl
theorem mk_gangplankref09_sort {X : Nat → Prop} {t0 : Value} {R : Value → WP} {w : World} (h : sh_gangplankref09_sort X t0 R w) : Fn PR X 166 #[t0] w R := fn_of_vc (args := [t0]) mixed Tryz.func166 (by rw [sh_gangplankref09_sort_eq]; exact h)
def sh_gangplankref09_merge (X : Nat → Prop) (t0 t1 : Value) (R : Value → WP) : WP :=
  jn (n := 3) (fun t6 t5 t7 =>
  R t5) fun J1 =>
  lp (n := 3) (fun L2 t6_1 t5_1 t7_1 =>
  jn (n := 0) (
  drw <|
  pur PR (builtinS .len #[146] 0 [t1]) fun t20 =>
  pur PR (binOp .geq 3 t7_1 t20) fun t21 =>
  gj t21 false (fun J => J t6_1) fun t23 =>
  gj t21 false (fun J => J t0) fun t24 =>
  gj t21 false (fun J => pur PR (builtinS .len #[146] 0 [t24]) J) fun t25 =>
  gj t21 false (fun J => pur PR (binOp .lss 3 t23 t25) J) fun t26 =>
  gj t21 false (fun J => J t26) fun t27 =>
  gj t27 true (fun J => J t1) fun t28 =>
  gj t27 true (fun J => J t7_1) fun t29 =>
  gj t27 true (fun J => pur PR (Instr.indexAt 146 t28 t29) J) fun t30 =>
  gj t27 true (fun J => rds PR (Instr.loadAt 199 t30) J) fun t31 =>
  gj t27 true (fun J => J t0) fun t32 =>
  gj t27 true (fun J => J t6_1) fun t33 =>
  gj t27 true (fun J => pur PR (Instr.indexAt 146 t32 t33) J) fun t34 =>
  gj t27 true (fun J => rds PR (Instr.loadAt 199 t34) J) fun t35 =>
  gj t27 true (fun J => cal PR X 216 [t31, t35] J) fun t36 =>
  gj t27 true (fun J => pur PR (Op.unary .not t36) J) fun t37 =>
  gj t21 false (fun J => pur PR (do pure (if ← asBool t27 then t37 else (.bool false))) J) fun t38 =>
  pur PR (do pure (if ← asBool t21 then (.bool true) else t38)) fun t39 =>
  cnd t39 (
  pur PR (Instr.indexAt 146 t0 t6_1) fun t43 =>
  rds PR (Instr.loadAt 199 t43) fun t44 =>
  lou PR X (Instr.buildSlice 146 1 #[(0, t44)]) fun t45 =>
  lou PR X (builtinS .append #[146, 146] 146 [t5_1, t45]) fun t46 =>
  pur PR (binOp .add 3 t6_1 (.int .i64 1)) fun t48 =>
  L2 t48 t46 t7_1) (
  pur PR (Instr.indexAt 146 t1 t7_1) fun t52 =>
  rds PR (Instr.loadAt 199 t52) fun t53 =>
  lou PR X (Instr.buildSlice 146 1 #[(0, t53)]) fun t54 =>
  lou PR X (builtinS .append #[146, 146] 146 [t5_1, t54]) fun t55 =>
  pur PR (binOp .add 3 t7_1 (.int .i64 1)) fun t57 =>
  L2 t6_1 t55 t57)) fun J3 =>
  pur PR (builtinS .len #[146] 0 [t0]) fun t10 =>
  pur PR (binOp .lss 3 t6_1 t10) fun t11 =>
  gj t11 false (fun J => J t7_1) fun t13 =>
  gj t11 false (fun J => J t1) fun t14 =>
  gj t11 false (fun J => pur PR (builtinS .len #[146] 0 [t14]) J) fun t15 =>
  gj t11 false (fun J => pur PR (binOp .lss 3 t13 t15) J) fun t16 =>
  pur PR (do pure (if ← asBool t11 then (.bool true) else t16)) fun t17 =>
  cnd t17 (
  J3) (
  J1 t6_1 t5_1 t7_1)) (.int .i64 0) (.slice none 0 0) (.int .i64 0)
theorem sh_gangplankref09_merge_eq (X : Nat → Prop) (t0 t1 : Value) (R : Value → WP) : vcFun PR X Tryz.f196 [t0, t1] R = sh_gangplankref09_merge X t0 t1 R := by kernel_rfl
theorem ent_gangplankref09_merge : Enters PR 196 := enters_of Tryz.func196 (by kernel_rfl) rfl
theorem mk_gangplankref09_merge {X : Nat → Prop} {t0 t1 : Value} {R : Value → WP} {w : World} (h : sh_gangplankref09_merge X t0 t1 R w) : Fn PR X 196 #[t0, t1] w R := fn_of_vc (args := [t0, t1]) mixed Tryz.func196 (by rw [sh_gangplankref09_merge_eq]; exact h)
def sh_gangplankref09_Less (X : Nat → Prop) (t0 t1 : Value) (R : Value → WP) : WP :=
  lou PR X (Instr.box 199 t0) fun t2 =>
  lou PR X (Instr.box 199 t1) fun t3 =>
  pur PR (Instr.fieldAt 199 t2 0) fun t5 =>
  rds PR (Instr.loadAt 68 t5) fun t6 =>
  pur PR (Instr.fieldAt 199 t3 0) fun t7 =>
  rds PR (Instr.loadAt 68 t7) fun t8 =>
  pur PR (binOp .lss 68 t6 t8) fun t9 =>
  gj t9 false (fun J => pur PR (Instr.fieldAt 199 t2 0) J) fun t11 =>
  gj t9 false (fun J => rds PR (Instr.loadAt 68 t11) J) fun t12 =>
  gj t9 false (fun J => pur PR (Instr.fieldAt 199 t3 0) J) fun t13 =>
  gj t9 false (fun J => rds PR (Instr.loadAt 68 t13) J) fun t14 =>
  gj t9 false (fun J => pur PR (binOp .eql 68 t12 t14) J) fun t15 =>
  gj t9 false (fun J => J t15) fun t16 =>
  gj t16 true (fun J => pur PR (Instr.fieldAt 199 t2 1) J) fun t17 =>
  gj t16 true (fun J => rds PR (Instr.loadAt 3 t17) J) fun t18 =>
  gj t16 true (fun J => pur PR (Instr.fieldAt 199 t3 1) J) fun t19 =>
  gj t16 true (fun J => rds PR (Instr.loadAt 3 t19) J) fun t20 =>
  gj t16 true (fun J => pur PR (binOp .lss 3 t18 t20) J) fun t21 =>
  gj t9 false (fun J => pur PR (do pure (if ← asBool t16 then t21 else (.bool false))) J) fun t22 =>
  pur PR (do pure (if ← asBool t9 then (.bool true) else t22)) fun t23 =>
  R t23
theorem sh_gangplankref09_Less_eq (X : Nat → Prop) (t0 t1 : Value) (R : Value → WP) : vcFun PR X Tryz.f216 [t0, t1] R = sh_gangplankref09_Less X t0 t1 R := by kernel_rfl
theorem ent_gangplankref09_Less : Enters PR 216 := enters_of Tryz.func216 (by kernel_rfl) rfl
theorem mk_gangplankref09_Less {X : Nat → Prop} {t0 t1 : Value} {R : Value → WP} {w : World} (h : sh_gangplankref09_Less X t0 t1 R w) : Fn PR X 216 #[t0, t1] w R := fn_of_vc (args := [t0, t1]) mixed Tryz.func216 (by rw [sh_gangplankref09_Less_eq]; exact h)
end Go.Proofs.YtggakcpabomliaaGreat
namespace Go.Proofs.YtggakcpabomliaaGreat
open Go
def sh_gangplankref10_Pick (X : Nat → Prop) (t0 t1 : Value) (R : Value → WP) : WP :=
  cal PR X 122 [t0] fun t6 =>
  cal PR X 121 [t6, t1] fun t8 =>
  R t8
theorem sh_gangplankref10_Pick_eq (X : Nat → Prop) (t0 t1 : Value) (R : Value → WP) : vcFun PR X Tryz.f77 [t0, t1] R = sh_gangplankref10_Pick X t0 t1 R := by kernel_rfl
theorem ent_gangplankref10_Pick : Enters PR 77 := enters_of Tryz.func77 (by kernel_rfl) rfl
theorem mk_gangplankref10_Pick {X : Nat → Prop} {t0 t1 : Value} {R : Value → WP} {w : World} (h : sh_gangplankref10_Pick X t0 t1 R w) : Fn PR X 77 #[t0, t1] w R := fn_of_vc (args := [t0, t1]) mixed Tryz.func77 (by rw [sh_gangplankref10_Pick_eq]; exact h)
def sh_gangplankref10_Succ (X : Nat → Prop) (t0 t1 : Value) (R : Value → WP) : WP :=
  jn (n := 2) (fun t4 t5 =>
  jn (n := 1) (fun t4_1 =>
  pur PR (Instr.indexAt 146 t0 (.int .i64 0)) fun t28 =>
  pur PR (Instr.fieldAt 199 t28 1) fun t29 =>
  rds PR (Instr.loadAt 3 t29) fun t30 =>
  R t30) fun J1 =>
  pur PR (builtinS .len #[146] 0 [t0]) fun t25 =>
  pur PR (binOp .eql 3 t25 (.int .i64 0)) fun t26 =>
  cnd t26 (
  R (.int .i64 (-1))) (
  J1 t4)) fun J2 =>
  lp (n := 2) (fun L3 t4_2 t5_1 =>
  jn (n := 0) (
  jn (n := 1) (fun t4_3 =>
  pur PR (binOp .add 3 t5_1 (.int .i64 1)) fun t11 =>
  L3 t4_3 t11) fun J4 =>
  pur PR (Instr.indexAt 146 t0 t5_1) fun t14 =>
  pur PR (Instr.fieldAt 199 t14 0) fun t15 =>
  rds PR (Instr.loadAt 68 t15) fun t16 =>
  pur PR (binOp .geq 68 t16 t1) fun t18 =>
  cnd t18 (
  pur PR (Instr.indexAt 146 t0 t5_1) fun t21 =>
  pur PR (Instr.fieldAt 199 t21 1) fun t22 =>
  rds PR (Instr.loadAt 3 t22) fun t23 =>
  R t23) (
  J4 t4_2)) fun J5 =>
  pur PR (builtinS .len #[146] 0 [t0]) fun t8 =>
  pur PR (binOp .lss 3 t5_1 t8) fun t9 =>
  cnd t9 (
  J5) (
  J2 t4_2 t5_1)) (.int .i64 0) (.int .i64 0)
theorem sh_gangplankref10_Succ_eq (X : Nat → Prop) (t0 t1 : Value) (R : Value → WP) : vcFun PR X Tryz.f121 [t0, t1] R = sh_gangplankref10_Succ X t0 t1 R := by kernel_rfl
theorem ent_gangplankref10_Succ : Enters PR 121 := enters_of Tryz.func121 (by kernel_rfl) rfl
theorem mk_gangplankref10_Succ {X : Nat → Prop} {t0 t1 : Value} {R : Value → WP} {w : World} (h : sh_gangplankref10_Succ X t0 t1 R w) : Fn PR X 121 #[t0, t1] w R := fn_of_vc (args := [t0, t1]) mixed Tryz.func121 (by rw [sh_gangplankref10_Succ_eq]; exact h)
end Go.Proofs.YtggakcpabomliaaGreat
namespace Go.Proofs.YtggakcpabomliaaGreat
open Go
def sh_gangplankref01_Put (X : Nat → Prop) (t0 t1 : Value) (R : Value → WP) : WP :=
  jn (n := 1) (fun t4 =>
  jn (n := 3) (fun t5 t0_1 t6 =>
  R t5) fun J1 =>
  lp (n := 3) (fun L2 t5_1 t0_2 t6_1 =>
  jn (n := 0) (
  jn (n := 2) (fun t5_2 t0_3 =>
  pur PR (binOp .add 3 t6_1 (.int .i64 1)) fun t17 =>
  L2 t5_2 t0_3 t17) fun J3 =>
  pur PR (binOp .rem 68 t0_2 (.int .u64 256)) fun t19 =>
  pur PR (convert 68 5 t19) fun t20 =>
  lou PR X (Instr.buildSlice 218 1 #[(0, t20)]) fun t21 =>
  rds PR (convert 218 9 t21) fun t22 =>
  pur PR (binOp .add 9 t22 t5_1) fun t24 =>
  pur PR (binOp .quo 68 t0_2 (.int .u64 256)) fun t26 =>
  J3 t24 t26) fun J4 =>
  pur PR (binOp .lss 3 t6_1 t1) fun t15 =>
  cnd t15 (
  J4) (
  J1 t5_1 t0_2 t6_1)) (.string (ByteArray.mk #[])) t0 (.int .i64 0)) fun J5 =>
  pur PR (binOp .lss 3 t1 (.int .i64 1)) fun t8 =>
  gj t8 false (fun J => J t1) fun t10 =>
  gj t8 false (fun J => pur PR (binOp .gtr 3 t10 (.int .i64 8)) J) fun t11 =>
  pur PR (do pure (if ← asBool t8 then (.bool true) else t11)) fun t12 =>
  cnd t12 (
  R (.string (ByteArray.mk #[]))) (
  J5 (.string (ByteArray.mk #[])))
theorem sh_gangplankref01_Put_eq (X : Nat → Prop) (t0 t1 : Value) (R : Value → WP) : vcFun PR X Tryz.f159 [t0, t1] R = sh_gangplankref01_Put X t0 t1 R := by kernel_rfl
theorem ent_gangplankref01_Put : Enters PR 159 := enters_of Tryz.func159 (by kernel_rfl) rfl
theorem mk_gangplankref01_Put {X : Nat → Prop} {t0 t1 : Value} {R : Value → WP} {w : World} (h : sh_gangplankref01_Put X t0 t1 R w) : Fn PR X 159 #[t0, t1] w R := fn_of_vc (args := [t0, t1]) mixed Tryz.func159 (by rw [sh_gangplankref01_Put_eq]; exact h)
end Go.Proofs.YtggakcpabomliaaGreat
namespace Go.Proofs.YtggakcpabomliaaGreat
open Go
theorem bytesOf_app (a b : List Int) : bytesOf a ++ bytesOf b = bytesOf (a ++ b) := by
  apply ByteArray.ext
  apply Array.toList_inj.1
  rw [ByteArray.data_append, Array.toList_append, bytesOf_data, bytesOf_data, bytesOf_data, List.map_append]
def tailL (v n i : Nat) : List Int := (List.range' (n - i) i).map (laneV v n)
theorem tailL_next {v n i : Nat} (h : i < n) : tailL v n (i + 1) = laneV v n (n - 1 - i) :: tailL v n i := by
  unfold tailL
  rw [List.range'_succ, List.map_cons, show n - (i + 1) = n - 1 - i by omega, show n - 1 - i + 1 = n - i by omega]
theorem laneV_nat {v n i : Nat} (hn : n ≤ 8) (h : i < n) : laneV v n (n - 1 - i) = ((v / 256 ^ i % 256 : Nat) : Int) := by
  unfold laneV
  have e1 : (8 * ((n : Int) - 1 - ((n - 1 - i : Nat) : Int))).toNat = 8 * i := by omega
  rw [e1, show min (8 * i) IntKind.u64.bits = 8 * i from Nat.min_eq_left (by show 8 * i ≤ 64; omega)]
  rw [show ((2 : Int) ^ (8 * i)) = ((256 ^ i : Nat) : Int) by rw [Int.pow_mul, Int.natCast_pow]; rfl,
    show (v : Int).fdiv ((256 ^ i : Nat) : Int) = ((v / 256 ^ i : Nat) : Int) by rw [Int.fdiv_eq_ediv_of_nonneg _ (Int.natCast_nonneg _)]; rfl]
  generalize v / 256 ^ i = q
  simp only [IntKind.wrap, IntKind.bits, IntKind.signed]
  simp
theorem put1_ok (w : World) (v : Nat) (n : Int) (hv : v < 2 ^ 64) : Fn PR NoX 159 #[.int .u64 (v : Int), .int .i64 n] w (fun u w' => u = .string (putV v n) ∧ But [] w w') := by
  refine Fn.pure (mk_gangplankref01_Put (TW.go (κ := false) (S := []) ?_))
  unfold sh_gangplankref01_Put
  by_cases hok : 1 ≤ n ∧ n ≤ 8
  case neg =>
    have hv : putV v n = ByteArray.mk #[] := if_neg hok
    rw [hv]
    by_cases h1 : n < 1
    · (have hQq := trivial; repeat ((first | clear hQq | (with_reducible first | refine T_drw ?_ | refine T_bx fun _ => ?_ | refine s_al fun _ => ?_ | refine s_bs0 fun _ => ?_ | refine s_bs1 (hK := fun _ => ?_) | refine s_bs2 (hK := fun _ => ?_) | refine s_bs3 (hK := fun _ => ?_) | refine s_bs5 (hK := fun _ => ?_) | refine s_bs6 (hK := fun _ => ?_))); (try simp (disch := first | omega | assumption | ((repeat (first | exact mem_h | exact Up.here | apply mem_t | apply Up.there)); first | done | fail) | (simp; first | done | omega | fail)) [h1]))); exact T_ret rfl
    · have h2 : 8 < n := by omega
      (have hQq := trivial; repeat ((first | clear hQq | (with_reducible first | refine T_drw ?_ | refine T_bx fun _ => ?_ | refine s_al fun _ => ?_ | refine s_bs0 fun _ => ?_ | refine s_bs1 (hK := fun _ => ?_) | refine s_bs2 (hK := fun _ => ?_) | refine s_bs3 (hK := fun _ => ?_) | refine s_bs5 (hK := fun _ => ?_) | refine s_bs6 (hK := fun _ => ?_))); (try simp (disch := first | omega | assumption | ((repeat (first | exact mem_h | exact Up.here | apply mem_t | apply Up.there)); first | done | fail) | (simp; first | done | omega | fail)) [h1, h2]))); exact T_ret rfl
  have hvv : putV v n = bytesOf (putL v n.toNat n.toNat) := if_pos hok
  rw [hvv]
  obtain ⟨m, rfl⟩ : ∃ m : Nat, n = m := ⟨n.toNat, by omega⟩
  have h1 : ¬ (m : Int) < 1 := by omega
  have h2 : ¬ 8 < (m : Int) := by omega
  (have hQq := trivial; repeat ((first | clear hQq | (with_reducible first | refine T_drw ?_ | refine T_bx fun _ => ?_ | refine s_al fun _ => ?_ | refine s_bs0 fun _ => ?_ | refine s_bs1 (hK := fun _ => ?_) | refine s_bs2 (hK := fun _ => ?_) | refine s_bs3 (hK := fun _ => ?_) | refine s_bs5 (hK := fun _ => ?_) | refine s_bs6 (hK := fun _ => ?_))); (try simp (disch := first | omega | assumption | ((repeat (first | exact mem_h | exact Up.here | apply mem_t | apply Up.there)); first | done | fail) | (simp; first | done | omega | fail)) [h1, h2])))
  refine T_for2 m (fun i (_ : Unit) => .string (bytesOf (tailL v m i))) (fun i _ => .int .u64 ((v / 256 ^ i : Nat) : Int)) (fun _ _ => []) (fun _ _ => True) () trivial ?_ (by simp) (by simp [tailL]; rfl) (by simp)
  rintro i _ hi _ L hL
  by_cases hlt : i < m
  · have hlt' : (i : Int) < (m : Int) := by omega
    have hb := laneV_nat (v := v) (n := m) (by omega) hlt
    have hq : v / 256 ^ i ≤ v := Nat.div_le_self _ _
    have hn := tailL_next (v := v) hlt
    have hpw : v / 256 ^ (i + 1) = v / 256 ^ i / 256 := by rw [Nat.pow_succ, Nat.div_div_eq_div_mul]
    rw [hpw, hn] at hL
    rw [hb] at hL
    generalize v / 256 ^ i = q at *
    have e1 : ((q : Nat) : Int).tmod 256 = ((q % 256 : Nat) : Int) := by rw [Int.tmod_eq_emod_of_nonneg (by omega)]; omega
    have e2 : ((q : Nat) : Int).tdiv 256 = ((q / 256 : Nat) : Int) := by rw [Int.tdiv_eq_ediv_of_nonneg (by omega)]; omega
    (have hQq := trivial; repeat ((first | clear hQq | (with_reducible first | refine T_drw ?_ | refine T_bx fun _ => ?_ | refine s_al fun _ => ?_ | refine s_bs0 fun _ => ?_ | refine s_bs1 (hK := fun _ => ?_) | refine s_bs2 (hK := fun _ => ?_) | refine s_bs3 (hK := fun _ => ?_) | refine s_bs5 (hK := fun _ => ?_) | refine s_bs6 (hK := fun _ => ?_))); (try simp (disch := first | omega | assumption | ((repeat (first | exact mem_h | exact Up.here | apply mem_t | apply Up.there)); first | done | fail) | (simp; first | done | omega | fail)) [hlt', e1, e2, p_rem, p_quo])))
    rename_i g
    refine s_rdsI (v := .string (bytesOf [(q : Int) % 256])) ?_ fun w' hw' => @i_b2s_218_9 _ w' g 0 1 [(q : Int) % 256] (hw'.ownr (e := 5) (k := 1) (q := 1) (c := 1) (xs := [.int .u8 ((q : Int) % 256)]) mem_h)
    have e3 : ((q % 256 : Nat) : Int) = (q : Int) % 256 := by omega
    have e4 : ((q / 256 : Nat) : Int) = (q : Int) / 256 := by omega
    have h := hL hlt () trivial
    rw [e3, show bytesOf ((q : Int) % 256 :: tailL v m i) = bytesOf [(q : Int) % 256] ++ bytesOf (tailL v m i) by rw [bytesOf_app]; rfl] at h
    have e5 : IntKind.u64.wrap ((q : Int).tdiv 256) = (q : Int) / 256 := by rw [e2, wrapu64 (by omega) (by omega), e4]
    rw [e4] at h
    have htl : (tailL v m i).length = i := by simp [tailL]
    have hsz : (bytesOf [(q : Int) % 256]).size + (bytesOf (tailL v m i)).size ≤ maxLen := by rw [bytesOf_size, bytesOf_size, htl]; simp only [List.length_singleton, maxLen]; omega
    (have hQq := trivial; repeat ((first | clear hQq | (with_reducible first | refine T_drw ?_ | refine T_bx fun _ => ?_ | refine s_al fun _ => ?_ | refine s_bs0 fun _ => ?_ | refine s_bs1 (hK := fun _ => ?_) | refine s_bs2 (hK := fun _ => ?_) | refine s_bs3 (hK := fun _ => ?_) | refine s_bs5 (hK := fun _ => ?_) | refine s_bs6 (hK := fun _ => ?_))); (try simp (disch := first | omega | assumption | ((repeat (first | exact mem_h | exact Up.here | apply mem_t | apply Up.there)); first | done | fail) | (simp; first | done | omega | fail)) [hlt', p_addS hsz, p_quo, e5])))
    exact Sels.tw Sels.nil h
  · obtain rfl : i = m := by omega
    have e : tailL v i i = putL v i i := by
      unfold tailL putL
      rw [Nat.sub_self, ← List.range_eq_range']
      refine List.map_congr_left fun j hj => ?_
      rw [if_pos (List.mem_range.1 hj)]
    (have hQq := trivial; repeat ((first | clear hQq | (with_reducible first | refine T_drw ?_ | refine T_bx fun _ => ?_ | refine s_al fun _ => ?_ | refine s_bs0 fun _ => ?_ | refine s_bs1 (hK := fun _ => ?_) | refine s_bs2 (hK := fun _ => ?_) | refine s_bs3 (hK := fun _ => ?_) | refine s_bs5 (hK := fun _ => ?_) | refine s_bs6 (hK := fun _ => ?_))); (try simp (disch := first | omega | assumption | ((repeat (first | exact mem_h | exact Up.here | apply mem_t | apply Up.there)); first | done | fail) | (simp; first | done | omega | fail)) [])))
    rw [e]
    exact T_ret (by simp)
end Go.Proofs.YtggakcpabomliaaGreat
namespace Go.Proofs.YtggakcpabomliaaGreat
open Go
section
variable {κ : Bool} {X : Nat → Prop} {S : List Nat} {w0 : World} {H H' Hk : List Res} {K : Value → WP} {K0 : WP}
theorem T_cap {e : TypeId} {k n c : Nat} {a : Option Addr} {xs : List Value} (hm : Res.own e k (.slice a n c) n xs ∈ H) (h : n ≤ c → TW κ S w0 H K0) : TW κ S w0 H K0 := fun w hw => by
  refine h ?_ w hw
  rcases (hw.hold _ hm).2 with ⟨h1, h2⟩ | ⟨g, cap, cur, h1, _, h3, _⟩
  · omega
  · cases h1; exact h3
end
end Go.Proofs.YtggakcpabomliaaGreat
