/- The proof of a given statement, a part of it (Args Join ShL17 Tab Tab2 Model5 Model6 Model7 Model8 Tab3 Wk DoT Works17 ShR17 Few17 Run17 Steps17 Args17 ExpiresW). No condition but what each lemma says. -/
import Derived.WalkKit
import Derived.ProofKit
import Derived.OpenShut
import Derived.Carry
import Derived.Deep.Slices
import Derived.Test.YtggakcpabomliaaGreatRows
import Derived.Test.YtggakcpabomliaaGreatK15
set_option linter.unusedVariables false
set_option linter.unusedSimpArgs false
namespace Go.Proofs.YtggakcpabomliaaGreat
open Go Go.ChangeShapes Go.WideShapes Go.ChangeAt Go.RowKit
theorem kept_of {w w' : World} (h : But [] w w') (hk : Sk NoX w w') (may : MemPlace → Prop) : w.keptBut w' may := by
  refine ⟨hk.2.2.2.1, hk.2.2.2.2, fun i hi => ?_⟩
  have h1 : w.heap[i]? = some w.heap[i] := Array.getElem?_eq_getElem hi
  have h2 : w'.heap[i]? = some w.heap[i] := h.2 i _ (by simp) h1
  rw [h1, h2]
  cases w.heap[i] <;> simp
theorem law_calls {f : FuncId} {args : Array Value} {w : World} (h : Fn PR NoX f args w (fun v w' => v = .bool true ∧ But [] w w')) :
    Calls PR f args w fun e w' => e = .returned (.bool true) ∧ (∀ may, w.keptBut w' may) ∧ But [] w w' :=
  Calls.mono h fun _ w' ⟨v, he, ⟨hv, hb⟩, hs⟩ => ⟨by rw [he, hv], kept_of hb hs, hb⟩
theorem own : ownKnob PR.godebug = none := by kernel_rfl
theorem laid : laidOutB PR = true := by kernel_rfl
/-- nothing that was handed over has turned, and the call is not to be made again -/
theorem post_plain {H : Type} {enc : TypeId × Value → H} {P : Program} {f : Func} {s : ChangeSpec} {apart fresh handsOn : Bool} {W W' : World} {args : Array Value} {v : Value} {ds gs : List (DataW H)} {before pa pv : List MemPlace}
    (hW : DataW.Whole enc P f.params.toList s.vars apart W args.toList ds gs before)
    (hres : ∀ (b : Nat) (sp : Nat → Bool) (hd : Bool), DataW.TrodAll enc P W' b sp hd f.resultTypes.toList (v.resultList f.resultTypes.size) (s.fn H (ds ++ gs)).results [])
    (hargs : ∀ sp : Nat → Bool, (∀ p ∈ before, sp p.block = true) → DataW.TrodAll enc P W' 0 sp true f.params.toList args.toList (s.fn H (ds ++ gs)).args pa)
    (hvars : ∀ sp : Nat → Bool, (∀ p ∈ before, sp p.block = true) → DataW.TrodVars enc P W' sp s.vars (s.fn H (ds ++ gs)).vars pv)
    (hk : ∀ may, W.keptBut W' may) : s.post enc P f apart fresh handsOn false W args v W' := by
  have hold : ∀ p ∈ before, (fun b => decide (b < W.heap.size)) p.block = true := fun p hp => by simpa using hW.lt p hp
  exact ⟨ds, gs, before, [], pa, pv, hW, hres _ _ _, hargs _ hold, hvars _ hold, hk _, fun h => by cases h⟩
theorem cells_single {v x : Value} (h : v.cells.toList = [x]) (hv : plain v = true) : v = x := by
  cases v <;> first | (simp [Value.cells] at h; exact h) | (simp [plain] at hv)
section
variable {H : Type} {enc : TypeId × Value → H} {P : Program} {w : World} {base : Nat} {spare : Nat → Bool} {held : Bool}
theorem open_sl {α : Type} {f : α → List Value} {k : Nat} (hk : ∀ x, (f x).length = k) (hkp : 0 < k) {Q : α → Prop} {t e : TypeId} {fuel : Nat} {cs : List Value} {x : DataW H × List MemPlace}
    (ht : P.underlying t = some (.slice e)) (hc : P.cellsOf e = k) (h : DataW.trod enc P w base spare held fuel t cs = some x)
    (he : ∀ n cs' y, DataW.trod enc P w base spare held n e cs' = some y → ∃ a, cs' = f a ∧ Q a) :
    ∃ (v : Value) (l : List α), cs = [v] ∧ Rd1 w v l.length (l.flatMap f) ∧ (∀ a ∈ l, Q a) ∧ l.length ≤ maxLen := by
  rcases Go.Deep.open_slice ht h with ⟨rfl, _⟩ | ⟨a, len, cap, m, n, D, Pl, rfl, hb, hl, hm, hmm, _, hx⟩
  · exact ⟨_, [], rfl, Or.inl ⟨rfl, rfl, none, 0, rfl⟩, by simp, by simp⟩
  have hlm : len ≤ m := by rw [hmm]; split <;> omega
  have hch : ∀ i : Fin len, ∃ a' : α, Q a' ∧ w.cells? base (a.add (i.1 * k)) k = some (f a') := by
    intro i
    obtain ⟨cs', h1, h2⟩ := hx i.1 (by omega)
    obtain ⟨a', rfl, hq⟩ := he _ _ _ h2
    rw [hc] at h1
    exact ⟨a', hq, h1⟩
  let g : Fin len → α := fun i => Classical.choose (hch i)
  have hg : ∀ i, Q (g i) ∧ w.cells? base (a.add (i.1 * k)) k = some (f (g i)) := fun i => Classical.choose_spec (hch i)
  refine ⟨_, List.ofFn g, rfl, ?_, ?_, by simp; omega⟩
  · by_cases h0 : len = 0
    · subst h0; exact Or.inl ⟨by simp, by simp, _, _, rfl⟩
    obtain ⟨b, o, spot⟩ := a
    have h1 := (World.cells?_some (hg ⟨0, by omega⟩).2).2.2 0 hkp
    have hfl := hk (g ⟨0, by omega⟩)
    rw [List.getElem?_eq_getElem (by omega)] at h1
    have hspot : spot = none := by simpa [Addr.add] using World.cell?_spot h1
    subst hspot
    refine Or.inr ⟨b, o, cap, by simp, fun i hi => ?_⟩
    rw [flat_len hk] at hi
    simp only [List.length_ofFn] at hi
    have hd : i / k * k + i % k = i := by rw [Nat.mul_comm]; exact Nat.div_add_mod i k
    have hj : i % k < k := Nat.mod_lt _ hkp
    have hi' : i / k < len := by rw [Nat.div_lt_iff_lt_mul hkp]; exact hi
    have h2 := (World.cells?_some (hg ⟨i / k, hi'⟩).2).2.2 (i % k) hj
    rw [← hd, flat_get hk _ _ _ hj, List.getElem?_ofFn, dif_pos hi']
    simp only [Option.bind_some]
    rw [← h2, add_mk, add_mk]
    simp only [Nat.add_assoc]
  · intro a' ha'
    rw [List.mem_ofFn] at ha'
    obtain ⟨i, rfl⟩ := ha'
    exact (hg i).1
theorem open_int1 {t : TypeId} {k : IntKind} {fuel : Nat} {cs : List Value} {x : DataW H × List MemPlace} (ht : P.underlying t = some (.int k)) (h : DataW.trod enc P w base spare held fuel t cs = some x) :
    ∃ a : Int, cs = [.int k a] ∧ (Lit.int k a).wf = true := by
  obtain ⟨n, h1, _, h2⟩ := DataW.trod_int ht h
  exact ⟨n, h1, h2⟩
theorem open_str1 {t : TypeId} {fuel : Nat} {cs : List Value} {x : DataW H × List MemPlace} (ht : P.underlying t = some .string) (h : DataW.trod enc P w base spare held fuel t cs = some x) :
    ∃ s : ByteArray, cs = [.string s] ∧ s.size ≤ maxLen := by
  obtain ⟨s, h1, _, h2⟩ := DataW.trod_string ht h
  exact ⟨s, h1, h2⟩
/-- a slice argument -/
theorem open_slarg {α : Type} {f : α → List Value} {t e : TypeId} {Q : List α → Prop} {r : Reach} {b0 : Nat} {v : Value} {d : DataW H} {ps : List MemPlace} (ht : P.underlying t = some (.slice e)) (hval : Value.okWide P w r b0 t v) (hd : DataW.Trod enc P w base spare held t v d ps)
    (h : ∀ fuel cs x, DataW.trod enc P w base spare held fuel t cs = some x → ∃ (v : Value) (l : List α), cs = [v] ∧ Rd1 w v l.length (l.flatMap f) ∧ Q l) : ∃ l : List α, Rd1 w v l.length (l.flatMap f) ∧ Q l := by
  obtain ⟨a, len, cap, rfl⟩ := okWide_slice ht hval
  obtain ⟨fuel, hf⟩ := hd
  obtain ⟨v', l, h1, h2⟩ := h _ _ _ hf
  have : Value.slice a len cap = v' := cells_single h1 rfl
  subst this
  exact ⟨l, h2⟩
end
/-- all arguments read as they read before -/
theorem trodAll_stays {H : Type} {enc : TypeId × Value → H} {P : Program} (hl : laidOutB P = true) {W W' : World} (hb : But [] W W') {sp : Nat → Bool} :
    ∀ {ts : List TypeId} {vs : List Value} {ds : List (DataW H)} {ps : List MemPlace}, (ts.all fun t => P.readableRec t && decide (t < P.types.size)) = true → DataW.TrodAll enc P W 0 (fun _ => true) true ts vs ds ps →
      (∀ p ∈ ps, p.block < W.heap.size) → (∀ p ∈ ps, sp p.block = true) → DataW.TrodAll enc P W' 0 sp true ts vs ds ps := by
  intro ts
  induction ts with
  | nil => intro vs ds ps _ h _ _; cases vs <;> cases ds <;> exact h
  | cons t ts ih =>
    intro vs ds ps ht h hlt hsp
    simp only [List.all_cons, Bool.and_eq_true, decide_eq_true_eq] at ht
    obtain ⟨v, vs', d, ds', p, q, rfl, rfl, rfl, h0, hr⟩ := trodAll_cons h
    refine ⟨p, q, WideElems.Trod_stays hl ht.1.1 ht.1.2 h0 (fun x hx => ?_) (fun x hx => hsp x (List.mem_append_left _ hx)),
      ih ht.2 hr (fun x hx => hlt x (List.mem_append_right _ hx)) (fun x hx => hsp x (List.mem_append_right _ hx)), rfl⟩
    have hlt' := hlt x (List.mem_append_left _ hx)
    have e1 : W.heap[x.block]? = some W.heap[x.block] := Array.getElem?_eq_getElem hlt'
    have e2 : W'.heap[x.block]? = some W.heap[x.block] := hb.2 _ _ (by simp) e1
    cases x with
    | cell b o => show W'.cell? _ = W.cell? _; unfold World.cell?; rw [show W'.heap[b]? = W.heap[b]? from e2.trans e1.symm]
    | map b => exact e2.trans e1.symm
set_option maxRecDepth 10000
section
variable {H : Type} {enc : TypeId × Value → H} {w : World} {base : Nat} {spare : Nat → Bool} {held : Bool} {fuel : Nat} {cs : List Value} {x : DataW H × List MemPlace}
theorem open_bk (h : DataW.trod enc PR w base spare held fuel 103 cs = some x) : ∃ a : BkV, cs = encB a ∧ True := by
  obtain ⟨xs, n, _, rfl, hl, hxl, hf⟩ := DataW.trod_struct ty103.und h
  have hl4 : cs.length = 2 := hl.trans (by kernel_rfl)
  have hx4 : xs.length = 2 := hxl.trans (by kernel_rfl)
  match cs, hl4 with
  | [c0, c1], _ =>
    have f0 := hf 0 _ rfl
    have f1 := hf 1 _ rfl
    rw [List.getElem?_eq_getElem (by omega)] at f0 f1
    obtain ⟨a0, e0, _⟩ := open_int1 Tryz.underlying3 f0
    obtain ⟨a1, e1, _⟩ := open_int1 Tryz.underlying3 f1
    have e0 : [c0] = [.int .i64 a0] := e0
    have e1 : [c1] = [.int .i64 a1] := e1
    cases e0; cases e1
    exact ⟨(a0, a1), rfl, trivial⟩
theorem open_bks (h : DataW.trod enc PR w base spare held fuel 32 cs = some x) : ∃ (v : Value) (l : List BkV), cs = [v] ∧ Rd1 w v l.length (l.flatMap encB) ∧ l.length ≤ maxLen := by
  obtain ⟨v, l, h1, h2, _, h3⟩ := open_sl (f := encB) (k := 2) (Q := fun _ => True) (fun _ => rfl) (by omega) Tryz.underlying32 (by kernel_rfl) h (fun n cs' y hy => open_bk hy)
  exact ⟨v, l, h1, h2, h3⟩
end
end Go.Proofs.YtggakcpabomliaaGreat
namespace Go.Proofs.YtggakcpabomliaaGreat
open Go
set_option maxRecDepth 100000
theorem jf2 : mapsRowed Tryz.prog = true := by kernel_rfl
theorem jf6 : (Program.stops Tryz.prog == []) = true := by kernel_rfl
theorem jf8 : (Program.stopKnobs Tryz.prog == []) = true := by kernel_rfl
theorem jf24 : Program.stopsHeard Tryz.prog = true := by kernel_rfl
theorem jf25 : Program.mayEnter Tryz.prog = true := by kernel_rfl
end Go.Proofs.YtggakcpabomliaaGreat
namespace Go.Proofs.YtggakcpabomliaaGreat
open Go
def sh_gangplanklaw17_ModelStats (X : Nat → Prop) (t0 t1 t2 : Value) (R : Value → WP) : WP :=
  lou PR X (Instr.box 23 t0) fun t3 =>
  lou PR X (Instr.box 44 t2) fun t5 =>
  cal PR X 14 [] fun t17 =>
  jn (n := 1) (fun t6 =>
  jn (n := 1) (fun t6_1 =>
  rds PR (Instr.loadAt 23 t3) fun t33 =>
  cal PR X 16 [t33] fun t34 =>
  pur PR (Instr.extract t34 0) fun t35 =>
  pur PR (Instr.extract t34 1) fun t36 =>
  jn (n := 1) (fun t6_2 =>
  jn (n := 1) (fun t10 =>
  jn (n := 2) (fun t11 t12 =>
  pur PR (Instr.build 42 #[(0, (.int .i64 3))]) fun t80 =>
  cal PR X 20 [t35, t80, (.int .i64 0)] fun t81 =>
  lou PR X (Instr.alloc 39 true (.tuple #[])) fun t13 =>
  sto PR X (Instr.storeAt 39 t13 t81) <|
  pur PR (Instr.fieldAt 44 t5 0) fun t83 =>
  rds PR (Instr.loadAt 42 t83) fun t84 =>
  pur PR (Instr.fieldAt 44 t5 1) fun t85 =>
  rds PR (Instr.loadAt 3 t85) fun t86 =>
  cal PR X 20 [t35, t84, t86] fun t87 =>
  lou PR X (Instr.alloc 39 true (.tuple #[])) fun t14 =>
  sto PR X (Instr.storeAt 39 t14 t87) <|
  pur PR (Instr.build 42 #[(0, (.int .i64 3))]) fun t89 =>
  cal PR X 20 [t35, t89, (.int .i64 0)] fun t90 =>
  lou PR X (Instr.alloc 39 true (.tuple #[])) fun t15 =>
  sto PR X (Instr.storeAt 39 t15 t90) <|
  pur PR (Instr.fieldAt 39 t15 3) fun t91 =>
  rds PR (Instr.loadAt 3 t91) fun t92 =>
  pur PR (Instr.fieldAt 39 t13 3) fun t93 =>
  rds PR (Instr.loadAt 3 t93) fun t94 =>
  pur PR (binOp .sub 3 t92 t94) fun t95 =>
  jn (n := 1) (fun t6_3 =>
  gj t17 true (fun J => rds PR (Instr.loadAt 39 t13) J) fun t142 =>
  gj t17 true (fun J => J t11) fun t143 =>
  gj t17 true (fun J => pur PR (Instr.build 39 #[(3, t143)]) J) fun t144 =>
  gj t17 true (fun J => rds PR (eqS .eql 39 (.tmp 142) (.tmp 144) t142 t144) J) fun t145 =>
  pur PR (do pure (if ← asBool t17 then t145 else (.bool false))) fun t146 =>
  gj t146 true (fun J => J t95) fun t148 =>
  gj t146 true (fun J => pur PR (binOp .eql 3 t148 (.int .i64 0)) J) fun t149 =>
  pur PR (do pure (if ← asBool t146 then t149 else (.bool false))) fun t150 =>
  R t150) fun J1 =>
  pur PR (Instr.fieldAt 44 t5 0) fun t96 =>
  pur PR (Instr.fieldAt 42 t96 0) fun t97 =>
  rds PR (Instr.loadAt 3 t97) fun t98 =>
  pur PR (binOp .eql 3 t98 (.int .i64 0)) fun t100 =>
  cnd t100 (
  gj t17 true (fun J => rds PR (Instr.loadAt 39 t13) J) fun t103 =>
  gj t17 true (fun J => J t11) fun t104 =>
  gj t17 true (fun J => pur PR (Instr.build 39 #[(3, t104)]) J) fun t105 =>
  gj t17 true (fun J => rds PR (eqS .eql 39 (.tmp 103) (.tmp 105) t103 t105) J) fun t106 =>
  pur PR (do pure (if ← asBool t17 then t106 else (.bool false))) fun t107 =>
  gj t107 true (fun J => J t95) fun t109 =>
  gj t107 true (fun J => pur PR (binOp .leq 3 t109 (.int .i64 1)) J) fun t110 =>
  pur PR (do pure (if ← asBool t107 then t110 else (.bool false))) fun t111 =>
  gj t111 true (fun J => J t95) fun t113 =>
  gj t111 true (fun J => pur PR (binOp .geq 3 t113 (.int .i64 (-1))) J) fun t114 =>
  pur PR (do pure (if ← asBool t111 then t114 else (.bool false))) fun t115 =>
  gj t115 true (fun J => J t95) fun t117 =>
  gj t115 true (fun J => pur PR (binOp .lss 3 t117 (.int .i64 1)) J) fun t118 =>
  gj t115 true (fun J => J t118) fun t119 =>
  gj t119 false (fun J => pur PR (Instr.fieldAt 39 t14 2) J) fun t120 =>
  gj t119 false (fun J => rds PR (Instr.loadAt 4 t120) J) fun t121 =>
  gj t115 true (fun J => pur PR (do pure (if ← asBool t119 then (.bool true) else t121)) J) fun t122 =>
  pur PR (do pure (if ← asBool t115 then t122 else (.bool false))) fun t123 =>
  R t123) (
  pur PR (binOp .eql 3 t98 (.int .i64 2)) fun t125 =>
  cnd t125 (
  gj t17 true (fun J => rds PR (Instr.loadAt 39 t13) J) fun t128 =>
  gj t17 true (fun J => J t11) fun t129 =>
  gj t17 true (fun J => pur PR (Instr.build 39 #[(3, t129)]) J) fun t130 =>
  gj t17 true (fun J => rds PR (eqS .eql 39 (.tmp 128) (.tmp 130) t128 t130) J) fun t131 =>
  pur PR (do pure (if ← asBool t17 then t131 else (.bool false))) fun t132 =>
  gj t132 true (fun J => J t95) fun t134 =>
  gj t132 true (fun J => pur PR (Instr.fieldAt 39 t14 3) J) fun t135 =>
  gj t132 true (fun J => rds PR (Instr.loadAt 3 t135) J) fun t136 =>
  gj t132 true (fun J => pur PR (Op.unary .neg t136) J) fun t137 =>
  gj t132 true (fun J => pur PR (binOp .eql 3 t134 t137) J) fun t138 =>
  pur PR (do pure (if ← asBool t132 then t138 else (.bool false))) fun t139 =>
  R t139) (
  J1 t6_2))) fun J2 =>
  lp (n := 2) (fun L3 t11_1 t12_1 =>
  jn (n := 0) (
  jn (n := 1) (fun t11_2 =>
  pur PR (binOp .add 3 t12_1 (.int .i64 1)) fun t71 =>
  L3 t11_2 t71) fun J4 =>
  cal PR X 25 [t35, t12_1] fun t75 =>
  cal PR X 31 [t75] fun t76 =>
  pur PR (builtinS .len #[57] 0 [t76]) fun t77 =>
  pur PR (binOp .add 3 t11_1 t77) fun t78 =>
  J4 t78) fun J5 =>
  pur PR (Instr.fieldAt 23 t3 1) fun t67 =>
  rds PR (Instr.loadAt 3 t67) fun t68 =>
  pur PR (binOp .lss 3 t12_1 t68) fun t69 =>
  cnd t69 (
  J5) (
  J2 t11_1 t12_1)) (.int .i64 0) (.int .i64 0)) fun J6 =>
  lp (n := 1) (fun L7 t10_1 =>
  jn (n := 0) (
  jn (n := 0) (
  pur PR (binOp .add 3 t10_1 (.int .i64 1)) fun t53 =>
  L7 t53) fun J8 =>
  drw <|
  pur PR (Instr.indexAt 24 t1 t10_1) fun t57 =>
  pur PR (Instr.fieldAt 44 t57 0) fun t58 =>
  rds PR (Instr.loadAt 42 t58) fun t59 =>
  pur PR (Instr.indexAt 24 t1 t10_1) fun t62 =>
  pur PR (Instr.fieldAt 44 t62 1) fun t63 =>
  rds PR (Instr.loadAt 3 t63) fun t64 =>
  cal PR X 20 [t35, t59, t64] fun t65 =>
  J8) fun J9 =>
  pur PR (builtinS .len #[24] 0 [t1]) fun t50 =>
  pur PR (binOp .lss 3 t10_1 t50) fun t51 =>
  cnd t51 (
  J9) (
  J6 t10_1)) (.int .i64 0)) fun J10 =>
  pur PR (binOp .neq 28 t36 (.int .i64 0)) fun t38 =>
  gj t38 false (fun J => J t35) fun t40 =>
  gj t38 false (fun J => rds PR (eqS .eql 27 (.tmp 40) (.const (.pointer none)) t40 (.pointer none)) J) fun t41 =>
  pur PR (do pure (if ← asBool t38 then (.bool true) else t41)) fun t42 =>
  cnd t42 (
  gj t17 true (fun J => J t35) fun t45 =>
  gj t17 true (fun J => rds PR (eqS .eql 27 (.tmp 45) (.const (.pointer none)) t45 (.pointer none)) J) fun t46 =>
  pur PR (do pure (if ← asBool t17 then t46 else (.bool false))) fun t47 =>
  R t47) (
  J10 t6_1)) fun J11 =>
  rds PR (Instr.loadAt 23 t3) fun t20 =>
  cal PR X 15 [t20, t1] fun t22 =>
  pur PR (Op.unary .not t22) fun t23 =>
  gj t23 false (fun J => rds PR (Instr.loadAt 23 t3) J) fun t25 =>
  gj t23 false (fun J => rds PR (Instr.loadAt 44 t5) J) fun t26 =>
  gj t23 false (fun J => lou PR X (Instr.buildSlice 24 1 #[(0, t26)]) J) fun t27 =>
  gj t23 false (fun J => cal PR X 15 [t25, t27] J) fun t28 =>
  gj t23 false (fun J => pur PR (Op.unary .not t28) J) fun t29 =>
  pur PR (do pure (if ← asBool t23 then (.bool true) else t29)) fun t30 =>
  cnd t30 (
  R t17) (
  J11 t6)) fun J12 =>
  pur PR (Op.unary .not t17) fun t19 =>
  cnd t19 (
  R (.bool false)) (
  J12 (.bool false))
theorem sh_gangplanklaw17_ModelStats_eq (X : Nat → Prop) (t0 t1 t2 : Value) (R : Value → WP) : vcFun PR X Tryz.f5 [t0, t1, t2] R = sh_gangplanklaw17_ModelStats X t0 t1 t2 R := by kernel_rfl
theorem mk_gangplanklaw17_ModelStats {X : Nat → Prop} {t0 t1 t2 : Value} {R : Value → WP} {w : World} (h : sh_gangplanklaw17_ModelStats X t0 t1 t2 R w) : Fn PR X 5 #[t0, t1, t2] w R := fn_of_vc (args := [t0, t1, t2]) mixed Tryz.func5 (by rw [sh_gangplanklaw17_ModelStats_eq]; exact h)
def sh_gangplanklaw17_ModelExpires (X : Nat → Prop) (t0 t1 t2 t3 : Value) (R : Value → WP) : WP :=
  lou PR X (Instr.box 23 t0) fun t4 =>
  cal PR X 14 [] fun t18 =>
  jn (n := 1) (fun t8 =>
  jn (n := 1) (fun t8_1 =>
  rds PR (Instr.loadAt 23 t4) fun t27 =>
  cal PR X 16 [t27] fun t28 =>
  pur PR (Instr.extract t28 0) fun t29 =>
  pur PR (Instr.extract t28 1) fun t30 =>
  jn (n := 1) (fun t8_2 =>
  jn (n := 1) (fun t12 =>
  cal PR X 25 [t29, t2] fun t69 =>
  cal PR X 32 [t69, t3] fun t71 =>
  pur PR (Instr.extract t71 0) fun t72 =>
  pur PR (Instr.extract t71 1) fun t73 =>
  jn (n := 2) (fun t15 t16 =>
  cal PR X 25 [t29, t2] fun t91 =>
  cal PR X 31 [t91] fun t92 =>
  gj t18 true (fun J => J t15) fun t95 =>
  gj t18 true (fun J => J t73) fun t96 =>
  gj t18 true (fun J => pur PR (binOp .leq 3 t95 t96) J) fun t97 =>
  pur PR (do pure (if ← asBool t18 then t97 else (.bool false))) fun t98 =>
  gj t98 true (fun J => J t92) fun t100 =>
  gj t98 true (fun J => pur PR (builtinS .len #[57] 0 [t100]) J) fun t101 =>
  gj t98 true (fun J => J t15) fun t102 =>
  gj t98 true (fun J => pur PR (binOp .add 3 t101 t102) J) fun t103 =>
  gj t98 true (fun J => J t72) fun t104 =>
  gj t98 true (fun J => cal PR X 31 [t104] J) fun t105 =>
  gj t98 true (fun J => pur PR (builtinS .len #[57] 0 [t105]) J) fun t106 =>
  gj t98 true (fun J => J t73) fun t107 =>
  gj t98 true (fun J => pur PR (binOp .add 3 t106 t107) J) fun t108 =>
  gj t98 true (fun J => pur PR (binOp .eql 3 t103 t108) J) fun t109 =>
  pur PR (do pure (if ← asBool t98 then t109 else (.bool false))) fun t110 =>
  R t110) fun J1 =>
  lp (n := 2) (fun L2 t15_1 t16_1 =>
  jn (n := 0) (
  jn (n := 1) (fun t15_2 =>
  pur PR (binOp .add 3 t16_1 (.int .i64 1)) fun t80 =>
  L2 t15_2 t80) fun J3 =>
  pur PR (Instr.build 42 #[(0, (.int .i64 2)), (3, t2)]) fun t84 =>
  cal PR X 20 [t29, t84, t3] fun t86 =>
  pur PR (Instr.field 39 t86 3) fun t87 =>
  pur PR (binOp .add 3 t15_1 t87) fun t88 =>
  J3 t88) fun J4 =>
  pur PR (Instr.fieldAt 23 t4 2) fun t75 =>
  rds PR (Instr.loadAt 3 t75) fun t76 =>
  pur PR (binOp .mul 3 (.int .i64 3) t76) fun t77 =>
  pur PR (binOp .lss 3 t16_1 t77) fun t78 =>
  cnd t78 (
  J4) (
  J1 t15_1 t16_1)) (.int .i64 0) (.int .i64 0)) fun J5 =>
  lp (n := 1) (fun L6 t12_1 =>
  jn (n := 0) (
  jn (n := 0) (
  pur PR (binOp .add 3 t12_1 (.int .i64 1)) fun t53 =>
  L6 t53) fun J7 =>
  drw <|
  pur PR (Instr.indexAt 24 t1 t12_1) fun t57 =>
  pur PR (Instr.fieldAt 44 t57 0) fun t58 =>
  rds PR (Instr.loadAt 42 t58) fun t59 =>
  pur PR (Instr.indexAt 24 t1 t12_1) fun t62 =>
  pur PR (Instr.fieldAt 44 t62 1) fun t63 =>
  rds PR (Instr.loadAt 3 t63) fun t64 =>
  cal PR X 20 [t29, t59, t64] fun t65 =>
  J7) fun J8 =>
  pur PR (builtinS .len #[24] 0 [t1]) fun t50 =>
  pur PR (binOp .lss 3 t12_1 t50) fun t51 =>
  cnd t51 (
  J8) (
  J5 t12_1)) (.int .i64 0)) fun J9 =>
  pur PR (binOp .neq 28 t30 (.int .i64 0)) fun t32 =>
  gj t32 false (fun J => J t29) fun t34 =>
  gj t32 false (fun J => rds PR (eqS .eql 27 (.tmp 34) (.const (.pointer none)) t34 (.pointer none)) J) fun t35 =>
  pur PR (do pure (if ← asBool t32 then (.bool true) else t35)) fun t36 =>
  gj t36 false (fun J => J t2) fun t38 =>
  gj t36 false (fun J => pur PR (binOp .lss 3 t38 (.int .i64 0)) J) fun t39 =>
  pur PR (do pure (if ← asBool t36 then (.bool true) else t39)) fun t40 =>
  gj t40 false (fun J => J t2) fun t42 =>
  gj t40 false (fun J => pur PR (Instr.fieldAt 23 t4 1) J) fun t43 =>
  gj t40 false (fun J => rds PR (Instr.loadAt 3 t43) J) fun t44 =>
  gj t40 false (fun J => pur PR (binOp .geq 3 t42 t44) J) fun t45 =>
  pur PR (do pure (if ← asBool t40 then (.bool true) else t45)) fun t46 =>
  cnd t46 (
  R t18) (
  J9 t8_1)) fun J10 =>
  rds PR (Instr.loadAt 23 t4) fun t21 =>
  cal PR X 15 [t21, t1] fun t23 =>
  pur PR (Op.unary .not t23) fun t24 =>
  cnd t24 (
  R t18) (
  J10 t8)) fun J11 =>
  pur PR (Op.unary .not t18) fun t20 =>
  cnd t20 (
  R (.bool false)) (
  J11 (.bool false))
theorem sh_gangplanklaw17_ModelExpires_eq (X : Nat → Prop) (t0 t1 t2 t3 : Value) (R : Value → WP) : vcFun PR X Tryz.f6 [t0, t1, t2, t3] R = sh_gangplanklaw17_ModelExpires X t0 t1 t2 t3 R := by kernel_rfl
theorem mk_gangplanklaw17_ModelExpires {X : Nat → Prop} {t0 t1 t2 t3 : Value} {R : Value → WP} {w : World} (h : sh_gangplanklaw17_ModelExpires X t0 t1 t2 t3 R w) : Fn PR X 6 #[t0, t1, t2, t3] w R := fn_of_vc (args := [t0, t1, t2, t3]) mixed Tryz.func6 (by rw [sh_gangplanklaw17_ModelExpires_eq]; exact h)
def sh_gangplanklaw17_ModelOne (X : Nat → Prop) (t0 t1 t2 : Value) (R : Value → WP) : WP :=
  lou PR X (Instr.box 23 t0) fun t3 =>
  cal PR X 14 [] fun t16 =>
  jn (n := 1) (fun t6 =>
  jn (n := 1) (fun t6_1 =>
  rds PR (Instr.loadAt 23 t3) fun t30 =>
  cal PR X 16 [t30] fun t31 =>
  pur PR (Instr.extract t31 0) fun t32 =>
  pur PR (Instr.extract t31 1) fun t33 =>
  jn (n := 1) (fun t6_2 =>
  jn (n := 1) (fun t10 =>
  jn (n := 3) (fun t6_3 t11 t12 =>
  gj t16 true (fun J => J t11) fun t113 =>
  gj t16 true (fun J => pur PR (binOp .leq 3 t113 (.int .i64 1)) J) fun t114 =>
  pur PR (do pure (if ← asBool t16 then t114 else (.bool false))) fun t115 =>
  gj t115 true (fun J => J t32) fun t117 =>
  gj t115 true (fun J => cal PR X 23 [t117] J) fun t118 =>
  gj t115 true (fun J => cal PR X 34 [t118] J) fun t119 =>
  gj t115 true (fun J => pur PR (binOp .eql 28 t119 (.int .i64 0)) J) fun t120 =>
  pur PR (do pure (if ← asBool t115 then t120 else (.bool false))) fun t121 =>
  R t121) fun J1 =>
  lp (n := 3) (fun L2 t6_4 t11_1 t12_1 =>
  jn (n := 0) (
  jn (n := 3) (fun t6_5 t11_2 t15 =>
  pur PR (binOp .add 3 t12_1 (.int .i64 1)) fun t72 =>
  L2 t6_5 t11_2 t72) fun J3 =>
  cal PR X 25 [t32, t12_1] fun t75 =>
  cal PR X 31 [t75] fun t77 =>
  jn (n := 1) (fun t6_6 =>
  lp (n := 3) (fun L4 t6_7 t11_3 t15_1 =>
  jn (n := 0) (
  jn (n := 2) (fun t6_8 t11_4 =>
  pur PR (binOp .add 3 t15_1 (.int .i64 1)) fun t93 =>
  L4 t6_8 t11_4 t93) fun J5 =>
  jn (n := 1) (fun t6_9 =>
  pur PR (Instr.indexAt 57 t77 t15_1) fun t105 =>
  rds PR (Instr.loadAt 9 t105) fun t106 =>
  pur PR (binOp .eql 9 t106 t2) fun t108 =>
  cnd t108 (
  pur PR (binOp .add 3 t11_3 (.int .i64 1)) fun t110 =>
  J5 t6_9 t110) (
  J5 t6_9 t11_3)) fun J6 =>
  drw <|
  pur PR (Instr.indexAt 57 t77 t15_1) fun t96 =>
  rds PR (Instr.loadAt 9 t96) fun t97 =>
  pur PR (Instr.fieldAt 23 t3 1) fun t98 =>
  rds PR (Instr.loadAt 3 t98) fun t99 =>
  cal PR X 29 [t97, t99] fun t100 =>
  pur PR (binOp .neq 3 t100 t12_1) fun t102 =>
  cnd t102 (
  R (.bool false)) (
  J6 t6_7)) fun J7 =>
  pur PR (builtinS .len #[57] 0 [t77]) fun t90 =>
  pur PR (binOp .lss 3 t15_1 t90) fun t91 =>
  cnd t91 (
  J7) (
  J3 t6_7 t11_3 t15_1)) t6_6 t11_1 (.int .i64 0)) fun J8 =>
  cal PR X 33 [t75] fun t79 =>
  pur PR (Op.unary .not t79) fun t80 =>
  gj t80 false (fun J => J t75) fun t82 =>
  gj t80 false (fun J => pur PR (builtinS .len #[50] 0 [t82]) J) fun t83 =>
  gj t80 false (fun J => pur PR (Instr.fieldAt 23 t3 2) J) fun t84 =>
  gj t80 false (fun J => rds PR (Instr.loadAt 3 t84) J) fun t85 =>
  gj t80 false (fun J => pur PR (binOp .neq 3 t83 t85) J) fun t86 =>
  pur PR (do pure (if ← asBool t80 then (.bool true) else t86)) fun t87 =>
  cnd t87 (
  R (.bool false)) (
  J8 t6_4)) fun J9 =>
  pur PR (Instr.fieldAt 23 t3 1) fun t68 =>
  rds PR (Instr.loadAt 3 t68) fun t69 =>
  pur PR (binOp .lss 3 t12_1 t69) fun t70 =>
  cnd t70 (
  J9) (
  J1 t6_4 t11_1 t12_1)) t6_2 (.int .i64 0) (.int .i64 0)) fun J10 =>
  lp (n := 1) (fun L11 t10_1 =>
  jn (n := 0) (
  jn (n := 0) (
  pur PR (binOp .add 3 t10_1 (.int .i64 1)) fun t54 =>
  L11 t54) fun J12 =>
  drw <|
  pur PR (Instr.indexAt 24 t1 t10_1) fun t58 =>
  pur PR (Instr.fieldAt 44 t58 0) fun t59 =>
  rds PR (Instr.loadAt 42 t59) fun t60 =>
  pur PR (Instr.indexAt 24 t1 t10_1) fun t63 =>
  pur PR (Instr.fieldAt 44 t63 1) fun t64 =>
  rds PR (Instr.loadAt 3 t64) fun t65 =>
  cal PR X 20 [t32, t60, t65] fun t66 =>
  J12) fun J13 =>
  pur PR (builtinS .len #[24] 0 [t1]) fun t51 =>
  pur PR (binOp .lss 3 t10_1 t51) fun t52 =>
  cnd t52 (
  J13) (
  J10 t10_1)) (.int .i64 0)) fun J14 =>
  pur PR (binOp .neq 28 t33 (.int .i64 0)) fun t35 =>
  gj t35 false (fun J => J t32) fun t37 =>
  gj t35 false (fun J => rds PR (eqS .eql 27 (.tmp 37) (.const (.pointer none)) t37 (.pointer none)) J) fun t38 =>
  pur PR (do pure (if ← asBool t35 then (.bool true) else t38)) fun t39 =>
  cnd t39 (
  gj t16 true (fun J => J t33) fun t42 =>
  gj t16 true (fun J => pur PR (binOp .eql 28 t42 (.int .i64 1)) J) fun t43 =>
  pur PR (do pure (if ← asBool t16 then t43 else (.bool false))) fun t44 =>
  gj t44 true (fun J => J t32) fun t46 =>
  gj t44 true (fun J => rds PR (eqS .eql 27 (.tmp 46) (.const (.pointer none)) t46 (.pointer none)) J) fun t47 =>
  pur PR (do pure (if ← asBool t44 then t47 else (.bool false))) fun t48 =>
  R t48) (
  J14 t6_1)) fun J15 =>
  rds PR (Instr.loadAt 23 t3) fun t19 =>
  cal PR X 15 [t19, t1] fun t21 =>
  pur PR (Op.unary .not t21) fun t22 =>
  gj t22 false (fun J => J t2) fun t24 =>
  gj t22 false (fun J => pur PR (builtinS .len #[9] 0 [t24]) J) fun t25 =>
  gj t22 false (fun J => pur PR (binOp .gtr 3 t25 (.int .i64 60)) J) fun t26 =>
  pur PR (do pure (if ← asBool t22 then (.bool true) else t26)) fun t27 =>
  cnd t27 (
  R t16) (
  J15 t6)) fun J16 =>
  pur PR (Op.unary .not t16) fun t18 =>
  cnd t18 (
  R (.bool false)) (
  J16 (.bool false))
theorem sh_gangplanklaw17_ModelOne_eq (X : Nat → Prop) (t0 t1 t2 : Value) (R : Value → WP) : vcFun PR X Tryz.f7 [t0, t1, t2] R = sh_gangplanklaw17_ModelOne X t0 t1 t2 R := by kernel_rfl
theorem mk_gangplanklaw17_ModelOne {X : Nat → Prop} {t0 t1 t2 : Value} {R : Value → WP} {w : World} (h : sh_gangplanklaw17_ModelOne X t0 t1 t2 R w) : Fn PR X 7 #[t0, t1, t2] w R := fn_of_vc (args := [t0, t1, t2]) mixed Tryz.func7 (by rw [sh_gangplanklaw17_ModelOne_eq]; exact h)
def sh_gangplanklaw17_ModelFails (X : Nat → Prop) (t0 t1 t2 : Value) (R : Value → WP) : WP :=
  lou PR X (Instr.box 23 t0) fun t3 =>
  lou PR X (Instr.box 44 t2) fun t5 =>
  cal PR X 14 [] fun t16 =>
  jn (n := 1) (fun t6 =>
  jn (n := 1) (fun t6_1 =>
  rds PR (Instr.loadAt 23 t3) fun t32 =>
  cal PR X 16 [t32] fun t33 =>
  pur PR (Instr.extract t33 0) fun t34 =>
  pur PR (Instr.extract t33 1) fun t35 =>
  jn (n := 1) (fun t6_2 =>
  jn (n := 1) (fun t10 =>
  cal PR X 40 [t34] fun t66 =>
  jn (n := 1) (fun t6_3 =>
  pur PR (Instr.fieldAt 44 t5 0) fun t70 =>
  rds PR (Instr.loadAt 42 t70) fun t71 =>
  pur PR (Instr.fieldAt 44 t5 1) fun t72 =>
  rds PR (Instr.loadAt 3 t72) fun t73 =>
  cal PR X 20 [t66, t71, t73] fun t74 =>
  lou PR X (Instr.alloc 39 true (.tuple #[])) fun t12 =>
  sto PR X (Instr.storeAt 39 t12 t74) <|
  cal PR X 23 [t66] fun t76 =>
  cal PR X 23 [t34] fun t78 =>
  cal PR X 41 [t76, t78] fun t79 =>
  jn (n := 2) (fun t13 t14 =>
  pur PR (Instr.fieldAt 44 t5 0) fun t97 =>
  rds PR (Instr.loadAt 42 t97) fun t98 =>
  pur PR (Instr.fieldAt 44 t5 1) fun t99 =>
  rds PR (Instr.loadAt 3 t99) fun t100 =>
  cal PR X 20 [t34, t98, t100] fun t101 =>
  lou PR X (Instr.alloc 39 true (.tuple #[])) fun t15 =>
  sto PR X (Instr.storeAt 39 t15 t101) <|
  gj t16 true (fun J => rds PR (Instr.loadAt 39 t12) J) fun t104 =>
  gj t16 true (fun J => rds PR (Instr.loadAt 39 t15) J) fun t105 =>
  gj t16 true (fun J => rds PR (eqS .eql 39 (.tmp 104) (.tmp 105) t104 t105) J) fun t106 =>
  pur PR (do pure (if ← asBool t16 then t106 else (.bool false))) fun t107 =>
  gj t107 true (fun J => pur PR (Instr.fieldAt 39 t12 0) J) fun t109 =>
  gj t107 true (fun J => rds PR (Instr.loadAt 28 t109) J) fun t110 =>
  gj t107 true (fun J => pur PR (binOp .eql 28 t110 (.int .i64 0)) J) fun t111 =>
  gj t107 true (fun J => J t111) fun t112 =>
  gj t112 false (fun J => J t13) fun t113 =>
  gj t107 true (fun J => pur PR (do pure (if ← asBool t112 then (.bool true) else t113)) J) fun t114 =>
  pur PR (do pure (if ← asBool t107 then t114 else (.bool false))) fun t115 =>
  gj t115 true (fun J => pur PR (Instr.fieldAt 44 t5 0) J) fun t117 =>
  gj t115 true (fun J => pur PR (Instr.fieldAt 42 t117 0) J) fun t118 =>
  gj t115 true (fun J => rds PR (Instr.loadAt 3 t118) J) fun t119 =>
  gj t115 true (fun J => pur PR (binOp .neq 3 t119 (.int .i64 3)) J) fun t120 =>
  gj t115 true (fun J => J t120) fun t121 =>
  gj t121 false (fun J => J t13) fun t122 =>
  gj t115 true (fun J => pur PR (do pure (if ← asBool t121 then (.bool true) else t122)) J) fun t123 =>
  pur PR (do pure (if ← asBool t115 then t123 else (.bool false))) fun t124 =>
  gj t124 true (fun J => pur PR (Instr.fieldAt 44 t5 0) J) fun t126 =>
  gj t124 true (fun J => pur PR (Instr.fieldAt 42 t126 0) J) fun t127 =>
  gj t124 true (fun J => rds PR (Instr.loadAt 3 t127) J) fun t128 =>
  gj t124 true (fun J => pur PR (binOp .neq 3 t128 (.int .i64 2)) J) fun t129 =>
  gj t124 true (fun J => J t129) fun t130 =>
  gj t130 false (fun J => pur PR (Instr.fieldAt 39 t12 0) J) fun t131 =>
  gj t130 false (fun J => rds PR (Instr.loadAt 28 t131) J) fun t132 =>
  gj t130 false (fun J => pur PR (binOp .neq 28 t132 (.int .i64 0)) J) fun t133 =>
  gj t124 true (fun J => pur PR (do pure (if ← asBool t130 then (.bool true) else t133)) J) fun t134 =>
  gj t124 true (fun J => J t134) fun t135 =>
  gj t135 false (fun J => pur PR (Instr.fieldAt 39 t12 3) J) fun t136 =>
  gj t135 false (fun J => rds PR (Instr.loadAt 3 t136) J) fun t137 =>
  gj t135 false (fun J => pur PR (binOp .leq 3 t137 (.int .i64 4)) J) fun t138 =>
  gj t124 true (fun J => pur PR (do pure (if ← asBool t135 then (.bool true) else t138)) J) fun t139 =>
  pur PR (do pure (if ← asBool t124 then t139 else (.bool false))) fun t140 =>
  R t140) fun J1 =>
  lp (n := 2) (fun L2 t13_1 t14_1 =>
  jn (n := 0) (
  jn (n := 1) (fun t13_2 =>
  pur PR (binOp .add 3 t14_1 (.int .i64 1)) fun t85 =>
  L2 t13_2 t85) fun J3 =>
  gj t13_1 true (fun J => J t66) fun t88 =>
  gj t13_1 true (fun J => J t14_1) fun t89 =>
  gj t13_1 true (fun J => cal PR X 25 [t88, t89] J) fun t90 =>
  gj t13_1 true (fun J => J t34) fun t91 =>
  gj t13_1 true (fun J => J t14_1) fun t92 =>
  gj t13_1 true (fun J => cal PR X 25 [t91, t92] J) fun t93 =>
  gj t13_1 true (fun J => cal PR X 36 [t90, t93] J) fun t94 =>
  pur PR (do pure (if ← asBool t13_1 then t94 else (.bool false))) fun t95 =>
  J3 t95) fun J4 =>
  pur PR (Instr.fieldAt 23 t3 1) fun t81 =>
  rds PR (Instr.loadAt 3 t81) fun t82 =>
  pur PR (binOp .lss 3 t14_1 t82) fun t83 =>
  cnd t83 (
  J4) (
  J1 t13_1 t14_1)) t79 (.int .i64 0)) fun J5 =>
  rds PR (eqS .eql 27 (.tmp 67) (.const (.pointer none)) t66 (.pointer none)) fun t68 =>
  cnd t68 (
  R (.bool false)) (
  J5 t6_2)) fun J6 =>
  lp (n := 1) (fun L7 t10_1 =>
  jn (n := 0) (
  jn (n := 0) (
  pur PR (binOp .add 3 t10_1 (.int .i64 1)) fun t52 =>
  L7 t52) fun J8 =>
  drw <|
  pur PR (Instr.indexAt 24 t1 t10_1) fun t56 =>
  pur PR (Instr.fieldAt 44 t56 0) fun t57 =>
  rds PR (Instr.loadAt 42 t57) fun t58 =>
  pur PR (Instr.indexAt 24 t1 t10_1) fun t61 =>
  pur PR (Instr.fieldAt 44 t61 1) fun t62 =>
  rds PR (Instr.loadAt 3 t62) fun t63 =>
  cal PR X 20 [t34, t58, t63] fun t64 =>
  J8) fun J9 =>
  pur PR (builtinS .len #[24] 0 [t1]) fun t49 =>
  pur PR (binOp .lss 3 t10_1 t49) fun t50 =>
  cnd t50 (
  J9) (
  J6 t10_1)) (.int .i64 0)) fun J10 =>
  pur PR (binOp .neq 28 t35 (.int .i64 0)) fun t37 =>
  gj t37 false (fun J => J t34) fun t39 =>
  gj t37 false (fun J => rds PR (eqS .eql 27 (.tmp 39) (.const (.pointer none)) t39 (.pointer none)) J) fun t40 =>
  pur PR (do pure (if ← asBool t37 then (.bool true) else t40)) fun t41 =>
  cnd t41 (
  gj t16 true (fun J => J t34) fun t44 =>
  gj t16 true (fun J => rds PR (eqS .eql 27 (.tmp 44) (.const (.pointer none)) t44 (.pointer none)) J) fun t45 =>
  pur PR (do pure (if ← asBool t16 then t45 else (.bool false))) fun t46 =>
  R t46) (
  J10 t6_1)) fun J11 =>
  rds PR (Instr.loadAt 23 t3) fun t19 =>
  cal PR X 15 [t19, t1] fun t21 =>
  pur PR (Op.unary .not t21) fun t22 =>
  gj t22 false (fun J => rds PR (Instr.loadAt 23 t3) J) fun t24 =>
  gj t22 false (fun J => rds PR (Instr.loadAt 44 t5) J) fun t25 =>
  gj t22 false (fun J => lou PR X (Instr.buildSlice 24 1 #[(0, t25)]) J) fun t26 =>
  gj t22 false (fun J => cal PR X 15 [t24, t26] J) fun t27 =>
  gj t22 false (fun J => pur PR (Op.unary .not t27) J) fun t28 =>
  pur PR (do pure (if ← asBool t22 then (.bool true) else t28)) fun t29 =>
  cnd t29 (
  R t16) (
  J11 t6)) fun J12 =>
  pur PR (Op.unary .not t16) fun t18 =>
  cnd t18 (
  R (.bool false)) (
  J12 (.bool false))
theorem sh_gangplanklaw17_ModelFails_eq (X : Nat → Prop) (t0 t1 t2 : Value) (R : Value → WP) : vcFun PR X Tryz.f9 [t0, t1, t2] R = sh_gangplanklaw17_ModelFails X t0 t1 t2 R := by kernel_rfl
theorem mk_gangplanklaw17_ModelFails {X : Nat → Prop} {t0 t1 t2 : Value} {R : Value → WP} {w : World} (h : sh_gangplanklaw17_ModelFails X t0 t1 t2 R w) : Fn PR X 9 #[t0, t1, t2] w R := fn_of_vc (args := [t0, t1, t2]) mixed Tryz.func9 (by rw [sh_gangplanklaw17_ModelFails_eq]; exact h)
def sh_gangplanklaw17_works (X : Nat → Prop) (R : Value → WP) : WP :=
  pur PR (Instr.build 23 #[(0, (.int .i64 1)), (1, (.int .i64 1)), (2, (.int .i64 1)), (3, (.int .i64 5)), (4, (.int .i64 2))]) fun t14 =>
  lou PR X (Instr.alloc 23 true (.tuple #[])) fun t1 =>
  sto PR X (Instr.storeAt 23 t1 t14) <|
  rds PR (Instr.loadAt 23 t1) fun t16 =>
  cal PR X 16 [t16] fun t17 =>
  pur PR (Instr.extract t17 0) fun t18 =>
  pur PR (Instr.extract t17 1) fun t19 =>
  pur PR (Instr.build 23 #[]) fun t21 =>
  cal PR X 16 [t21] fun t22 =>
  pur PR (Instr.extract t22 0) fun t23 =>
  pur PR (Instr.extract t22 1) fun t24 =>
  jn (n := 1) (fun t0 =>
  pur PR (Instr.build 99 #[(0, (.int .i64 4)), (1, (.string (ByteArray.mk #[97, 98, 99, 100]))), (2, (.string (ByteArray.mk #[101, 102, 103, 104]))), (3, (.int .i64 1)), (4, (.int .i64 2)), (5, (.int .i64 17))]) fun t28 =>
  pur PR (Instr.build 101 #[(0, t28)]) fun t29 =>
  cal PR X 54 [t29] fun t30 =>
  pur PR (Instr.extract t30 0) fun t31 =>
  pur PR (Instr.extract t30 1) fun t32 =>
  pur PR (Instr.build 42 #[(1, t31)]) fun t35 =>
  cal PR X 20 [t18, t35, (.int .i64 0)] fun t36 =>
  lou PR X (Instr.alloc 39 true (.tuple #[])) fun t8 =>
  sto PR X (Instr.storeAt 39 t8 t36) <|
  pur PR (Instr.build 103 #[(0, (.int .i64 7)), (1, (.int .i64 1))]) fun t38 =>
  lou PR X (Instr.buildSlice 32 1 #[(0, t38)]) fun t39 =>
  pur PR (Instr.build 42 #[(0, (.int .i64 1)), (2, t39)]) fun t40 =>
  cal PR X 20 [t18, t40, (.int .i64 0)] fun t41 =>
  lou PR X (Instr.alloc 39 true (.tuple #[])) fun t9 =>
  sto PR X (Instr.storeAt 39 t9 t41) <|
  pur PR (Instr.build 42 #[(1, t31)]) fun t44 =>
  cal PR X 20 [t18, t44, (.int .i64 0)] fun t45 =>
  lou PR X (Instr.alloc 39 true (.tuple #[])) fun t10 =>
  sto PR X (Instr.storeAt 39 t10 t45) <|
  pur PR (Instr.build 42 #[(1, t31)]) fun t48 =>
  cal PR X 20 [t18, t48, (.int .i64 5)] fun t49 =>
  lou PR X (Instr.alloc 39 true (.tuple #[])) fun t11 =>
  sto PR X (Instr.storeAt 39 t11 t49) <|
  pur PR (Instr.build 42 #[(1, t31)]) fun t52 =>
  cal PR X 20 [t18, t52, (.int .i64 11)] fun t53 =>
  lou PR X (Instr.alloc 39 true (.tuple #[])) fun t12 =>
  sto PR X (Instr.storeAt 39 t12 t53) <|
  pur PR (Instr.build 42 #[(0, (.int .i64 3))]) fun t55 =>
  cal PR X 20 [t18, t55, (.int .i64 11)] fun t56 =>
  lou PR X (Instr.alloc 39 true (.tuple #[])) fun t13 =>
  sto PR X (Instr.storeAt 39 t13 t56) <|
  pur PR (binOp .eql 28 t19 (.int .i64 0)) fun t58 =>
  gj t58 true (fun J => J t24) fun t60 =>
  gj t58 true (fun J => pur PR (binOp .eql 28 t60 (.int .i64 1)) J) fun t61 =>
  pur PR (do pure (if ← asBool t58 then t61 else (.bool false))) fun t62 =>
  gj t62 true (fun J => rds PR (Instr.loadAt 39 t8) J) fun t64 =>
  gj t62 true (fun J => pur PR (Instr.build 39 #[(0, (.int .i64 11))]) J) fun t65 =>
  gj t62 true (fun J => rds PR (eqS .eql 39 (.tmp 64) (.tmp 65) t64 t65) J) fun t66 =>
  pur PR (do pure (if ← asBool t62 then t66 else (.bool false))) fun t67 =>
  gj t67 true (fun J => rds PR (Instr.loadAt 39 t9) J) fun t69 =>
  gj t67 true (fun J => pur PR (Instr.build 39 #[]) J) fun t70 =>
  gj t67 true (fun J => rds PR (eqS .eql 39 (.tmp 69) (.tmp 70) t69 t70) J) fun t71 =>
  pur PR (do pure (if ← asBool t67 then t71 else (.bool false))) fun t72 =>
  gj t72 true (fun J => rds PR (Instr.loadAt 39 t10) J) fun t74 =>
  gj t72 true (fun J => pur PR (Instr.build 39 #[(1, (.int .i64 7)), (2, (.bool true))]) J) fun t75 =>
  gj t72 true (fun J => rds PR (eqS .eql 39 (.tmp 74) (.tmp 75) t74 t75) J) fun t76 =>
  pur PR (do pure (if ← asBool t72 then t76 else (.bool false))) fun t77 =>
  gj t77 true (fun J => rds PR (Instr.loadAt 39 t11) J) fun t79 =>
  gj t77 true (fun J => pur PR (Instr.build 39 #[(1, (.int .i64 7))]) J) fun t80 =>
  gj t77 true (fun J => rds PR (eqS .eql 39 (.tmp 79) (.tmp 80) t79 t80) J) fun t81 =>
  pur PR (do pure (if ← asBool t77 then t81 else (.bool false))) fun t82 =>
  gj t82 true (fun J => rds PR (Instr.loadAt 39 t12) J) fun t84 =>
  gj t82 true (fun J => pur PR (Instr.build 39 #[(1, (.int .i64 7)), (2, (.bool true))]) J) fun t85 =>
  gj t82 true (fun J => rds PR (eqS .eql 39 (.tmp 84) (.tmp 85) t84 t85) J) fun t86 =>
  pur PR (do pure (if ← asBool t82 then t86 else (.bool false))) fun t87 =>
  gj t87 true (fun J => rds PR (Instr.loadAt 39 t13) J) fun t89 =>
  gj t87 true (fun J => pur PR (Instr.build 39 #[(3, (.int .i64 1))]) J) fun t90 =>
  gj t87 true (fun J => rds PR (eqS .eql 39 (.tmp 89) (.tmp 90) t89 t90) J) fun t91 =>
  pur PR (do pure (if ← asBool t87 then t91 else (.bool false))) fun t92 =>
  gj t92 true (fun J => J t18) fun t94 =>
  gj t92 true (fun J => cal PR X 23 [t94] J) fun t95 =>
  gj t92 true (fun J => pur PR (builtinS .len #[32] 0 [t95]) J) fun t96 =>
  gj t92 true (fun J => pur PR (binOp .eql 3 t96 (.int .i64 1)) J) fun t97 =>
  pur PR (do pure (if ← asBool t92 then t97 else (.bool false))) fun t98 =>
  gj t98 true (fun J => J t18) fun t100 =>
  gj t98 true (fun J => cal PR X 25 [t100, (.int .i64 0)] J) fun t101 =>
  gj t98 true (fun J => pur PR (builtinS .len #[50] 0 [t101]) J) fun t102 =>
  gj t98 true (fun J => pur PR (binOp .eql 3 t102 (.int .i64 1)) J) fun t103 =>
  pur PR (do pure (if ← asBool t98 then t103 else (.bool false))) fun t104 =>
  gj t104 true (fun J => J t18) fun t106 =>
  gj t104 true (fun J => cal PR X 25 [t106, (.int .i64 1)] J) fun t107 =>
  gj t104 true (fun J => pur PR (builtinS .len #[50] 0 [t107]) J) fun t108 =>
  gj t104 true (fun J => pur PR (binOp .eql 3 t108 (.int .i64 0)) J) fun t109 =>
  pur PR (do pure (if ← asBool t104 then t109 else (.bool false))) fun t110 =>
  gj t110 true (fun J => J t18) fun t112 =>
  gj t110 true (fun J => pur PR (Instr.build 42 #[]) J) fun t113 =>
  gj t110 true (fun J => cal PR X 20 [t112, t113, (.int .i64 0)] J) fun t114 =>
  gj t110 true (fun J => pur PR (Instr.field 39 t114 0) J) fun t115 =>
  gj t110 true (fun J => pur PR (binOp .eql 28 t115 (.int .i64 9)) J) fun t116 =>
  pur PR (do pure (if ← asBool t110 then t116 else (.bool false))) fun t117 =>
  gj t117 true (fun J => J t18) fun t119 =>
  gj t117 true (fun J => pur PR (Instr.build 42 #[(0, (.int .i64 9))]) J) fun t120 =>
  gj t117 true (fun J => cal PR X 20 [t119, t120, (.int .i64 0)] J) fun t121 =>
  gj t117 true (fun J => pur PR (Instr.field 39 t121 0) J) fun t122 =>
  gj t117 true (fun J => pur PR (binOp .eql 28 t122 (.int .i64 1)) J) fun t123 =>
  pur PR (do pure (if ← asBool t117 then t123 else (.bool false))) fun t124 =>
  R t124) fun J1 =>
  rds PR (eqS .eql 27 (.tmp 25) (.const (.pointer none)) t18 (.pointer none)) fun t26 =>
  cnd t26 (
  R (.bool false)) (
  J1 (.bool false))
theorem sh_gangplanklaw17_works_eq (X : Nat → Prop) (R : Value → WP) : vcFun PR X Tryz.f14 [] R = sh_gangplanklaw17_works X R := by kernel_rfl
theorem ent_gangplanklaw17_works : Enters PR 14 := enters_of Tryz.func14 (by kernel_rfl) rfl
theorem mk_gangplanklaw17_works {X : Nat → Prop} {R : Value → WP} {w : World} (h : sh_gangplanklaw17_works X R w) : Fn PR X 14 #[] w R := fn_of_vc (args := []) mixed Tryz.func14 (by rw [sh_gangplanklaw17_works_eq]; exact h)
def sh_gangplanklaw17_few (X : Nat → Prop) (t0 t1 : Value) (R : Value → WP) : WP :=
  lou PR X (Instr.box 23 t0) fun t2 =>
  jn (n := 2) (fun t5 t6 =>
  rds PR (Instr.loadAt 23 t2) fun t26 =>
  cal PR X 55 [t26] fun t27 =>
  gj t27 true (fun J => J t5) fun t30 =>
  gj t27 true (fun J => cal PR X 56 [t30, (.int .i64 12)] J) fun t31 =>
  pur PR (do pure (if ← asBool t27 then t31 else (.bool false))) fun t32 =>
  R t32) fun J1 =>
  lp (n := 2) (fun L2 t5_1 t6_1 =>
  jn (n := 0) (
  jn (n := 1) (fun t5_2 =>
  pur PR (binOp .add 3 t6_1 (.int .i64 1)) fun t17 =>
  L2 t5_2 t17) fun J3 =>
  pur PR (Instr.indexAt 24 t1 t6_1) fun t21 =>
  pur PR (Instr.fieldAt 44 t21 0) fun t22 =>
  rds PR (Instr.loadAt 42 t22) fun t23 =>
  lou PR X (Instr.buildSlice 104 1 #[(0, t23)]) fun t24 =>
  lou PR X (builtinS .append #[104, 104] 104 [t5_1, t24]) fun t25 =>
  J3 t25) fun J4 =>
  pur PR (builtinS .len #[24] 0 [t1]) fun t10 =>
  pur PR (binOp .lss 3 t6_1 t10) fun t11 =>
  gj t11 true (fun J => J t6_1) fun t13 =>
  gj t11 true (fun J => pur PR (binOp .leq 3 t13 (.int .i64 12)) J) fun t14 =>
  pur PR (do pure (if ← asBool t11 then t14 else (.bool false))) fun t15 =>
  cnd t15 (
  J4) (
  J1 t5_1 t6_1)) (.slice none 0 0) (.int .i64 0)
theorem sh_gangplanklaw17_few_eq (X : Nat → Prop) (t0 t1 : Value) (R : Value → WP) : vcFun PR X Tryz.f15 [t0, t1] R = sh_gangplanklaw17_few X t0 t1 R := by kernel_rfl
theorem ent_gangplanklaw17_few : Enters PR 15 := enters_of Tryz.func15 (by kernel_rfl) rfl
theorem mk_gangplanklaw17_few {X : Nat → Prop} {t0 t1 : Value} {R : Value → WP} {w : World} (h : sh_gangplanklaw17_few X t0 t1 R w) : Fn PR X 15 #[t0, t1] w R := fn_of_vc (args := [t0, t1]) mixed Tryz.func15 (by rw [sh_gangplanklaw17_few_eq]; exact h)
end Go.Proofs.YtggakcpabomliaaGreat
namespace Go.Proofs.YtggakcpabomliaaGreat
open Go
/-- a way's place with another entry at j -/
def upW (j : Nat) (x : EnV) (p : Nat × EnV) : Nat × EnV := if p.1 = j then (j, x) else p
theorem findW_ge (key : ByteArray) : ∀ L, -1 ≤ findW key L := by
  intro L
  induction L with
  | nil => simp [findW]
  | cons p L ih => simp only [findW]; repeat' split
                   all_goals first | omega | exact ih
theorem findE_ge (l : List EnV) (key : ByteArray) : -1 ≤ findE l key := findW_ge _ _
theorem findW_put1 {key : ByteArray} {j : Nat} {x : EnV} (h1 : x.st = 1) (hk : x.key = key) : ∀ L, findW key L = j → findW key (L.map (upW j x)) = j := by
  intro L
  induction L with
  | nil => intro h; simp [findW] at h <;> omega
  | cons p L ih =>
    intro h
    rw [List.map_cons]
    by_cases c : p.1 = j
    · simp [findW, upW, c, h1, hk]
    · have hu : upW j x p = p := if_neg c
      simp only [findW] at h ⊢
      rw [hu]
      split at h
      · omega
      · split at h
        · omega
        · rename_i c0 c1
          rw [if_neg c0, if_neg c1]; exact ih h
theorem findW_put2 {key : ByteArray} {j : Nat} {x : EnV} (h1 : x.st = 1) (hk : x.key = key) : ∀ L, findW key L < 0 → roomW L = j → findW key (L.map (upW j x)) = j := by
  intro L
  induction L with
  | nil => intro _ h; simp [roomW] at h <;> omega
  | cons p L ih =>
    intro hf h
    rw [List.map_cons]
    by_cases c : p.1 = j
    · simp [findW, upW, c, h1, hk]
    · have hu : upW j x p = p := if_neg c
      simp only [findW, roomW] at h hf ⊢
      rw [hu]
      by_cases c1 : p.2.st = 1
      · rw [if_pos c1] at h
        rw [if_neg (by omega)] at hf ⊢
        by_cases c2 : p.2.st = 1 ∧ p.2.key = key
        · rw [if_pos c2] at hf; omega
        · rw [if_neg c2] at hf ⊢; exact ih hf h
      · rw [if_neg c1] at h; omega
theorem wayL_set (l : List EnV) (key : ByteArray) (j : Nat) (x : EnV) (hj : j < l.length) : wayL (l.set j x) key = (wayL l key).map (upW j x) := by
  unfold wayL
  rw [List.length_set, List.map_map]
  refine List.map_congr_left fun i hi => ?_
  have hi' : i < l.length := List.mem_range.1 hi
  have hm : (homeV key l.length + i) % l.length < l.length := Nat.mod_lt _ (by omega)
  simp only [Function.comp_apply, upW]
  generalize (homeV key l.length + i) % l.length = q at *
  by_cases c : q = j
  · subst c; simp [List.getD_eq_getElem?_getD, hm]
  · rw [if_neg c]; simp [List.getD_eq_getElem?_getD, List.getElem?_set_ne (Ne.symm c)]
theorem findW_mem {key : ByteArray} {j : Nat} : ∀ L, findW key L = j → ∃ x, (j, x) ∈ L ∧ x.st = 1 ∧ x.key = key := by
  intro L
  induction L with
  | nil => intro h; simp [findW] at h <;> omega
  | cons p L ih =>
    intro h
    simp only [findW] at h
    split at h
    · omega
    · split at h
      · rename_i c
        have : p.1 = j := by omega
        exact ⟨p.2, by rw [← this]; simp, c⟩
      · obtain ⟨x, h1, h2⟩ := ih h
        exact ⟨x, List.mem_cons_of_mem _ h1, h2⟩
theorem wayL_get {l : List EnV} {key : ByteArray} {p : Nat × EnV} (h : p ∈ wayL l key) : l[p.1]? = some p.2 := by
  unfold wayL at h
  obtain ⟨i, hi, rfl⟩ := List.mem_map.1 h
  have hi' : i < l.length := List.mem_range.1 hi
  exact getD_some noE (Nat.mod_lt _ (by omega))
theorem findE_at {l : List EnV} {key : ByteArray} {j : Nat} (h : findE l key = j) : ∃ x, l[j]? = some x ∧ x.st = 1 ∧ x.key = key := by
  obtain ⟨x, h1, h2⟩ := findW_mem _ h
  exact ⟨x, wayL_get h1, h2⟩
/-- what is put is found -/
theorem putE_find {l u : List EnV} {x : EnV} (h : putE l x = some u) (h1 : x.st = 1) : ∃ j, j < l.length ∧ u = l.set j x ∧ findE u x.key = (j : Nat) ∧ (findE l x.key = (j : Nat) ∨ findE l x.key < 0 ∧ roomW (wayL l x.key) = (j : Nat)) := by
  unfold putE at h
  simp only at h
  by_cases c : findE l x.key < 0
  · rw [if_pos c] at h
    by_cases c2 : roomE l x.key < 0
    · rw [if_pos c2] at h; cases h
    · rw [if_neg c2] at h
      injection h with h
      have hr : roomE l x.key = roomW (wayL l x.key) := if_neg (by omega)
      have hlt := roomE_lt (l := l) (key := x.key) (by omega)
      refine ⟨_, hlt, h.symm, ?_, Or.inr ⟨c, by omega⟩⟩
      subst h
      unfold findE
      rw [wayL_set _ _ _ _ hlt]
      exact findW_put2 h1 rfl _ c (by omega)
  · rw [if_neg c, if_neg c] at h
    injection h with h
    have hlt := findE_lt (l := l) (key := x.key) (by omega)
    refine ⟨_, hlt, h.symm, ?_, Or.inl (by omega)⟩
    subst h
    unfold findE at *
    rw [wayL_set _ _ _ _ hlt]
    exact findW_put1 h1 rfl _ (by omega)
theorem putE_set {l u : List EnV} {x : EnV} (h : putE l x = some u) : ∃ j, j < l.length ∧ u = l.set j x := by
  unfold putE at h
  simp only at h
  by_cases c : findE l x.key < 0
  · rw [if_pos c] at h
    by_cases c2 : roomE l x.key < 0
    · rw [if_pos c2] at h; cases h
    · rw [if_neg c2] at h
      injection h with h
      exact ⟨_, roomE_lt (by omega), h.symm⟩
  · rw [if_neg c, if_neg c] at h
    injection h with h
    exact ⟨_, findE_lt (by omega), h.symm⟩
theorem liveF_iff {l : List EnV} {i : Nat} {p : Nat × EnV} : p ∈ liveF i l ↔ i ≤ p.1 ∧ l[p.1 - i]? = some p.2 ∧ p.2.st = 1 := by
  induction l generalizing i with
  | nil => simp [liveF]
  | cons x l ih =>
    have hs : i + 1 ≤ p.1 → (x :: l)[p.1 - i]? = l[p.1 - (i + 1)]? := fun h => by
      rw [show p.1 - i = (p.1 - (i + 1)) + 1 by omega, List.getElem?_cons_succ]
    have h0 : ∀ h : i ≤ p.1, ¬ i + 1 ≤ p.1 → p.1 = i := fun _ _ => by omega
    unfold liveF
    split
    · rename_i c
      rw [List.mem_cons, ih]
      constructor
      · rintro (rfl | ⟨a, b, d⟩)
        · simp [c]
        · exact ⟨by omega, by rw [hs a]; exact b, d⟩
      · rintro ⟨a, b, d⟩
        by_cases e : i + 1 ≤ p.1
        · exact Or.inr ⟨e, by rw [← hs e]; exact b, d⟩
        · have := h0 a e
          left
          rw [this] at b
          simp at b
          obtain ⟨q, y⟩ := p
          simp_all
    · rename_i c
      rw [ih]
      constructor
      · rintro ⟨a, b, d⟩
        exact ⟨by omega, by rw [hs a]; exact b, d⟩
      · rintro ⟨a, b, d⟩
        by_cases e : i + 1 ≤ p.1
        · exact ⟨e, by rw [← hs e]; exact b, d⟩
        · have := h0 a e
          rw [this] at b
          simp at b
          rw [b] at c
          exact absurd d c
theorem liveL_iff {l : List EnV} {p : Nat × EnV} : p ∈ liveL l ↔ l[p.1]? = some p.2 ∧ p.2.st = 1 := by
  unfold liveL; rw [liveF_iff]; simp
theorem rightE_iff {l : List EnV} : rightE l = true ↔ ∀ (i : Nat) (x : EnV), l[i]? = some x → x.st = 1 → findE l x.key = (i : Nat) := by
  unfold rightE
  rw [List.all_eq_true]
  constructor
  · intro h i x hx h1
    simpa using h (i, x) (liveL_iff.2 ⟨hx, h1⟩)
  · intro h p hp
    obtain ⟨h1, h2⟩ := liveL_iff.1 hp
    simpa using h p.1 p.2 h1 h2
/-- no flow has this key -/
def noKey (l : List EnV) (key : ByteArray) : Prop := ∀ (i : Nat) (x : EnV), l[i]? = some x → x.st = 1 → x.key ≠ key
theorem noKey.find {l : List EnV} {key : ByteArray} (h : noKey l key) : findE l key < 0 := by
  have hg := findE_ge l key
  by_cases c : findE l key < 0
  · exact c
  · obtain ⟨x, h1, h2, h3⟩ := findE_at (l := l) (key := key) (j := (findE l key).toNat) (by omega)
    exact absurd h3 (h _ _ h1 h2)
theorem getElem?_set_some {α : Type} {l : List α} {i j : Nat} {x y : α} (h : (l.set j x)[i]? = some y) : (i = j ∧ y = x) ∨ (i ≠ j ∧ l[i]? = some y) := by
  by_cases c : i = j
  · subst c
    rw [List.getElem?_set_self'] at h
    cases hl : l[i]? with
    | none => rw [hl] at h; cases h
    | some z => rw [hl] at h; left; exact ⟨rfl, by simpa using h.symm⟩
  · rw [List.getElem?_set_ne (Ne.symm c)] at h
    exact Or.inr ⟨c, h⟩
theorem noKey.set {l : List EnV} {key : ByteArray} {j : Nat} {x : EnV} (h : noKey l key) (hx : x.st = 1 → x.key ≠ key) : noKey (l.set j x) key := fun i y hy h1 => by
  rcases getElem?_set_some hy with ⟨_, rfl⟩ | ⟨_, h2⟩
  · exact hx h1
  · exact h i y h2 h1
theorem noKey.put {l : List EnV} {key : ByteArray} {x : EnV} (h : noKey l key) (hx : x.st = 1 → x.key ≠ key) : noKey (putS l x) key := by
  unfold putS
  cases hp : putE l x with
  | none => exact h
  | some u => obtain ⟨j, _, rfl⟩ := putE_set hp; exact h.set hx
theorem noKey.newE (n : Nat) (key : ByteArray) : noKey (newE n) key := fun i x hx h1 => by
  unfold Go.Proofs.YtggakcpabomliaaGreat.newE at hx
  obtain ⟨_, h2⟩ := List.getElem?_eq_some_iff.1 hx
  rw [List.getElem_replicate] at h2
  rw [← h2] at h1; simp [noE] at h1
theorem noKey.tidy {l : List EnV} {key : ByteArray} (h : noKey l key) : noKey (tidyE l) key := by
  unfold tidyE
  have : ∀ (L : List (Nat × EnV)) (a : List EnV), (∀ p ∈ L, p.2.st = 1 → p.2.key ≠ key) → noKey a key → noKey (L.foldl (fun acc p => putS acc p.2) a) key := by
    intro L
    induction L with
    | nil => intro a _ h; exact h
    | cons p L ih => intro a hL ha; rw [List.foldl_cons]; exact ih _ (fun q hq => hL q (List.mem_cons_of_mem _ hq)) (ha.put (hL p (List.mem_cons_self ..)))
  exact this _ _ (fun p hp h1 => h p.1 p.2 (liveL_iff.1 hp).1 h1) (.newE _ _)
theorem noKey.settle {l : List EnV} {key : ByteArray} (h : noKey l key) : noKey (settleE l) key := by
  unfold settleE; split
  · exact h.tidy
  · exact h
end Go.Proofs.YtggakcpabomliaaGreat
namespace Go.Proofs.YtggakcpabomliaaGreat
open Go
theorem findW_keep {key : ByteArray} {i j : Nat} {x : EnV} (h0 : x.st ≠ 0) (h1 : ¬ (x.st = 1 ∧ x.key = key)) (hij : i ≠ j) : ∀ L, findW key L = i → findW key (L.map (upW j x)) = i := by
  intro L
  induction L with
  | nil => intro h; simp [findW] at h <;> omega
  | cons p L ih =>
    intro h
    rw [List.map_cons]
    simp only [findW] at h
    split at h
    · omega
    · rename_i c0
      split at h
      · rename_i c1
        have : p.1 ≠ j := by omega
        rw [upW, if_neg this]
        simp only [findW]
        rw [if_neg c0, if_pos c1]; exact h
      · rename_i c1
        by_cases c : p.1 = j
        · rw [upW, if_pos c]
          simp only [findW]
          rw [if_neg h0, if_neg h1]; exact ih h
        · rw [upW, if_neg c]
          simp only [findW]
          rw [if_neg c0, if_neg c1]; exact ih h
theorem findE_keep {l : List EnV} {key : ByteArray} {i j : Nat} {x : EnV} (hj : j < l.length) (h0 : x.st ≠ 0) (h1 : ¬ (x.st = 1 ∧ x.key = key)) (hij : i ≠ j) (h : findE l key = i) : findE (l.set j x) key = i := by
  unfold findE at *
  rw [wayL_set _ _ _ _ hj]
  exact findW_keep h0 h1 hij _ h
theorem right_tomb {l : List EnV} {j : Nat} (hj : j < l.length) (h : rightE l = true) : rightE (l.set j tombE) = true := by
  rw [rightE_iff] at h ⊢
  intro i y hy h1
  rcases getElem?_set_some hy with ⟨_, rfl⟩ | ⟨h2, h3⟩
  · simp [tombE] at h1
  · exact findE_keep hj (by simp [tombE]) (by simp [tombE]) h2 (h i y h3 h1)
theorem right_put {l u : List EnV} {x : EnV} (h1 : x.st = 1) (hp : putE l x = some u) (h : rightE l = true) : rightE u = true := by
  rw [rightE_iff] at h ⊢
  obtain ⟨j, hj, rfl, hf, hc⟩ := putE_find hp h1
  intro i y hy hy1
  rcases getElem?_set_some hy with ⟨rfl, rfl⟩ | ⟨h2, h3⟩
  · exact hf
  · have hi := h i y h3 hy1
    have hk : x.key ≠ y.key := fun e => by rw [← e] at hi; omega
    exact findE_keep hj (by omega) (fun e => hk e.2) h2 hi
theorem right_new (n : Nat) : rightE (newE n) = true := by
  rw [rightE_iff]
  intro i x hx h1
  unfold newE at hx
  obtain ⟨_, h2⟩ := List.getElem?_eq_some_iff.1 hx
  rw [List.getElem_replicate] at h2
  rw [← h2] at h1; simp [noE] at h1
theorem right_putS {a : List EnV} {x : EnV} (h1 : x.st = 1) (h : rightE a = true) : rightE (putS a x) = true := by
  unfold putS
  cases hp : putE a x with
  | none => exact h
  | some u => exact right_put h1 hp h
theorem right_tidy (l : List EnV) : rightE (tidyE l) = true := by
  unfold tidyE
  have : ∀ (L : List (Nat × EnV)) (a : List EnV), (∀ p ∈ L, p.2.st = 1) → rightE a = true → rightE (L.foldl (fun acc p => putS acc p.2) a) = true := by
    intro L
    induction L with
    | nil => intro a _ h; exact h
    | cons p L ih => intro a hL ha; rw [List.foldl_cons]; exact ih _ (fun q hq => hL q (List.mem_cons_of_mem _ hq)) (right_putS (hL p (List.mem_cons_self ..)) ha)
  exact this _ _ (fun p hp => (liveL_iff.1 hp).2) (right_new _)
theorem right_settle {l : List EnV} (h : rightE l = true) : rightE (settleE l) = true := by
  unfold settleE; split
  · exact right_tidy _
  · exact h
def isLive (x : EnV) : Bool := decide (x.st = 1)
def flowsOf (l : List EnV) : List EnV := l.filter isLive
def oneE (x : EnV) : List EnV := if x.st = 1 then [x] else []
theorem flowsOf_set {l : List EnV} {j : Nat} {y x : EnV} (hy : l[j]? = some y) : (oneE y ++ flowsOf (l.set j x)).Perm (oneE x ++ flowsOf l) := by
  obtain ⟨hj, e⟩ := List.getElem?_eq_some_iff.1 hy
  have h1 : l = l.take j ++ y :: l.drop (j + 1) := by rw [← e]; simp
  have h2 : l.set j x = l.take j ++ x :: l.drop (j + 1) := List.set_eq_take_append_cons_drop .. |>.trans (by rw [if_pos hj])
  have f1 : ∀ z : EnV, flowsOf (l.take j ++ z :: l.drop (j + 1)) = flowsOf (l.take j) ++ (oneE z ++ flowsOf (l.drop (j + 1))) := fun z => by
    unfold flowsOf; rw [List.filter_append, List.filter_cons]
    simp only [oneE, isLive, decide_eq_true_eq]
    split <;> simp
  have h3 : flowsOf l = flowsOf (l.take j) ++ (oneE y ++ flowsOf (l.drop (j + 1))) := by rw [← f1, ← h1]
  rw [h2, f1, h3]
  generalize flowsOf (l.take j) = A
  generalize flowsOf (l.drop (j + 1)) = B
  have p1 : ∀ (u v : List EnV), (u ++ (A ++ (v ++ B))).Perm (A ++ (u ++ (v ++ B))) := fun u v => by
    rw [← List.append_assoc, ← List.append_assoc A u]
    exact List.perm_append_comm.append_right _
  refine (p1 _ _).trans (((p1 _ _).trans ?_).symm)
  refine List.Perm.append_left _ ?_
  rw [← List.append_assoc, ← List.append_assoc]
  exact List.perm_append_comm.append_right _
theorem live_flowsOf (l : List EnV) (i : Nat) : (liveF i l).map (·.2) = flowsOf l := by
  induction l generalizing i with
  | nil => rfl
  | cons x l ih =>
    unfold liveF flowsOf
    rw [List.filter_cons]
    simp only [isLive, decide_eq_true_eq]
    split
    · rw [List.map_cons, ih]; rfl
    · rw [ih]; rfl
theorem keysE_flowsOf (l : List EnV) : keysE l = (flowsOf l).map (·.key) := by
  unfold keysE liveL
  rw [← live_flowsOf l 0, List.map_map]; rfl
theorem countE_flowsOf (l : List EnV) : countE l 1 = (flowsOf l).length := by
  unfold countE flowsOf isLive
  rw [List.countP_eq_length_filter]
theorem nodup_of_right {l : List EnV} (h : rightE l = true) : ((flowsOf l).map (·.key)).Nodup := by
  rw [rightE_iff] at h
  have h2 : ∀ (i : Nat) (m : List EnV), (∀ (k : Nat) (x : EnV), m[k]? = some x → x.st = 1 → findE l x.key = (i + k : Nat)) → ((flowsOf m).map (·.key)).Nodup := by
    intro i m
    induction m generalizing i with
    | nil => intro _; simp [flowsOf]
    | cons x m ih =>
      intro hm
      have ih' := ih (i + 1) fun k y hy h1 => by
        have := hm (k + 1) y (by simpa using hy) h1
        rw [this]; congr 1; omega
      unfold flowsOf at *
      rw [List.filter_cons]
      simp only [isLive, decide_eq_true_eq] at *
      split
      · rename_i c
        rw [List.map_cons, List.nodup_cons]
        refine ⟨fun hx => ?_, ih'⟩
        obtain ⟨y, hy, e⟩ := List.mem_map.1 hx
        obtain ⟨hy1, hy2⟩ := List.mem_filter.1 hy
        obtain ⟨k, hk, e2⟩ := List.getElem_of_mem hy1
        have a := hm 0 x (by simp) c
        have b := hm (k + 1) y (by simp [hk, e2]) (by simpa [isLive] using hy2)
        rw [e, a] at b
        omega
      · exact ih'
  exact h2 0 l fun k x hx h1 => by rw [h k x hx h1]; simp
theorem noKey_flowsOf {l : List EnV} {key : ByteArray} : noKey l key ↔ ∀ x ∈ flowsOf l, x.key ≠ key := by
  unfold noKey flowsOf isLive
  constructor
  · intro h x hx
    obtain ⟨h1, h2⟩ := List.mem_filter.1 hx
    obtain ⟨i, hi, e⟩ := List.getElem_of_mem h1
    exact h i x (by simp [hi, e]) (by simpa using h2)
  · intro h i x hx h1
    exact h x (List.mem_filter.2 ⟨List.mem_of_getElem? hx, by simpa using h1⟩)
theorem roomW_neg : ∀ L, roomW L < 0 → ∀ p ∈ L, p.2.st = 1 := by
  intro L
  induction L with
  | nil => intro _ p hp; cases hp
  | cons q L ih =>
    intro h p hp
    simp only [roomW] at h
    split at h
    · rename_i c
      rcases List.mem_cons.1 hp with rfl | hp
      · exact c
      · exact ih h p hp
    · omega
theorem way_all {l : List EnV} (key : ByteArray) {q : Nat} {y : EnV} (hy : l[q]? = some y) : (q, y) ∈ wayL l key := by
  obtain ⟨hq, e⟩ := List.getElem?_eq_some_iff.1 hy
  unfold wayL
  have hl : 0 < l.length := by omega
  have hm : homeV key l.length < l.length := Nat.mod_lt _ hl
  refine List.mem_map.2 ⟨(q + l.length - homeV key l.length) % l.length, List.mem_range.2 (Nat.mod_lt _ hl), ?_⟩
  have : (homeV key l.length + (q + l.length - homeV key l.length) % l.length) % l.length = q := by
    rw [Nat.add_mod, Nat.mod_mod, ← Nat.add_mod, show homeV key l.length + (q + l.length - homeV key l.length) = q + l.length by omega, Nat.add_mod_right, Nat.mod_eq_of_lt hq]
  rw [this]
  simp [List.getD_eq_getElem?_getD, hq, e]
/-- where not all are flows there is room -/
theorem put_room {a : List EnV} {x : EnV} (h1 : x.st = 1) (hn : noKey a x.key) (hl : (flowsOf a).length < a.length) : ∃ u, putE a x = some u ∧ (flowsOf u).Perm (x :: flowsOf a) := by
  cases hp : putE a x with
  | none =>
    exfalso
    unfold putE at hp
    simp only at hp
    rw [if_pos hn.find] at hp
    have hr : roomE a x.key = roomW (wayL a x.key) := if_neg (by have := hn.find; omega)
    by_cases c : roomE a x.key < 0
    · have h2 := roomW_neg _ (hr ▸ c)
      have h3 : flowsOf a = a := List.filter_eq_self.2 fun y hy => by
        obtain ⟨q, hq, e⟩ := List.getElem_of_mem hy
        have := h2 (q, y) (way_all _ (by simp [hq, e]))
        simpa [isLive] using this
      rw [h3] at hl; omega
    · rw [if_neg c] at hp; cases hp
  | some u =>
    obtain ⟨j, hj, rfl, hf, hc⟩ := putE_find hp h1
    refine ⟨_, rfl, ?_⟩
    have hj1 : a[j]? = some a[j] := List.getElem?_eq_getElem hj
    have hs := flowsOf_set (x := x) hj1
    have hnl : a[j].st ≠ 1 := fun c => by
      rcases hc with hc | ⟨_, hc⟩
      · have := hn.find; omega
      · have hm : ∀ L, roomW L = (j : Nat) → ∃ y, (j, y) ∈ L ∧ y.st ≠ 1 := by
          intro L
          induction L with
          | nil => intro h; simp [roomW] at h <;> omega
          | cons p L ih =>
            intro h
            simp only [roomW] at h
            split at h
            · obtain ⟨y, h1, h2⟩ := ih h; exact ⟨y, List.mem_cons_of_mem _ h1, h2⟩
            · rename_i c2
              have : p.1 = j := by omega
              exact ⟨p.2, by rw [← this]; simp, c2⟩
        obtain ⟨y, h2, h3⟩ := hm _ hc
        have h4 := wayL_get h2
        rw [hj1] at h4
        injection h4 with h4
        exact h3 (by rw [h4] at c; exact c)
    unfold oneE at hs
    rw [if_neg hnl, if_pos h1] at hs
    simpa using hs
theorem flowsOf_new (n : Nat) : flowsOf (newE n) = [] := by
  unfold flowsOf newE
  rw [List.filter_eq_nil_iff]
  intro x hx
  rw [(List.mem_replicate.1 hx).2]; simp [isLive, noE]
theorem flowsOf_tidy {l : List EnV} (h : rightE l = true) (hl : l.length ≤ 64) : (flowsOf (tidyE l)).Perm (flowsOf l) := by
  have hmain : ∀ (L : List (Nat × EnV)) (a : List EnV), (∀ p ∈ L, p.2.st = 1) → ((flowsOf a ++ L.map (·.2)).map (·.key)).Nodup → (flowsOf a).length + L.length ≤ a.length →
      (flowsOf (L.foldl (fun acc p => putS acc p.2) a)).Perm (flowsOf a ++ L.map (·.2)) := by
    intro L
    induction L with
    | nil => intro a _ _ _; simp
    | cons p L ih =>
      intro a hL hn hlen
      rw [List.foldl_cons]
      simp only [List.length_cons] at hlen
      have hk : noKey a p.2.key := noKey_flowsOf.2 fun x hx e => by
        rw [List.map_append, List.nodup_append] at hn
        exact hn.2.2 _ (List.mem_map_of_mem hx) p.2.key (by simp) e
      obtain ⟨u, hu, hp⟩ := put_room (hL p (List.mem_cons_self ..)) hk (by omega)
      have e : putS a p.2 = u := by simp [putS, hu]
      rw [e]
      have hlu := putE_len hu
      have hpl := hp.length_eq
      have hperm : (flowsOf u ++ L.map (·.2)).Perm (flowsOf a ++ (p :: L).map (·.2)) := by
        refine (hp.append_right _).trans ?_
        rw [List.map_cons]
        exact (List.perm_middle (a := p.2) (l₁ := flowsOf a) (l₂ := L.map (·.2))).symm
      refine (ih u (fun q hq => hL q (List.mem_cons_of_mem _ hq)) ?_ ?_).trans hperm
      · exact ((hperm.map _).nodup_iff).2 hn
      · rw [hpl, List.length_cons, hlu]; omega
  unfold tidyE
  have hm : (liveL l).map (·.2) = flowsOf l := live_flowsOf l 0
  have h1 := hmain (liveL l) (newE l.length) (fun p hp => (liveL_iff.1 hp).2) (by rw [flowsOf_new, hm]; exact nodup_of_right h)
    (by rw [flowsOf_new, newE_len]
        have : (liveL l).length = (flowsOf l).length := by rw [← hm]; simp
        have h2 : (flowsOf l).length ≤ l.length := List.length_filter_le ..
        simp only [List.length_nil]; omega)
  rw [flowsOf_new, hm] at h1
  exact h1
theorem flowsOf_settle {l : List EnV} (h : rightE l = true) (hl : l.length ≤ 64) : (flowsOf (settleE l)).Perm (flowsOf l) := by
  unfold settleE; split
  · exact flowsOf_tidy h hl
  · exact .refl _
theorem settle_len {l : List EnV} (hl : l.length ≤ 64) : (settleE l).length = l.length := by
  unfold settleE; split
  · unfold tidyE; rw [tidy_len, newE_len]; omega
  · rfl
end Go.Proofs.YtggakcpabomliaaGreat
namespace Go.Proofs.YtggakcpabomliaaGreat
open Go
theorem set_sh2 {l : List ShV} {i n n' : Nat} {t : Value × List EnV} (hx : l[i]? = some (t, n)) : setL (l.flatMap encSh) (i * 2 + 1) [.int .i64 (n' : Int)] = (l.set i (t, n')).flatMap encSh := by
  obtain ⟨hi, _⟩ := List.getElem?_eq_some_iff.1 hx
  have h1 := setL_flat (f := encSh) (k := 2) (fun _ => rfl) l i (t, n') hi
  rw [← h1]
  have h2 := flat_get (f := encSh) (k := 2) (fun _ => rfl) l i 0 (by omega)
  rw [hx] at h2
  have h3 : (l.flatMap encSh)[i * 2]? = some t.1 := h2
  obtain ⟨h4, h5⟩ := List.getElem?_eq_some_iff.1 h3
  simp only [setL, encSh, List.length_cons, List.length_nil, Nat.zero_add]
  rw [List.take_add_one, h3]
  simp
/-- tables small enough, in shards few enough -/
structure MoOk (m : MoH) : Prop where
  few : m.ts.length ≤ 1000
  len : ∀ t ∈ m.ts, t.1.2.length ≤ 1000000
  keys : ∀ t ∈ m.ts, KeysOk t.1.2
def expV (s : MoS) (i now : Int) : MoS × AnsV :=
  if i < 0 ∨ (s.tabs.length : Int) ≤ i then (s, ⟨1, 0, false, 0⟩)
  else let t := s.tabs.getD i.toNat ([], 0); let r := sweepV t.1 t.2 4 now; ({ s with tabs := s.tabs.set i.toNat (r.1, r.2.1) }, ⟨0, 0, false, (r.2.2 : Nat)⟩)
theorem expire_ok (w : World) (m : MoH) (o : OpV) (v : Value) (now : Int) (hv : v.cells = #[v] ∧ plain v = true) (hm : MoOk m) (hw : LW false (foots (modH m)) w (modH m) w) :
    Fn PR NoX 63 #[.pointer (some ⟨m.b, 0, none⟩), o.val v, .int .i64 now] w (DoR w m (expV m.st o.shard now)) := by
  refine mk_model_Model_expire (TW.goH (κ := false) (S := foots (modH m)) ?_ hw)
  unfold sh_model_Model_expire
  simp only [OpV.val]
  unfold DoR
  have hlen := hm.few
  have hstl : m.st.tabs.length = m.ts.length := by simp [MoH.st]
  generalize hS : foots (modH m) = S at *
  simp only [modH]
  refine T_opn (e := 113) (k := 2) (v := m.sv) (q := m.ts.length) (xs := m.ts.flatMap encSh) (by ((repeat (first | exact mem_h | exact Up.here | exact Sel.here | apply mem_t | apply Up.there | apply Sel.there)); first | done | fail)) ?_
  intro sa sc hsv
  rw [hsv]
  have hpt : ∀ r' : MoS × AnsV, r' = (m.st, ⟨1, 0, false, 0⟩) → True := fun _ _ => trivial
  by_cases c1 : o.shard < 0
  · have e : expV m.st o.shard now = (m.st, ⟨1, 0, false, 0⟩) := if_pos (Or.inl c1)
    rw [e]
    (have hQq : True := trivial; repeat ((first | clear hQq | (with_reducible first | refine T_drw ?_ | refine T_bx fun _ => ?_ | refine s_al fun _ => ?_ | refine s_bs0 fun _ => ?_ | refine s_bs1 (hK := fun _ => ?_) | refine s_bs2 (hK := fun _ => ?_) | refine s_bs3 (hK := fun _ => ?_) | refine s_bs5 (hK := fun _ => ?_) | refine s_bs6 (hK := fun _ => ?_))); (try simp (disch := first | omega | assumption | ((repeat (first | exact mem_h | exact Up.here | apply mem_t | apply Up.there)); first | done | fail) | (simp; first | done | omega | fail)) [c1])))
    refine T_rets m ⟨by simp [AnsV.val], rfl, rfl⟩ ?_
    simp only [modH, hsv]
    ((repeat (first | exact Sels.nil | (apply Sels.cons; · ((repeat (first | exact mem_h | exact Up.here | exact Sel.here | apply mem_t | apply Up.there | apply Sel.there)); first | done | fail)))); first | done | fail)
  by_cases c2 : (m.ts.length : Int) ≤ o.shard
  · have e : expV m.st o.shard now = (m.st, ⟨1, 0, false, 0⟩) := if_pos (Or.inr (by rw [hstl]; exact c2))
    rw [e]
    (have hQq : True := trivial; repeat ((first | clear hQq | (with_reducible first | refine T_drw ?_ | refine T_bx fun _ => ?_ | refine s_al fun _ => ?_ | refine s_bs0 fun _ => ?_ | refine s_bs1 (hK := fun _ => ?_) | refine s_bs2 (hK := fun _ => ?_) | refine s_bs3 (hK := fun _ => ?_) | refine s_bs5 (hK := fun _ => ?_) | refine s_bs6 (hK := fun _ => ?_))); (try simp (disch := first | omega | assumption | ((repeat (first | exact mem_h | exact Up.here | apply mem_t | apply Up.there)); first | done | fail) | (simp; first | done | omega | fail)) [c1, c2])))
    refine T_rets m ⟨by simp [AnsV.val], rfl, rfl⟩ ?_
    simp only [modH, hsv]
    ((repeat (first | exact Sels.nil | (apply Sels.cons; · ((repeat (first | exact mem_h | exact Up.here | exact Sel.here | apply mem_t | apply Up.there | apply Sel.there)); first | done | fail)))); first | done | fail)
  obtain ⟨i, hi⟩ : ∃ i : Nat, o.shard = i := ⟨o.shard.toNat, by omega⟩
  rw [hi] at c1 c2 ⊢
  have hlt : i < m.ts.length := by omega
  obtain ⟨⟨⟨tv, tl⟩, tn⟩, hx⟩ : ∃ x, m.ts[i]? = some x := ⟨_, List.getElem?_eq_getElem hlt⟩
  have hxm := List.mem_of_getElem? hx
  have hgd : m.st.tabs.getD i ([], 0) = (tl, tn) := by simp [MoH.st, List.getD_eq_getElem?_getD, hx]
  have e : expV m.st i now = ({ m.st with tabs := m.st.tabs.set i ((sweepV tl tn 4 now).1, (sweepV tl tn 4 now).2.1) }, ⟨0, 0, false, ((sweepV tl tn 4 now).2.2 : Nat)⟩) := by
    unfold expV
    rw [if_neg (by rw [hstl]; omega)]
    simp only [Int.toNat_natCast, hgd]
  rw [e]
  have h0 : (m.ts.flatMap encSh)[i * 2]? = some tv := by
    have := flat_get (f := encSh) (k := 2) (fun _ => rfl) m.ts i 0 (by omega); rw [hx] at this; exact this
  have h1 : (m.ts.flatMap encSh)[i * 2 + 1]? = some (.int .i64 (tn : Int)) := by
    have := flat_get (f := encSh) (k := 2) (fun _ => rfl) m.ts i 1 (by omega); rw [hx] at this; exact this
  refine T_ptr (e := 113) (k := 2) (v := .slice sa m.ts.length sc) (q := m.ts.length) (xs := m.ts.flatMap encSh) (by ((repeat (first | exact mem_h | exact Up.here | exact Sel.here | apply mem_t | apply Up.there | apply Sel.there)); first | done | fail)) (by omega) ?_
  rintro g gc hg
  cases hg
  (have hQq : True := trivial; repeat ((first | clear hQq | (with_reducible first | refine T_drw ?_ | refine T_bx fun _ => ?_ | refine s_al fun _ => ?_ | refine s_bs0 fun _ => ?_ | refine s_bs1 (hK := fun _ => ?_) | refine s_bs2 (hK := fun _ => ?_) | refine s_bs3 (hK := fun _ => ?_) | refine s_bs5 (hK := fun _ => ?_) | refine s_bs6 (hK := fun _ => ?_))); (try simp (disch := first | omega | assumption | ((repeat (first | exact mem_h | exact Up.here | apply mem_t | apply Up.there)); first | done | fail) | (simp; first | done | omega | fail)) [c1, c2, hlt, h0, h1])))
  refine T_cn ent_sweep_Step (fun w' hw' => Step_ok w' tv tl tn 4 now (hm.keys _ hxm) (hm.len _ hxm) (tab_rd (t := (tv, tl)) hw' (ts := m.ts.map (·.1)) (by ((repeat (first | exact mem_h | exact Up.here | exact Sel.here | apply mem_t | apply Up.there | apply Sel.there)); first | done | fail)) (List.mem_map.2 ⟨_, hxm, rfl⟩))) ?_
  rintro r _ rfl
  refine T_open (e := 71) (k := 4) (v := r) (q := (sweepV tl tn 4 now).1.length) (xs := (sweepV tl tn 4 now).1.flatMap encE) (by ((repeat (first | exact mem_h | exact Up.here | exact Sel.here | apply mem_t | apply Up.there | apply Sel.there)); first | done | fail)) fun hr1 hr2 hr3 => ?_
  (have hQq : True := trivial; repeat ((first | clear hQq | (with_reducible first | refine T_drw ?_ | refine T_bx fun _ => ?_ | refine s_al fun _ => ?_ | refine s_bs0 fun _ => ?_ | refine s_bs1 (hK := fun _ => ?_) | refine s_bs2 (hK := fun _ => ?_) | refine s_bs3 (hK := fun _ => ?_) | refine s_bs5 (hK := fun _ => ?_) | refine s_bs6 (hK := fun _ => ?_))); (try simp (disch := first | omega | assumption | ((repeat (first | exact mem_h | exact Up.here | apply mem_t | apply Up.there)); first | done | fail) | (simp; first | done | omega | fail)) [c1, c2, hlt])))
  have hr4 : r.cells.toList = [r] := by rw [hr1]
  refine s_st_own (by ((repeat (first | exact mem_h | exact Up.here | exact Sel.here | apply mem_t | apply Up.there | apply Sel.there)); first | done | fail)) (by simp [hr1]) (by rw [flat_len (k := 2) fun _ => rfl]; omega) (by simp [hr3]) ?_
  rw [hr4, set_sh (e' := (sweepV tl tn 4 now).1) hx]
  have hx2 : (m.ts.set i ((r, (sweepV tl tn 4 now).1), tn))[i]? = some ((r, (sweepV tl tn 4 now).1), tn) := by simp [hlt]
  (have hQq : True := trivial; repeat ((first | clear hQq | (with_reducible first | refine T_drw ?_ | refine T_bx fun _ => ?_ | refine s_al fun _ => ?_ | refine s_bs0 fun _ => ?_ | refine s_bs1 (hK := fun _ => ?_) | refine s_bs2 (hK := fun _ => ?_) | refine s_bs3 (hK := fun _ => ?_) | refine s_bs5 (hK := fun _ => ?_) | refine s_bs6 (hK := fun _ => ?_))); (try simp (disch := first | omega | assumption | ((repeat (first | exact mem_h | exact Up.here | apply mem_t | apply Up.there)); first | done | fail) | (simp; first | done | omega | fail)) [c1, c2, hlt])))
  refine s_st_own (by ((repeat (first | exact mem_h | exact Up.here | exact Sel.here | apply mem_t | apply Up.there | apply Sel.there)); first | done | fail)) (by simp) (by rw [flat_len (k := 2) fun _ => rfl, List.length_set]; omega) (by simp) ?_
  simp only [cells_int]
  rw [set_sh2 hx2, List.set_set]
  (have hQq : True := trivial; repeat ((first | clear hQq | (with_reducible first | refine T_drw ?_ | refine T_bx fun _ => ?_ | refine s_al fun _ => ?_ | refine s_bs0 fun _ => ?_ | refine s_bs1 (hK := fun _ => ?_) | refine s_bs2 (hK := fun _ => ?_) | refine s_bs3 (hK := fun _ => ?_) | refine s_bs5 (hK := fun _ => ?_) | refine s_bs6 (hK := fun _ => ?_))); (try simp (disch := first | omega | assumption | ((repeat (first | exact mem_h | exact Up.here | apply mem_t | apply Up.there)); first | done | fail) | (simp; first | done | omega | fail)) [])))
  refine T_tabPut (r := r) (l := (sweepV tl tn 4 now).1) (i := i) (by ((repeat (first | exact Part.nil | (apply Part.cons; · ((repeat (first | exact mem_h | exact Up.here | exact Sel.here | apply mem_t | apply Up.there | apply Sel.there)); first | done | fail)))); first | done | fail)) ?_
  refine T_rets { m with sv := .slice (some ⟨g, 0, none⟩) m.ts.length sc, ts := m.ts.set i ((r, (sweepV tl tn 4 now).1), (sweepV tl tn 4 now).2.1) } ⟨by simp [AnsV.val], rfl, by simp [MoH.st, List.map_set]⟩ ?_
  simp only [modH, List.map_set, List.length_set]
  ((repeat (first | exact Sels.nil | (apply Sels.cons; · ((repeat (first | exact mem_h | exact Up.here | exact Sel.here | apply mem_t | apply Up.there | apply Sel.there)); first | done | fail)))); first | done | fail)
end Go.Proofs.YtggakcpabomliaaGreat
namespace Go.Proofs.YtggakcpabomliaaGreat
open Go
def liveN (ts : List (List EnV × Nat)) : Nat := (ts.map fun t => countE t.1 1).sum
theorem liveN_le (ts : List (List EnV × Nat)) (h : ∀ t ∈ ts, t.1.length ≤ 1000000) : liveN ts ≤ ts.length * 1000000 := by
  induction ts with
  | nil => simp [liveN]
  | cons t ts ih =>
    have h1 := ih fun x hx => h x (by simp [hx])
    have h2 := h t (by simp)
    have h3 : countE t.1 1 ≤ t.1.length := List.countP_le_length
    have e : liveN (t :: ts) = countE t.1 1 + liveN ts := by simp [liveN]
    rw [e, List.length_cons]; omega
def statV (s : MoS) : MoS × AnsV := (s, ⟨0, 0, false, (liveN s.tabs : Nat)⟩)
theorem stats_ok (w : World) (m : MoH) (o : OpV) (v : Value) (now : Int) (hv : v.cells = #[v] ∧ plain v = true) (hm : MoOk m) (hw : LW false (foots (modH m)) w (modH m) w) :
    Fn PR NoX 64 #[.pointer (some ⟨m.b, 0, none⟩), o.val v, .int .i64 now] w (DoR w m (statV m.st)) := by
  refine mk_model_Model_stats (TW.goH (κ := false) (S := foots (modH m)) ?_ hw)
  unfold sh_model_Model_stats
  simp only [OpV.val]
  unfold DoR
  have hlen := hm.few
  generalize hS : foots (modH m) = S at *
  simp only [modH]
  refine T_opn (e := 113) (k := 2) (v := m.sv) (q := m.ts.length) (xs := m.ts.flatMap encSh) (by ((repeat (first | exact mem_h | exact Up.here | exact Sel.here | apply mem_t | apply Up.there | apply Sel.there)); first | done | fail)) ?_
  intro sa sc hsv
  rw [hsv]
  (have hQq : True := trivial; repeat ((first | clear hQq | (with_reducible first | refine T_drw ?_ | refine T_bx fun _ => ?_ | refine s_al fun _ => ?_ | refine s_bs0 fun _ => ?_ | refine s_bs1 (hK := fun _ => ?_) | refine s_bs2 (hK := fun _ => ?_) | refine s_bs3 (hK := fun _ => ?_) | refine s_bs5 (hK := fun _ => ?_) | refine s_bs6 (hK := fun _ => ?_))); (try simp (disch := first | omega | assumption | ((repeat (first | exact mem_h | exact Up.here | apply mem_t | apply Up.there)); first | done | fail) | (simp; first | done | omega | fail)) [])))
  rename_i b4 b6 b7
  obtain ⟨tb, htb⟩ : ∃ tb, tb = m.ts.map fun t => (t.1.2, t.2) := ⟨_, rfl⟩
  have htl : tb.length = m.ts.length := by rw [htb]; simp
  refine T_for0 m.ts.length (fun i => [.pt b7 (.cells #[.int .i64 0, .int .i64 0, .bool false, .int .i64 (liveN (tb.take i) : Nat)] 39), .pt b6 (.cells #[.int .i64 0, .int .i64 0, .bool false, .int .i64 0] 39),
    .pt b4 (.cells #[.int .i64 o.kind, .string o.packet, v, .int .i64 o.shard] 42), .pt m.b (.cells #[.int .i64 m.c.wk, .int .i64 m.c.sh, .int .i64 m.c.cp, .int .i64 m.c.idle, .int .i64 m.c.sl, m.pv, .slice sa m.ts.length sc] 109),
    .own 103 2 m.pv m.pool.length (m.pool.flatMap encB), .own 113 2 (.slice sa m.ts.length sc) m.ts.length (m.ts.flatMap encSh), tabR (m.ts.map (·.1))]) ?_
  intro i hi L hL
  have hsum : liveN (tb.take i) ≤ 1000000000 := by
    have := liveN_le (tb.take i) (by
      intro t ht
      have ht2 := List.mem_of_mem_take ht
      rw [htb] at ht2
      obtain ⟨x, hx, rfl⟩ := List.mem_map.1 ht2; exact hm.len x hx)
    have h2 : (tb.take i).length ≤ 1000 := by rw [List.length_take]; omega
    have h3 : (tb.take i).length * 1000000 ≤ 1000 * 1000000 := Nat.mul_le_mul_right _ h2
    omega
  by_cases hlt : i < m.ts.length
  · obtain ⟨⟨⟨tv, tl⟩, tn⟩, hx⟩ : ∃ x, m.ts[i]? = some x := ⟨_, List.getElem?_eq_getElem hlt⟩
    have hxm := List.mem_of_getElem? hx
    have h0 : (m.ts.flatMap encSh)[i * 2]? = some tv := by
      have := flat_get (f := encSh) (k := 2) (fun _ => rfl) m.ts i 0 (by omega); rw [hx] at this; exact this
    have hst : liveN (tb.take (i + 1)) = liveN (tb.take i) + countE tl 1 := by
      have hx2 : tb[i]? = some (tl, tn) := by rw [htb, List.getElem?_map, hx]; rfl
      rw [List.take_add_one, hx2]; simp [liveN]
    have hcl : countE tl 1 ≤ 1000000 := Nat.le_trans List.countP_le_length (hm.len _ hxm)
    have hL' := hL hlt
    rw [hst] at hL'
    refine T_ptr (e := 113) (k := 2) (v := .slice sa m.ts.length sc) (q := m.ts.length) (xs := m.ts.flatMap encSh) (by ((repeat (first | exact mem_h | exact Up.here | exact Sel.here | apply mem_t | apply Up.there | apply Sel.there)); first | done | fail)) (by omega) ?_
    rintro g gc hg
    cases hg
    (have hQq : True := trivial; repeat ((first | clear hQq | (with_reducible first | refine T_drw ?_ | refine T_bx fun _ => ?_ | refine s_al fun _ => ?_ | refine s_bs0 fun _ => ?_ | refine s_bs1 (hK := fun _ => ?_) | refine s_bs2 (hK := fun _ => ?_) | refine s_bs3 (hK := fun _ => ?_) | refine s_bs5 (hK := fun _ => ?_) | refine s_bs6 (hK := fun _ => ?_))); (try simp (disch := first | omega | assumption | ((repeat (first | exact mem_h | exact Up.here | apply mem_t | apply Up.there)); first | done | fail) | (simp; first | done | omega | fail)) [hlt])))
    refine T_cv ent_model_table_live (fun w' hw' => live_ok2 w' g (i * 2) tv tl (by have := (hw'.ownr (e := 113) (k := 2) (q := m.ts.length) (c := sc) (xs := m.ts.flatMap encSh) (by ((repeat (first | exact mem_h | exact Up.here | exact Sel.here | apply mem_t | apply Up.there | apply Sel.there)); first | done | fail))).get h0; rwa [Nat.zero_add] at this) (hm.len _ hxm) (tab_rd (t := (tv, tl)) hw' (ts := m.ts.map (·.1)) (by ((repeat (first | exact mem_h | exact Up.here | exact Sel.here | apply mem_t | apply Up.there | apply Sel.there)); first | done | fail)) (List.mem_map.2 ⟨_, hxm, rfl⟩))) ?_
    (have hQq : True := trivial; repeat ((first | clear hQq | (with_reducible first | refine T_drw ?_ | refine T_bx fun _ => ?_ | refine s_al fun _ => ?_ | refine s_bs0 fun _ => ?_ | refine s_bs1 (hK := fun _ => ?_) | refine s_bs2 (hK := fun _ => ?_) | refine s_bs3 (hK := fun _ => ?_) | refine s_bs5 (hK := fun _ => ?_) | refine s_bs6 (hK := fun _ => ?_))); (try simp (disch := first | omega | assumption | ((repeat (first | exact mem_h | exact Up.here | apply mem_t | apply Up.there)); first | done | fail) | (simp; first | done | omega | fail)) [])))
    exact TW.eqH (by simp) hL'
  · obtain rfl : i = m.ts.length := by omega
    rw [← htl, List.take_length, htl]
    (have hQq : True := trivial; repeat ((first | clear hQq | (with_reducible first | refine T_drw ?_ | refine T_bx fun _ => ?_ | refine s_al fun _ => ?_ | refine s_bs0 fun _ => ?_ | refine s_bs1 (hK := fun _ => ?_) | refine s_bs2 (hK := fun _ => ?_) | refine s_bs3 (hK := fun _ => ?_) | refine s_bs5 (hK := fun _ => ?_) | refine s_bs6 (hK := fun _ => ?_))); (try simp (disch := first | omega | assumption | ((repeat (first | exact mem_h | exact Up.here | apply mem_t | apply Up.there)); first | done | fail) | (simp; first | done | omega | fail)) [])))
    refine T_rets m ⟨by simp [AnsV.val, statV, MoH.st, htb], rfl, rfl⟩ ?_
    simp only [modH, hsv]
    ((repeat (first | exact Sels.nil | (apply Sels.cons; · ((repeat (first | exact mem_h | exact Up.here | exact Sel.here | apply mem_t | apply Up.there | apply Sel.there)); first | done | fail)))); first | done | fail)
end Go.Proofs.YtggakcpabomliaaGreat
namespace Go.Proofs.YtggakcpabomliaaGreat
open Go
def keyB (k : KeyV) : ByteArray := if bytesOk k then bytesV k else noB
def dispV (s : MoS) (pk : ByteArray) (now : Int) : MoS × AnsV :=
  let x := packetV pk
  if x.2.2 ≠ 0 then (s, ⟨9, 0, false, 0⟩)
  else
    let i := shardV (keyB x.1) s.c.sh
    let t := s.tabs.getD i ([], 0)
    let r := decideV t.1 s.pool (keyB x.1) (closingV x.1 x.2.1) now s.c.idle
    ({ s with tabs := s.tabs.set i (r.1, t.2) }, r.2.1)
structure MoOk2 (m : MoH) : Prop extends MoOk m where
  pool : m.pool.length ≤ 1000
  sh : m.c.sh = m.ts.length
  pos : 0 < m.ts.length
theorem decideV_same {l : List EnV} {p : List BkV} {key : ByteArray} {c : Bool} {now idle : Int} (h : (decideV l p key c now idle).2.2 = false) : (decideV l p key c now idle).1 = l := by
  unfold decideV at h ⊢
  split
  · rfl
  · rw [if_neg ‹_›] at h
    split
    · rw [if_pos ‹_›] at h
      simp only at h
      cases hd : del0 l key with
      | none => simp [delE, hd]
      | some u => rw [hd] at h; cases h
    · rw [if_neg ‹_›] at h
      cases hp : putE l (newX l p key now idle) with
      | none => rfl
      | some u => rw [hp] at h; cases h
theorem T_tabOpen {κ : Bool} {S : List Nat} {w0 : World} {H : List Res} {K0 : WP} {ts : List (Value × List EnV)} {t : Value × List EnV} (hm : tabR ts ∈ H) (ht : t ∈ ts) (h : t.1.cells = #[t.1] → t.1.cells.size = 1 → t.1.cells.toList.all plain = true → TW κ S w0 H K0) : TW κ S w0 H K0 := fun w hw => by
  obtain ⟨a, c, e⟩ := Own.form ((hw.hold _ hm : tabP ts w) t ht)
  exact h (by rw [e]; rfl) (by rw [e]; rfl) (by rw [e]; rfl) w hw
theorem putB_le (s t : ByteArray) (o : Nat) : (putB s o t).size ≤ o + t.size + s.size := by
  simp only [putB, ByteArray.size_append, ByteArray.size_extract]; omega
theorem putV2_le (x : Int) : (putV x 2).size ≤ 2 := by simp
theorem keyB_size (k : KeyV) : (keyB k).size < 2 ^ 60 := by
  unfold keyB
  split
  · rename_i h
    simp only [bytesOk, decide_eq_true_eq] at h
    have hl : longV k.v ≤ 16 := by unfold longV; split <;> (try split) <;> omega
    have h1 := putB_le (putB (putB z38 0 (putV (k.v * 256 + k.proto) 2 ++ putV k.fr 2 ++ putV k.tp 2)) 6 k.src) k.dst 22
    have h2 := putB_le (putB z38 0 (putV (k.v * 256 + k.proto) 2 ++ putV k.fr 2 ++ putV k.tp 2)) k.src 6
    have h3 := putB_le z38 (putV (k.v * 256 + k.proto) 2 ++ putV k.fr 2 ++ putV k.tp 2) 0
    have h4 := putV2_le (k.v * 256 + k.proto)
    have h5 := putV2_le k.fr
    have h6 := putV2_le k.tp
    have h7 := z38_size
    simp only [ByteArray.size_append] at h3
    unfold bytesV
    omega
  · simp
theorem dispatch_ok (w : World) (m : MoH) (o : OpV) (v : Value) (now : Int) (hv : v.cells = #[v] ∧ plain v = true) (hpk : o.packet.size < 2 ^ 40) (hm : MoOk2 m) (hw : LW false (foots (modH m)) w (modH m) w) :
    Fn PR NoX 61 #[.pointer (some ⟨m.b, 0, none⟩), o.val v, .int .i64 now] w (DoR w m (dispV m.st o.packet now)) := by
  refine mk_model_Model_dispatch (TW.goH (κ := false) (S := foots (modH m)) ?_ hw)
  unfold sh_model_Model_dispatch
  simp only [OpV.val]
  unfold DoR
  have hlen := hm.few
  generalize hS : foots (modH m) = S at *
  simp only [modH]
  refine T_opn (e := 113) (k := 2) (v := m.sv) (q := m.ts.length) (xs := m.ts.flatMap encSh) (by ((repeat (first | exact mem_h | exact Up.here | exact Sel.here | apply mem_t | apply Up.there | apply Sel.there)); first | done | fail)) ?_
  intro sa sc hsv
  rw [hsv]
  (have hQq : True := trivial; repeat ((first | clear hQq | (with_reducible first | refine T_drw ?_ | refine T_bx fun _ => ?_ | refine s_al fun _ => ?_ | refine s_bs0 fun _ => ?_ | refine s_bs1 (hK := fun _ => ?_) | refine s_bs2 (hK := fun _ => ?_) | refine s_bs3 (hK := fun _ => ?_) | refine s_bs5 (hK := fun _ => ?_) | refine s_bs6 (hK := fun _ => ?_))); (try simp (disch := first | omega | assumption | ((repeat (first | exact mem_h | exact Up.here | apply mem_t | apply Up.there)); first | done | fail) | (simp; first | done | omega | fail)) [])))
  refine T_cv ent_packet_Parse (fun w' hw' => packetParse_ok w' o.packet hpk) ?_
  by_cases c1 : (packetV o.packet).2.2 = 0
  case neg =>
    have e : dispV m.st o.packet now = (m.st, ⟨9, 0, false, 0⟩) := by unfold dispV; simp only; rw [if_pos c1]
    rw [e]
    (have hQq : True := trivial; repeat ((first | clear hQq | (with_reducible first | refine T_drw ?_ | refine T_bx fun _ => ?_ | refine s_al fun _ => ?_ | refine s_bs0 fun _ => ?_ | refine s_bs1 (hK := fun _ => ?_) | refine s_bs2 (hK := fun _ => ?_) | refine s_bs3 (hK := fun _ => ?_) | refine s_bs5 (hK := fun _ => ?_) | refine s_bs6 (hK := fun _ => ?_))); (try simp (disch := first | omega | assumption | ((repeat (first | exact mem_h | exact Up.here | apply mem_t | apply Up.there)); first | done | fail) | (simp; first | done | omega | fail)) [packet.val, packetC, c1])))
    refine T_rets m ⟨by simp [AnsV.val], rfl, rfl⟩ ?_
    simp only [modH, hsv]
    ((repeat (first | exact Sels.nil | (apply Sels.cons; · ((repeat (first | exact mem_h | exact Up.here | exact Sel.here | apply mem_t | apply Up.there | apply Sel.there)); first | done | fail)))); first | done | fail)
  have hk := keyB_size (packetV o.packet).1
  (have hQq : True := trivial; repeat ((first | clear hQq | (with_reducible first | refine T_drw ?_ | refine T_bx fun _ => ?_ | refine s_al fun _ => ?_ | refine s_bs0 fun _ => ?_ | refine s_bs1 (hK := fun _ => ?_) | refine s_bs2 (hK := fun _ => ?_) | refine s_bs3 (hK := fun _ => ?_) | refine s_bs5 (hK := fun _ => ?_) | refine s_bs6 (hK := fun _ => ?_))); (try simp (disch := first | omega | assumption | ((repeat (first | exact mem_h | exact Up.here | apply mem_t | apply Up.there)); first | done | fail) | (simp; first | done | omega | fail)) [packet.val, packetC, c1])))
  refine T_cv (u := bytesR (packetV o.packet).1) ent_packet_Bytes (fun w' hw' => bytes_ok w' (packetV o.packet).1) ?_
  (have hQq : True := trivial; repeat ((first | clear hQq | (with_reducible first | refine T_drw ?_ | refine T_bx fun _ => ?_ | refine s_al fun _ => ?_ | refine s_bs0 fun _ => ?_ | refine s_bs1 (hK := fun _ => ?_) | refine s_bs2 (hK := fun _ => ?_) | refine s_bs3 (hK := fun _ => ?_) | refine s_bs5 (hK := fun _ => ?_) | refine s_bs6 (hK := fun _ => ?_))); (try simp (disch := first | omega | assumption | ((repeat (first | exact mem_h | exact Up.here | apply mem_t | apply Up.there)); first | done | fail) | (simp; first | done | omega | fail)) [bytesR])))
  rename_i b4 b6 b7
  have hsh := hm.sh
  have hpos := hm.pos
  rw [show (if bytesOk (packetV o.packet).1 = true then bytesV (packetV o.packet).1 else noB) = keyB (packetV o.packet).1 from rfl]
  generalize hkey : keyB (packetV o.packet).1 = key at *
  refine T_cv ent_model_Shard (fun w' hw' => Shard_ok w' key m.c.sh hk (by omega)) ?_
  have hlt : shardV key m.c.sh < m.ts.length := by
    unfold shardV; rw [if_neg (by omega), hsh, Int.toNat_natCast]; exact Nat.mod_lt _ hpos
  have e : dispV m.st o.packet now = ({ m.st with tabs := m.st.tabs.set (shardV key m.c.sh) ((decideV (m.st.tabs.getD (shardV key m.c.sh) ([], 0)).1 m.pool key (closingV (packetV o.packet).1 (packetV o.packet).2.1) now m.c.idle).1, (m.st.tabs.getD (shardV key m.c.sh) ([], 0)).2) },
      (decideV (m.st.tabs.getD (shardV key m.c.sh) ([], 0)).1 m.pool key (closingV (packetV o.packet).1 (packetV o.packet).2.1) now m.c.idle).2.1) := by
    unfold dispV; simp only; rw [if_neg (by rw [c1]; simp), hkey]; rfl
  rw [e]
  generalize shardV key m.c.sh = i at *
  obtain ⟨⟨⟨tv, tl⟩, tn⟩, hx⟩ : ∃ x, m.ts[i]? = some x := ⟨_, List.getElem?_eq_getElem hlt⟩
  have hxm := List.mem_of_getElem? hx
  have hgd : m.st.tabs.getD i ([], 0) = (tl, tn) := by simp [MoH.st, List.getD_eq_getElem?_getD, hx]
  rw [hgd]
  simp only
  generalize hcl : closingV (packetV o.packet).1 (packetV o.packet).2.1 = cl at *
  have h0 : (m.ts.flatMap encSh)[i * 2]? = some tv := by
    have := flat_get (f := encSh) (k := 2) (fun _ => rfl) m.ts i 0 (by omega); rw [hx] at this; exact this
  refine T_ptr (e := 113) (k := 2) (v := .slice sa m.ts.length sc) (q := m.ts.length) (xs := m.ts.flatMap encSh) (by ((repeat (first | exact mem_h | exact Up.here | exact Sel.here | apply mem_t | apply Up.there | apply Sel.there)); first | done | fail)) (by omega) ?_
  rintro g gc hg
  cases hg
  (have hQq : True := trivial; repeat ((first | clear hQq | (with_reducible first | refine T_drw ?_ | refine T_bx fun _ => ?_ | refine s_al fun _ => ?_ | refine s_bs0 fun _ => ?_ | refine s_bs1 (hK := fun _ => ?_) | refine s_bs2 (hK := fun _ => ?_) | refine s_bs3 (hK := fun _ => ?_) | refine s_bs5 (hK := fun _ => ?_) | refine s_bs6 (hK := fun _ => ?_))); (try simp (disch := first | omega | assumption | ((repeat (first | exact mem_h | exact Up.here | apply mem_t | apply Up.there)); first | done | fail) | (simp; first | done | omega | fail)) [hlt])))
  cases hnw : (decideV tl m.pool key cl now m.c.idle).2.2 with
  | true =>
    refine T_kt2 (α := Nat × Value) (fun x => x.2.cells = #[x.2] ∧ x.2.cells.size = 1 ∧ x.2.cells.toList.all plain = true) (fun x => [.pt x.1 (.cells #[.int .i64 (decideV tl m.pool key cl now m.c.idle).2.1.err, .int .i64 (decideV tl m.pool key cl now m.c.idle).2.1.bk, .bool (decideV tl m.pool key cl now m.c.idle).2.1.made, .int .i64 (decideV tl m.pool key cl now m.c.idle).2.1.count] 39), ownE x.2 (decideV tl m.pool key cl now m.c.idle).1, 
      .pt b7 (.cells #[.int .i64 (packetV o.packet).1.v, .string (packetV o.packet).1.src, .string (packetV o.packet).1.dst, .int .i64 (packetV o.packet).1.fr, .int .i64 (packetV o.packet).1.tp, .int .i64 (packetV o.packet).1.proto, .int .i64 (packetV o.packet).2.1] 101),
      .pt b6 (.cells #[.int .i64 0, .int .i64 0, .bool false, .int .i64 0] 39),
      .pt m.b (.cells #[.int .i64 m.c.wk, .int .i64 m.c.sh, .int .i64 m.c.cp, .int .i64 m.c.idle, .int .i64 m.c.sl, m.pv, .slice (some ⟨g, 0, none⟩) m.ts.length sc] 109),
      .own 103 2 m.pv m.pool.length (m.pool.flatMap encB), .own 113 2 (.slice (some ⟨g, 0, none⟩) m.ts.length sc) m.ts.length (m.ts.flatMap encSh), tabR (m.ts.map (·.1))])
      (fun x => .pointer (some ⟨x.1, 0, none⟩)) (fun x => x.2) ?_ ?_
    · rintro ⟨ba, r⟩ ⟨hr1, hr2, hr3⟩
      simp only at hr1 hr2 hr3 ⊢
      have hr4 : r.cells.toList = [r] := by rw [hr1]
      (have hQq : True := trivial; repeat ((first | clear hQq | (with_reducible first | refine T_drw ?_ | refine T_bx fun _ => ?_ | refine s_al fun _ => ?_ | refine s_bs0 fun _ => ?_ | refine s_bs1 (hK := fun _ => ?_) | refine s_bs2 (hK := fun _ => ?_) | refine s_bs3 (hK := fun _ => ?_) | refine s_bs5 (hK := fun _ => ?_) | refine s_bs6 (hK := fun _ => ?_))); (try simp (disch := first | omega | assumption | ((repeat (first | exact mem_h | exact Up.here | apply mem_t | apply Up.there)); first | done | fail) | (simp; first | done | omega | fail)) [hlt])))
      refine s_st_own (by ((repeat (first | exact mem_h | exact Up.here | exact Sel.here | apply mem_t | apply Up.there | apply Sel.there)); first | done | fail)) (by simp [hr1]) (by rw [flat_len (k := 2) fun _ => rfl]; omega) (by simp [hr3]) ?_
      rw [hr4, set_sh (e' := (decideV tl m.pool key cl now m.c.idle).1) hx]
      (have hQq : True := trivial; repeat ((first | clear hQq | (with_reducible first | refine T_drw ?_ | refine T_bx fun _ => ?_ | refine s_al fun _ => ?_ | refine s_bs0 fun _ => ?_ | refine s_bs1 (hK := fun _ => ?_) | refine s_bs2 (hK := fun _ => ?_) | refine s_bs3 (hK := fun _ => ?_) | refine s_bs5 (hK := fun _ => ?_) | refine s_bs6 (hK := fun _ => ?_))); (try simp (disch := first | omega | assumption | ((repeat (first | exact mem_h | exact Up.here | apply mem_t | apply Up.there)); first | done | fail) | (simp; first | done | omega | fail)) [])))
      refine T_tabPut (r := r) (l := (decideV tl m.pool key cl now m.c.idle).1) (i := i) (by ((repeat (first | exact Part.nil | (apply Part.cons; · ((repeat (first | exact mem_h | exact Up.here | exact Sel.here | apply mem_t | apply Up.there | apply Sel.there)); first | done | fail)))); first | done | fail)) ?_
      refine T_rets { m with sv := .slice (some ⟨g, 0, none⟩) m.ts.length sc, ts := m.ts.set i ((r, (decideV tl m.pool key cl now m.c.idle).1), tn) } ⟨by simp [AnsV.val], rfl, by simp [MoH.st, List.map_set]⟩ ?_
      simp only [modH, List.map_set, List.length_set]
      ((repeat (first | exact Sels.nil | (apply Sels.cons; · ((repeat (first | exact mem_h | exact Up.here | exact Sel.here | apply mem_t | apply Up.there | apply Sel.there)); first | done | fail)))); first | done | fail)
    · intro J hJ
      (have hQq : True := trivial; repeat ((first | clear hQq | (with_reducible first | refine T_drw ?_ | refine T_bx fun _ => ?_ | refine s_al fun _ => ?_ | refine s_bs0 fun _ => ?_ | refine s_bs1 (hK := fun _ => ?_) | refine s_bs2 (hK := fun _ => ?_) | refine s_bs3 (hK := fun _ => ?_) | refine s_bs5 (hK := fun _ => ?_) | refine s_bs6 (hK := fun _ => ?_))); (try simp (disch := first | omega | assumption | ((repeat (first | exact mem_h | exact Up.here | apply mem_t | apply Up.there)); first | done | fail) | (simp; first | done | omega | fail)) [hlt, h0])))
      have hclo : ∀ w', Fn PR NoX 106 #[packetC (packetV o.packet).1 (packetV o.packet).2.1] w' (fun u w'' => u = .bool cl ∧ But [] w' w'') := fun w' => by rw [← hcl]; exact closing_ok w' _ _
      refine ⟨?_, ?_⟩
      · refine T_cv ent_packet_Closing (fun w' _ => hclo w') ?_
        (have hQq : True := trivial; repeat ((first | clear hQq | (with_reducible first | refine T_drw ?_ | refine T_bx fun _ => ?_ | refine s_al fun _ => ?_ | refine s_bs0 fun _ => ?_ | refine s_bs1 (hK := fun _ => ?_) | refine s_bs2 (hK := fun _ => ?_) | refine s_bs3 (hK := fun _ => ?_) | refine s_bs5 (hK := fun _ => ?_) | refine s_bs6 (hK := fun _ => ?_))); (try simp (disch := first | omega | assumption | ((repeat (first | exact mem_h | exact Up.here | apply mem_t | apply Up.there)); first | done | fail) | (simp; first | done | omega | fail)) [h0])))
        refine ⟨?_, ?_⟩
        · refine T_cn ent_model_Decide (fun w' hw' => Decide_ok w' tv m.pv tl m.pool key cl now m.c.idle hk (hm.keys _ hxm) (hm.len _ hxm) hm.pool (tab_rd (t := (tv, tl)) hw' (ts := m.ts.map (·.1)) (by ((repeat (first | exact mem_h | exact Up.here | exact Sel.here | apply mem_t | apply Up.there | apply Sel.there)); first | done | fail)) (List.mem_map.2 ⟨_, hxm, rfl⟩)) (RdT.own (e := 103) (k := 2) (by ((repeat (first | exact mem_h | exact Up.here | exact Sel.here | apply mem_t | apply Up.there | apply Sel.there)); first | done | fail)) w' hw')) ?_
          rintro r _ rfl
          simp only [hnw, if_true]
          refine T_open (e := 71) (k := 4) (v := r) (q := (decideV tl m.pool key cl now m.c.idle).1.length) (xs := (decideV tl m.pool key cl now m.c.idle).1.flatMap encE) (by ((repeat (first | exact mem_h | exact Up.here | exact Sel.here | apply mem_t | apply Up.there | apply Sel.there)); first | done | fail)) fun hr1 hr2 hr3 => ?_
          (have hQq : True := trivial; repeat ((first | clear hQq | (with_reducible first | refine T_drw ?_ | refine T_bx fun _ => ?_ | refine s_al fun _ => ?_ | refine s_bs0 fun _ => ?_ | refine s_bs1 (hK := fun _ => ?_) | refine s_bs2 (hK := fun _ => ?_) | refine s_bs3 (hK := fun _ => ?_) | refine s_bs5 (hK := fun _ => ?_) | refine s_bs6 (hK := fun _ => ?_))); (try simp (disch := first | omega | assumption | ((repeat (first | exact mem_h | exact Up.here | apply mem_t | apply Up.there)); first | done | fail) | (simp; first | done | omega | fail)) [AnsV.val])))
          rename_i bx
          exact Sels.tw (by ((repeat (first | exact Sels.nil | (apply Sels.cons; · ((repeat (first | exact mem_h | exact Up.here | exact Sel.here | apply mem_t | apply Up.there | apply Sel.there)); first | done | fail)))); first | done | fail)) (hJ (bx, r) ⟨hr1, hr2, hr3⟩)
        · refine ⟨?_, fun _ _ => trivial⟩
          (have hQq : True := trivial; repeat ((first | clear hQq | (with_reducible first | refine T_drw ?_ | refine T_bx fun _ => ?_ | refine s_al fun _ => ?_ | refine s_bs0 fun _ => ?_ | refine s_bs1 (hK := fun _ => ?_) | refine s_bs2 (hK := fun _ => ?_) | refine s_bs3 (hK := fun _ => ?_) | refine s_bs5 (hK := fun _ => ?_) | refine s_bs6 (hK := fun _ => ?_))); (try simp (disch := first | omega | assumption | ((repeat (first | exact mem_h | exact Up.here | apply mem_t | apply Up.there)); first | done | fail) | (simp; first | done | omega | fail)) [h0])))
          rename_i bx
          refine T_cn ent_model_Decide (fun w' hw' => Decide_ok w' tv m.pv tl m.pool key cl now m.c.idle hk (hm.keys _ hxm) (hm.len _ hxm) hm.pool (tab_rd (t := (tv, tl)) hw' (ts := m.ts.map (·.1)) (by ((repeat (first | exact mem_h | exact Up.here | exact Sel.here | apply mem_t | apply Up.there | apply Sel.there)); first | done | fail)) (List.mem_map.2 ⟨_, hxm, rfl⟩)) (RdT.own (e := 103) (k := 2) (by ((repeat (first | exact mem_h | exact Up.here | exact Sel.here | apply mem_t | apply Up.there | apply Sel.there)); first | done | fail)) w' hw')) ?_
          rintro r _ rfl
          simp only [hnw, if_true]
          refine T_open (e := 71) (k := 4) (v := r) (q := (decideV tl m.pool key cl now m.c.idle).1.length) (xs := (decideV tl m.pool key cl now m.c.idle).1.flatMap encE) (by ((repeat (first | exact mem_h | exact Up.here | exact Sel.here | apply mem_t | apply Up.there | apply Sel.there)); first | done | fail)) fun hr1 hr2 hr3 => ?_
          (have hQq : True := trivial; repeat ((first | clear hQq | (with_reducible first | refine T_drw ?_ | refine T_bx fun _ => ?_ | refine s_al fun _ => ?_ | refine s_bs0 fun _ => ?_ | refine s_bs1 (hK := fun _ => ?_) | refine s_bs2 (hK := fun _ => ?_) | refine s_bs3 (hK := fun _ => ?_) | refine s_bs5 (hK := fun _ => ?_) | refine s_bs6 (hK := fun _ => ?_))); (try simp (disch := first | omega | assumption | ((repeat (first | exact mem_h | exact Up.here | apply mem_t | apply Up.there)); first | done | fail) | (simp; first | done | omega | fail)) [AnsV.val])))
          exact Sels.tw (by ((repeat (first | exact Sels.nil | (apply Sels.cons; · ((repeat (first | exact mem_h | exact Up.here | exact Sel.here | apply mem_t | apply Up.there | apply Sel.there)); first | done | fail)))); first | done | fail)) (hJ (bx, r) ⟨hr1, hr2, hr3⟩)
      · refine ⟨?_, fun _ _ => trivial⟩
        (have hQq : True := trivial; repeat ((first | clear hQq | (with_reducible first | refine T_drw ?_ | refine T_bx fun _ => ?_ | refine s_al fun _ => ?_ | refine s_bs0 fun _ => ?_ | refine s_bs1 (hK := fun _ => ?_) | refine s_bs2 (hK := fun _ => ?_) | refine s_bs3 (hK := fun _ => ?_) | refine s_bs5 (hK := fun _ => ?_) | refine s_bs6 (hK := fun _ => ?_))); (try simp (disch := first | omega | assumption | ((repeat (first | exact mem_h | exact Up.here | apply mem_t | apply Up.there)); first | done | fail) | (simp; first | done | omega | fail)) [h0])))
        rename_i bx
        rw [s_watchN (by ((repeat (first | exact mem_h | exact Up.here | exact Sel.here | apply mem_t | apply Up.there | apply Sel.there)); first | done | fail)) (by rfl)]
        (have hQq : True := trivial; repeat ((first | clear hQq | (with_reducible first | refine T_drw ?_ | refine T_bx fun _ => ?_ | refine s_al fun _ => ?_ | refine s_bs0 fun _ => ?_ | refine s_bs1 (hK := fun _ => ?_) | refine s_bs2 (hK := fun _ => ?_) | refine s_bs3 (hK := fun _ => ?_) | refine s_bs5 (hK := fun _ => ?_) | refine s_bs6 (hK := fun _ => ?_))); (try simp (disch := first | omega | assumption | ((repeat (first | exact mem_h | exact Up.here | apply mem_t | apply Up.there)); first | done | fail) | (simp; first | done | omega | fail)) [h0])))
        refine T_cv ent_packet_Closing (fun w' _ => hclo w') ?_
        (have hQq : True := trivial; repeat ((first | clear hQq | (with_reducible first | refine T_drw ?_ | refine T_bx fun _ => ?_ | refine s_al fun _ => ?_ | refine s_bs0 fun _ => ?_ | refine s_bs1 (hK := fun _ => ?_) | refine s_bs2 (hK := fun _ => ?_) | refine s_bs3 (hK := fun _ => ?_) | refine s_bs5 (hK := fun _ => ?_) | refine s_bs6 (hK := fun _ => ?_))); (try simp (disch := first | omega | assumption | ((repeat (first | exact mem_h | exact Up.here | apply mem_t | apply Up.there)); first | done | fail) | (simp; first | done | omega | fail)) [h0])))
        refine T_cn ent_model_Decide (fun w' hw' => Decide_ok w' tv m.pv tl m.pool key cl now m.c.idle hk (hm.keys _ hxm) (hm.len _ hxm) hm.pool (tab_rd (t := (tv, tl)) hw' (ts := m.ts.map (·.1)) (by ((repeat (first | exact mem_h | exact Up.here | exact Sel.here | apply mem_t | apply Up.there | apply Sel.there)); first | done | fail)) (List.mem_map.2 ⟨_, hxm, rfl⟩)) (RdT.own (e := 103) (k := 2) (by ((repeat (first | exact mem_h | exact Up.here | exact Sel.here | apply mem_t | apply Up.there | apply Sel.there)); first | done | fail)) w' hw')) ?_
        rintro r _ rfl
        simp only [hnw, if_true]
        refine T_open (e := 71) (k := 4) (v := r) (q := (decideV tl m.pool key cl now m.c.idle).1.length) (xs := (decideV tl m.pool key cl now m.c.idle).1.flatMap encE) (by ((repeat (first | exact mem_h | exact Up.here | exact Sel.here | apply mem_t | apply Up.there | apply Sel.there)); first | done | fail)) fun hr1 hr2 hr3 => ?_
        (have hQq : True := trivial; repeat ((first | clear hQq | (with_reducible first | refine T_drw ?_ | refine T_bx fun _ => ?_ | refine s_al fun _ => ?_ | refine s_bs0 fun _ => ?_ | refine s_bs1 (hK := fun _ => ?_) | refine s_bs2 (hK := fun _ => ?_) | refine s_bs3 (hK := fun _ => ?_) | refine s_bs5 (hK := fun _ => ?_) | refine s_bs6 (hK := fun _ => ?_))); (try simp (disch := first | omega | assumption | ((repeat (first | exact mem_h | exact Up.here | apply mem_t | apply Up.there)); first | done | fail) | (simp; first | done | omega | fail)) [AnsV.val])))
        exact Sels.tw (by ((repeat (first | exact Sels.nil | (apply Sels.cons; · ((repeat (first | exact mem_h | exact Up.here | exact Sel.here | apply mem_t | apply Up.there | apply Sel.there)); first | done | fail)))); first | done | fail)) (hJ (bx, r) ⟨hr1, hr2, hr3⟩)
  | false =>
    refine T_tabOpen (ts := m.ts.map (·.1)) (t := (tv, tl)) (by ((repeat (first | exact mem_h | exact Up.here | exact Sel.here | apply mem_t | apply Up.there | apply Sel.there)); first | done | fail)) (List.mem_map.2 ⟨_, hxm, rfl⟩) fun hr1 hr2 hr3 => ?_
    simp only at hr1 hr2 hr3
    refine T_kt2 (α := Nat × Value) (fun x => x.2.cells = #[x.2] ∧ x.2.cells.size = 1 ∧ x.2.cells.toList.all plain = true) (fun x => [.pt x.1 (.cells #[.int .i64 (decideV tl m.pool key cl now m.c.idle).2.1.err, .int .i64 (decideV tl m.pool key cl now m.c.idle).2.1.bk, .bool (decideV tl m.pool key cl now m.c.idle).2.1.made, .int .i64 (decideV tl m.pool key cl now m.c.idle).2.1.count] 39), 
      .pt b7 (.cells #[.int .i64 (packetV o.packet).1.v, .string (packetV o.packet).1.src, .string (packetV o.packet).1.dst, .int .i64 (packetV o.packet).1.fr, .int .i64 (packetV o.packet).1.tp, .int .i64 (packetV o.packet).1.proto, .int .i64 (packetV o.packet).2.1] 101),
      .pt b6 (.cells #[.int .i64 0, .int .i64 0, .bool false, .int .i64 0] 39),
      .pt m.b (.cells #[.int .i64 m.c.wk, .int .i64 m.c.sh, .int .i64 m.c.cp, .int .i64 m.c.idle, .int .i64 m.c.sl, m.pv, .slice (some ⟨g, 0, none⟩) m.ts.length sc] 109),
      .own 103 2 m.pv m.pool.length (m.pool.flatMap encB), .own 113 2 (.slice (some ⟨g, 0, none⟩) m.ts.length sc) m.ts.length (m.ts.flatMap encSh), tabR (m.ts.map (·.1))])
      (fun x => .pointer (some ⟨x.1, 0, none⟩)) (fun x => tv) ?_ ?_
    · rintro ⟨ba, r⟩ _
      simp only
      have hr4 : tv.cells.toList = [tv] := by rw [hr1]
      have hsame : m.ts.set i ((tv, tl), tn) = m.ts := by
        obtain ⟨h, e⟩ := List.getElem?_eq_some_iff.1 hx
        rw [← e]; exact List.set_getElem_self h
      have hst : m.st.tabs.set i (tl, tn) = m.st.tabs := by
        have := congrArg (List.map fun t : ShV => (t.1.2, t.2)) hsame
        rw [List.map_set] at this; exact this
      have hd := decideV_same hnw
      (have hQq : True := trivial; repeat ((first | clear hQq | (with_reducible first | refine T_drw ?_ | refine T_bx fun _ => ?_ | refine s_al fun _ => ?_ | refine s_bs0 fun _ => ?_ | refine s_bs1 (hK := fun _ => ?_) | refine s_bs2 (hK := fun _ => ?_) | refine s_bs3 (hK := fun _ => ?_) | refine s_bs5 (hK := fun _ => ?_) | refine s_bs6 (hK := fun _ => ?_))); (try simp (disch := first | omega | assumption | ((repeat (first | exact mem_h | exact Up.here | apply mem_t | apply Up.there)); first | done | fail) | (simp; first | done | omega | fail)) [hlt])))
      refine s_st_own (by ((repeat (first | exact mem_h | exact Up.here | exact Sel.here | apply mem_t | apply Up.there | apply Sel.there)); first | done | fail)) (by simp [hr1]) (by rw [flat_len (k := 2) fun _ => rfl]; omega) (by simp [hr3]) ?_
      rw [hr4, set_sh (e' := tl) hx, hsame]
      (have hQq : True := trivial; repeat ((first | clear hQq | (with_reducible first | refine T_drw ?_ | refine T_bx fun _ => ?_ | refine s_al fun _ => ?_ | refine s_bs0 fun _ => ?_ | refine s_bs1 (hK := fun _ => ?_) | refine s_bs2 (hK := fun _ => ?_) | refine s_bs3 (hK := fun _ => ?_) | refine s_bs5 (hK := fun _ => ?_) | refine s_bs6 (hK := fun _ => ?_))); (try simp (disch := first | omega | assumption | ((repeat (first | exact mem_h | exact Up.here | apply mem_t | apply Up.there)); first | done | fail) | (simp; first | done | omega | fail)) [])))
      refine T_rets m ⟨by simp [AnsV.val], rfl, by rw [hd, hst]⟩ ?_
      simp only [modH, hsv]
      ((repeat (first | exact Sels.nil | (apply Sels.cons; · ((repeat (first | exact mem_h | exact Up.here | exact Sel.here | apply mem_t | apply Up.there | apply Sel.there)); first | done | fail)))); first | done | fail)
    · intro J hJ
      (have hQq : True := trivial; repeat ((first | clear hQq | (with_reducible first | refine T_drw ?_ | refine T_bx fun _ => ?_ | refine s_al fun _ => ?_ | refine s_bs0 fun _ => ?_ | refine s_bs1 (hK := fun _ => ?_) | refine s_bs2 (hK := fun _ => ?_) | refine s_bs3 (hK := fun _ => ?_) | refine s_bs5 (hK := fun _ => ?_) | refine s_bs6 (hK := fun _ => ?_))); (try simp (disch := first | omega | assumption | ((repeat (first | exact mem_h | exact Up.here | apply mem_t | apply Up.there)); first | done | fail) | (simp; first | done | omega | fail)) [hlt, h0])))
      have hclo : ∀ w', Fn PR NoX 106 #[packetC (packetV o.packet).1 (packetV o.packet).2.1] w' (fun u w'' => u = .bool cl ∧ But [] w' w'') := fun w' => by rw [← hcl]; exact closing_ok w' _ _
      refine ⟨?_, ?_⟩
      · refine T_cv ent_packet_Closing (fun w' _ => hclo w') ?_
        (have hQq : True := trivial; repeat ((first | clear hQq | (with_reducible first | refine T_drw ?_ | refine T_bx fun _ => ?_ | refine s_al fun _ => ?_ | refine s_bs0 fun _ => ?_ | refine s_bs1 (hK := fun _ => ?_) | refine s_bs2 (hK := fun _ => ?_) | refine s_bs3 (hK := fun _ => ?_) | refine s_bs5 (hK := fun _ => ?_) | refine s_bs6 (hK := fun _ => ?_))); (try simp (disch := first | omega | assumption | ((repeat (first | exact mem_h | exact Up.here | apply mem_t | apply Up.there)); first | done | fail) | (simp; first | done | omega | fail)) [h0])))
        refine ⟨?_, ?_⟩
        · refine T_cn ent_model_Decide (fun w' hw' => Decide_ok w' tv m.pv tl m.pool key cl now m.c.idle hk (hm.keys _ hxm) (hm.len _ hxm) hm.pool (tab_rd (t := (tv, tl)) hw' (ts := m.ts.map (·.1)) (by ((repeat (first | exact mem_h | exact Up.here | exact Sel.here | apply mem_t | apply Up.there | apply Sel.there)); first | done | fail)) (List.mem_map.2 ⟨_, hxm, rfl⟩)) (RdT.own (e := 103) (k := 2) (by ((repeat (first | exact mem_h | exact Up.here | exact Sel.here | apply mem_t | apply Up.there | apply Sel.there)); first | done | fail)) w' hw')) ?_
          rintro r _ rfl
          simp only [hnw, Bool.false_eq_true, if_false]
          (have hQq : True := trivial; repeat ((first | clear hQq | (with_reducible first | refine T_drw ?_ | refine T_bx fun _ => ?_ | refine s_al fun _ => ?_ | refine s_bs0 fun _ => ?_ | refine s_bs1 (hK := fun _ => ?_) | refine s_bs2 (hK := fun _ => ?_) | refine s_bs3 (hK := fun _ => ?_) | refine s_bs5 (hK := fun _ => ?_) | refine s_bs6 (hK := fun _ => ?_))); (try simp (disch := first | omega | assumption | ((repeat (first | exact mem_h | exact Up.here | apply mem_t | apply Up.there)); first | done | fail) | (simp; first | done | omega | fail)) [AnsV.val])))
          rename_i bx
          exact Sels.tw (by ((repeat (first | exact Sels.nil | (apply Sels.cons; · ((repeat (first | exact mem_h | exact Up.here | exact Sel.here | apply mem_t | apply Up.there | apply Sel.there)); first | done | fail)))); first | done | fail)) (hJ (bx, tv) ⟨hr1, hr2, hr3⟩)
        · refine ⟨?_, fun _ _ => trivial⟩
          (have hQq : True := trivial; repeat ((first | clear hQq | (with_reducible first | refine T_drw ?_ | refine T_bx fun _ => ?_ | refine s_al fun _ => ?_ | refine s_bs0 fun _ => ?_ | refine s_bs1 (hK := fun _ => ?_) | refine s_bs2 (hK := fun _ => ?_) | refine s_bs3 (hK := fun _ => ?_) | refine s_bs5 (hK := fun _ => ?_) | refine s_bs6 (hK := fun _ => ?_))); (try simp (disch := first | omega | assumption | ((repeat (first | exact mem_h | exact Up.here | apply mem_t | apply Up.there)); first | done | fail) | (simp; first | done | omega | fail)) [h0])))
          rename_i bx
          refine T_cn ent_model_Decide (fun w' hw' => Decide_ok w' tv m.pv tl m.pool key cl now m.c.idle hk (hm.keys _ hxm) (hm.len _ hxm) hm.pool (tab_rd (t := (tv, tl)) hw' (ts := m.ts.map (·.1)) (by ((repeat (first | exact mem_h | exact Up.here | exact Sel.here | apply mem_t | apply Up.there | apply Sel.there)); first | done | fail)) (List.mem_map.2 ⟨_, hxm, rfl⟩)) (RdT.own (e := 103) (k := 2) (by ((repeat (first | exact mem_h | exact Up.here | exact Sel.here | apply mem_t | apply Up.there | apply Sel.there)); first | done | fail)) w' hw')) ?_
          rintro r _ rfl
          simp only [hnw, Bool.false_eq_true, if_false]
          (have hQq : True := trivial; repeat ((first | clear hQq | (with_reducible first | refine T_drw ?_ | refine T_bx fun _ => ?_ | refine s_al fun _ => ?_ | refine s_bs0 fun _ => ?_ | refine s_bs1 (hK := fun _ => ?_) | refine s_bs2 (hK := fun _ => ?_) | refine s_bs3 (hK := fun _ => ?_) | refine s_bs5 (hK := fun _ => ?_) | refine s_bs6 (hK := fun _ => ?_))); (try simp (disch := first | omega | assumption | ((repeat (first | exact mem_h | exact Up.here | apply mem_t | apply Up.there)); first | done | fail) | (simp; first | done | omega | fail)) [AnsV.val])))
          exact Sels.tw (by ((repeat (first | exact Sels.nil | (apply Sels.cons; · ((repeat (first | exact mem_h | exact Up.here | exact Sel.here | apply mem_t | apply Up.there | apply Sel.there)); first | done | fail)))); first | done | fail)) (hJ (bx, tv) ⟨hr1, hr2, hr3⟩)
      · refine ⟨?_, fun _ _ => trivial⟩
        (have hQq : True := trivial; repeat ((first | clear hQq | (with_reducible first | refine T_drw ?_ | refine T_bx fun _ => ?_ | refine s_al fun _ => ?_ | refine s_bs0 fun _ => ?_ | refine s_bs1 (hK := fun _ => ?_) | refine s_bs2 (hK := fun _ => ?_) | refine s_bs3 (hK := fun _ => ?_) | refine s_bs5 (hK := fun _ => ?_) | refine s_bs6 (hK := fun _ => ?_))); (try simp (disch := first | omega | assumption | ((repeat (first | exact mem_h | exact Up.here | apply mem_t | apply Up.there)); first | done | fail) | (simp; first | done | omega | fail)) [h0])))
        rename_i bx
        rw [s_watchN (by ((repeat (first | exact mem_h | exact Up.here | exact Sel.here | apply mem_t | apply Up.there | apply Sel.there)); first | done | fail)) (by rfl)]
        (have hQq : True := trivial; repeat ((first | clear hQq | (with_reducible first | refine T_drw ?_ | refine T_bx fun _ => ?_ | refine s_al fun _ => ?_ | refine s_bs0 fun _ => ?_ | refine s_bs1 (hK := fun _ => ?_) | refine s_bs2 (hK := fun _ => ?_) | refine s_bs3 (hK := fun _ => ?_) | refine s_bs5 (hK := fun _ => ?_) | refine s_bs6 (hK := fun _ => ?_))); (try simp (disch := first | omega | assumption | ((repeat (first | exact mem_h | exact Up.here | apply mem_t | apply Up.there)); first | done | fail) | (simp; first | done | omega | fail)) [h0])))
        refine T_cv ent_packet_Closing (fun w' _ => hclo w') ?_
        (have hQq : True := trivial; repeat ((first | clear hQq | (with_reducible first | refine T_drw ?_ | refine T_bx fun _ => ?_ | refine s_al fun _ => ?_ | refine s_bs0 fun _ => ?_ | refine s_bs1 (hK := fun _ => ?_) | refine s_bs2 (hK := fun _ => ?_) | refine s_bs3 (hK := fun _ => ?_) | refine s_bs5 (hK := fun _ => ?_) | refine s_bs6 (hK := fun _ => ?_))); (try simp (disch := first | omega | assumption | ((repeat (first | exact mem_h | exact Up.here | apply mem_t | apply Up.there)); first | done | fail) | (simp; first | done | omega | fail)) [h0])))
        refine T_cn ent_model_Decide (fun w' hw' => Decide_ok w' tv m.pv tl m.pool key cl now m.c.idle hk (hm.keys _ hxm) (hm.len _ hxm) hm.pool (tab_rd (t := (tv, tl)) hw' (ts := m.ts.map (·.1)) (by ((repeat (first | exact mem_h | exact Up.here | exact Sel.here | apply mem_t | apply Up.there | apply Sel.there)); first | done | fail)) (List.mem_map.2 ⟨_, hxm, rfl⟩)) (RdT.own (e := 103) (k := 2) (by ((repeat (first | exact mem_h | exact Up.here | exact Sel.here | apply mem_t | apply Up.there | apply Sel.there)); first | done | fail)) w' hw')) ?_
        rintro r _ rfl
        simp only [hnw, Bool.false_eq_true, if_false]
        (have hQq : True := trivial; repeat ((first | clear hQq | (with_reducible first | refine T_drw ?_ | refine T_bx fun _ => ?_ | refine s_al fun _ => ?_ | refine s_bs0 fun _ => ?_ | refine s_bs1 (hK := fun _ => ?_) | refine s_bs2 (hK := fun _ => ?_) | refine s_bs3 (hK := fun _ => ?_) | refine s_bs5 (hK := fun _ => ?_) | refine s_bs6 (hK := fun _ => ?_))); (try simp (disch := first | omega | assumption | ((repeat (first | exact mem_h | exact Up.here | apply mem_t | apply Up.there)); first | done | fail) | (simp; first | done | omega | fail)) [AnsV.val])))
        exact Sels.tw (by ((repeat (first | exact Sels.nil | (apply Sels.cons; · ((repeat (first | exact mem_h | exact Up.here | exact Sel.here | apply mem_t | apply Up.there | apply Sel.there)); first | done | fail)))); first | done | fail)) (hJ (bx, tv) ⟨hr1, hr2, hr3⟩)
end Go.Proofs.YtggakcpabomliaaGreat
namespace Go.Proofs.YtggakcpabomliaaGreat
open Go
theorem bdF (a b c d : FuncId) (K : Value → WP) : pur PR (Instr.build 117 #[(0, .func (.func a) #[] #[]), (1, .func (.func b) #[] #[]), (2, .func (.func c) #[] #[]), (3, .func (.func d) #[] #[])]) K = K (.agg #[.func (.func a) #[] #[], .func (.func b) #[] #[], .func (.func c) #[] #[], .func (.func d) #[] #[]]) :=
  p_buildA ty117 ty116 (by rw [show (#[(0, Value.func (.func a) #[] #[]), (1, .func (.func b) #[] #[]), (2, .func (.func c) #[] #[]), (3, .func (.func d) #[] #[])] : Array (Nat × Value)).toList = [(0, .func (.func a) #[] #[]), (1, .func (.func b) #[] #[]), (2, .func (.func c) #[] #[]), (3, .func (.func d) #[] #[])] from rfl, fill_cons rfl rfl (by simp), fill_cons rfl rfl (by simp [spl_size]), fill_cons rfl rfl (by simp [spl_size]), fill_cons rfl rfl (by simp [spl_size])]; rfl)
def doV (s : MoS) (o : OpV) (now : Int) : MoS × AnsV :=
  if o.kind = 0 then dispV s o.packet now else if o.kind = 1 then updV s o.pool else if o.kind = 2 then expV s o.shard now else if o.kind = 3 then statV s else (s, ⟨1, 0, false, 0⟩)
theorem Do_ok (w : World) (m : MoH) (o : OpV) (v : Value) (now : Int) (hv : PoolAt w m v o.pool) (hpk : o.packet.size < 2 ^ 40) (hm : MoOk2 m) (hw : LW false (foots (modH m)) w (modH m) w) :
    Fn PR NoX 20 #[.pointer (some ⟨m.b, 0, none⟩), o.val v, .int .i64 now] w (DoR w m (doV m.st o now)) := by
  refine mk_model_Model_Do (TW.goH (κ := false) (S := foots (modH m)) ?_ hw)
  unfold sh_model_Model_Do
  simp only [OpV.val]
  unfold DoR
  generalize hS : foots (modH m) = S at *
  have hc1 : v.cells.size = 1 := by rw [hv.form.1]; rfl
  by_cases c0 : o.kind < 0
  · have e : doV m.st o now = (m.st, ⟨1, 0, false, 0⟩) := by unfold doV; rw [if_neg (by omega), if_neg (by omega), if_neg (by omega), if_neg (by omega)]
    rw [e]
    simp only [modH]
    (have hQq : True := trivial; repeat ((first | clear hQq | (with_reducible first | refine T_drw ?_ | refine T_bx fun _ => ?_ | refine s_al fun _ => ?_ | refine s_bs0 fun _ => ?_ | refine s_bs1 (hK := fun _ => ?_) | refine s_bs2 (hK := fun _ => ?_) | refine s_bs3 (hK := fun _ => ?_) | refine s_bs5 (hK := fun _ => ?_) | refine s_bs6 (hK := fun _ => ?_))); (try simp (disch := first | omega | assumption | ((repeat (first | exact mem_h | exact Up.here | apply mem_t | apply Up.there)); first | done | fail) | (simp; first | done | omega | fail)) [c0, bdF])))
    refine T_rets m ⟨by simp [AnsV.val], rfl, rfl⟩ ?_
    simp only [modH]
    ((repeat (first | exact Sels.nil | (apply Sels.cons; · ((repeat (first | exact mem_h | exact Up.here | exact Sel.here | apply mem_t | apply Up.there | apply Sel.there)); first | done | fail)))); first | done | fail)
  by_cases c4 : 4 ≤ o.kind
  · have e : doV m.st o now = (m.st, ⟨1, 0, false, 0⟩) := by unfold doV; rw [if_neg (by omega), if_neg (by omega), if_neg (by omega), if_neg (by omega)]
    rw [e]
    simp only [modH]
    (have hQq : True := trivial; repeat ((first | clear hQq | (with_reducible first | refine T_drw ?_ | refine T_bx fun _ => ?_ | refine s_al fun _ => ?_ | refine s_bs0 fun _ => ?_ | refine s_bs1 (hK := fun _ => ?_) | refine s_bs2 (hK := fun _ => ?_) | refine s_bs3 (hK := fun _ => ?_) | refine s_bs5 (hK := fun _ => ?_) | refine s_bs6 (hK := fun _ => ?_))); (try simp (disch := first | omega | assumption | ((repeat (first | exact mem_h | exact Up.here | apply mem_t | apply Up.there)); first | done | fail) | (simp; first | done | omega | fail)) [c0, c4, bdF])))
    refine T_rets m ⟨by simp [AnsV.val], rfl, rfl⟩ ?_
    simp only [modH]
    ((repeat (first | exact Sels.nil | (apply Sels.cons; · ((repeat (first | exact mem_h | exact Up.here | exact Sel.here | apply mem_t | apply Up.there | apply Sel.there)); first | done | fail)))); first | done | fail)
  have hk : o.kind = 0 ∨ o.kind = 1 ∨ o.kind = 2 ∨ o.kind = 3 := by omega
  rcases hk with hk | hk | hk | hk
  · rw [show doV m.st o now = dispV m.st o.packet now by simp [doV, hk]]
    simp only [modH]
    (have hQq : True := trivial; repeat ((first | clear hQq | (with_reducible first | refine T_drw ?_ | refine T_bx fun _ => ?_ | refine s_al fun _ => ?_ | refine s_bs0 fun _ => ?_ | refine s_bs1 (hK := fun _ => ?_) | refine s_bs2 (hK := fun _ => ?_) | refine s_bs3 (hK := fun _ => ?_) | refine s_bs5 (hK := fun _ => ?_) | refine s_bs6 (hK := fun _ => ?_))); (try simp (disch := first | omega | assumption | ((repeat (first | exact mem_h | exact Up.here | apply mem_t | apply Up.there)); first | done | fail) | (simp; first | done | omega | fail)) [hk, bdF])))
    refine T_callP (Hc := modH m) ent_model_Model_dispatch (fun w' hw' hs => by have := dispatch_ok w' m o v now hv.form hpk hm hs; rw [OpV.val, hk] at this; exact this) (by simp only [modH]; ((repeat (first | exact Part.nil | (apply Part.cons; · ((repeat (first | exact mem_h | exact Up.here | exact Sel.here | apply mem_t | apply Up.there | apply Sel.there)); first | done | fail)))); first | done | fail)) ?_
    rintro m' _ ⟨rfl, hb, hst⟩
    simp only [modH]
    (have hQq : True := trivial; repeat ((first | clear hQq | (with_reducible first | refine T_drw ?_ | refine T_bx fun _ => ?_ | refine s_al fun _ => ?_ | refine s_bs0 fun _ => ?_ | refine s_bs1 (hK := fun _ => ?_) | refine s_bs2 (hK := fun _ => ?_) | refine s_bs3 (hK := fun _ => ?_) | refine s_bs5 (hK := fun _ => ?_) | refine s_bs6 (hK := fun _ => ?_))); (try simp (disch := first | omega | assumption | ((repeat (first | exact mem_h | exact Up.here | apply mem_t | apply Up.there)); first | done | fail) | (simp; first | done | omega | fail)) [AnsV.val])))
    refine T_rets m' ⟨by simp [AnsV.val], hb, hst⟩ ?_
    simp only [modH]
    ((repeat (first | exact Sels.nil | (apply Sels.cons; · ((repeat (first | exact mem_h | exact Up.here | exact Sel.here | apply mem_t | apply Up.there | apply Sel.there)); first | done | fail)))); first | done | fail)
  · rw [show doV m.st o now = updV m.st o.pool by simp [doV, hk]]
    simp only [modH]
    (have hQq : True := trivial; repeat ((first | clear hQq | (with_reducible first | refine T_drw ?_ | refine T_bx fun _ => ?_ | refine s_al fun _ => ?_ | refine s_bs0 fun _ => ?_ | refine s_bs1 (hK := fun _ => ?_) | refine s_bs2 (hK := fun _ => ?_) | refine s_bs3 (hK := fun _ => ?_) | refine s_bs5 (hK := fun _ => ?_) | refine s_bs6 (hK := fun _ => ?_))); (try simp (disch := first | omega | assumption | ((repeat (first | exact mem_h | exact Up.here | apply mem_t | apply Up.there)); first | done | fail) | (simp; first | done | omega | fail)) [hk, bdF])))
    refine T_callP (Hc := modH m) ent_model_Model_update (fun w' hw' hs => by have := update_ok w' m o v now ⟨hv.at (by rw [hS]; exact hw'.ks), hv.off, hv.len, hv.form⟩ hs; rw [OpV.val, hk] at this; exact this) (by simp only [modH]; ((repeat (first | exact Part.nil | (apply Part.cons; · ((repeat (first | exact mem_h | exact Up.here | exact Sel.here | apply mem_t | apply Up.there | apply Sel.there)); first | done | fail)))); first | done | fail)) ?_
    rintro m' _ ⟨rfl, hb, hst⟩
    simp only [modH]
    (have hQq : True := trivial; repeat ((first | clear hQq | (with_reducible first | refine T_drw ?_ | refine T_bx fun _ => ?_ | refine s_al fun _ => ?_ | refine s_bs0 fun _ => ?_ | refine s_bs1 (hK := fun _ => ?_) | refine s_bs2 (hK := fun _ => ?_) | refine s_bs3 (hK := fun _ => ?_) | refine s_bs5 (hK := fun _ => ?_) | refine s_bs6 (hK := fun _ => ?_))); (try simp (disch := first | omega | assumption | ((repeat (first | exact mem_h | exact Up.here | apply mem_t | apply Up.there)); first | done | fail) | (simp; first | done | omega | fail)) [AnsV.val])))
    refine T_rets m' ⟨by simp [AnsV.val], hb, hst⟩ ?_
    simp only [modH]
    ((repeat (first | exact Sels.nil | (apply Sels.cons; · ((repeat (first | exact mem_h | exact Up.here | exact Sel.here | apply mem_t | apply Up.there | apply Sel.there)); first | done | fail)))); first | done | fail)
  · rw [show doV m.st o now = expV m.st o.shard now by simp [doV, hk]]
    simp only [modH]
    (have hQq : True := trivial; repeat ((first | clear hQq | (with_reducible first | refine T_drw ?_ | refine T_bx fun _ => ?_ | refine s_al fun _ => ?_ | refine s_bs0 fun _ => ?_ | refine s_bs1 (hK := fun _ => ?_) | refine s_bs2 (hK := fun _ => ?_) | refine s_bs3 (hK := fun _ => ?_) | refine s_bs5 (hK := fun _ => ?_) | refine s_bs6 (hK := fun _ => ?_))); (try simp (disch := first | omega | assumption | ((repeat (first | exact mem_h | exact Up.here | apply mem_t | apply Up.there)); first | done | fail) | (simp; first | done | omega | fail)) [hk, bdF])))
    refine T_callP (Hc := modH m) ent_model_Model_expire (fun w' hw' hs => by have := expire_ok w' m o v now hv.form hm.toMoOk hs; rw [OpV.val, hk] at this; exact this) (by simp only [modH]; ((repeat (first | exact Part.nil | (apply Part.cons; · ((repeat (first | exact mem_h | exact Up.here | exact Sel.here | apply mem_t | apply Up.there | apply Sel.there)); first | done | fail)))); first | done | fail)) ?_
    rintro m' _ ⟨rfl, hb, hst⟩
    simp only [modH]
    (have hQq : True := trivial; repeat ((first | clear hQq | (with_reducible first | refine T_drw ?_ | refine T_bx fun _ => ?_ | refine s_al fun _ => ?_ | refine s_bs0 fun _ => ?_ | refine s_bs1 (hK := fun _ => ?_) | refine s_bs2 (hK := fun _ => ?_) | refine s_bs3 (hK := fun _ => ?_) | refine s_bs5 (hK := fun _ => ?_) | refine s_bs6 (hK := fun _ => ?_))); (try simp (disch := first | omega | assumption | ((repeat (first | exact mem_h | exact Up.here | apply mem_t | apply Up.there)); first | done | fail) | (simp; first | done | omega | fail)) [AnsV.val])))
    refine T_rets m' ⟨by simp [AnsV.val], hb, hst⟩ ?_
    simp only [modH]
    ((repeat (first | exact Sels.nil | (apply Sels.cons; · ((repeat (first | exact mem_h | exact Up.here | exact Sel.here | apply mem_t | apply Up.there | apply Sel.there)); first | done | fail)))); first | done | fail)
  · rw [show doV m.st o now = statV m.st by simp [doV, hk]]
    simp only [modH]
    (have hQq : True := trivial; repeat ((first | clear hQq | (with_reducible first | refine T_drw ?_ | refine T_bx fun _ => ?_ | refine s_al fun _ => ?_ | refine s_bs0 fun _ => ?_ | refine s_bs1 (hK := fun _ => ?_) | refine s_bs2 (hK := fun _ => ?_) | refine s_bs3 (hK := fun _ => ?_) | refine s_bs5 (hK := fun _ => ?_) | refine s_bs6 (hK := fun _ => ?_))); (try simp (disch := first | omega | assumption | ((repeat (first | exact mem_h | exact Up.here | apply mem_t | apply Up.there)); first | done | fail) | (simp; first | done | omega | fail)) [hk, bdF])))
    refine T_callP (Hc := modH m) ent_model_Model_stats (fun w' hw' hs => by have := stats_ok w' m o v now hv.form hm.toMoOk hs; rw [OpV.val, hk] at this; exact this) (by simp only [modH]; ((repeat (first | exact Part.nil | (apply Part.cons; · ((repeat (first | exact mem_h | exact Up.here | exact Sel.here | apply mem_t | apply Up.there | apply Sel.there)); first | done | fail)))); first | done | fail)) ?_
    rintro m' _ ⟨rfl, hb, hst⟩
    simp only [modH]
    (have hQq : True := trivial; repeat ((first | clear hQq | (with_reducible first | refine T_drw ?_ | refine T_bx fun _ => ?_ | refine s_al fun _ => ?_ | refine s_bs0 fun _ => ?_ | refine s_bs1 (hK := fun _ => ?_) | refine s_bs2 (hK := fun _ => ?_) | refine s_bs3 (hK := fun _ => ?_) | refine s_bs5 (hK := fun _ => ?_) | refine s_bs6 (hK := fun _ => ?_))); (try simp (disch := first | omega | assumption | ((repeat (first | exact mem_h | exact Up.here | apply mem_t | apply Up.there)); first | done | fail) | (simp; first | done | omega | fail)) [AnsV.val])))
    refine T_rets m' ⟨by simp [AnsV.val], hb, hst⟩ ?_
    simp only [modH]
    ((repeat (first | exact Sels.nil | (apply Sels.cons; · ((repeat (first | exact mem_h | exact Up.here | exact Sel.here | apply mem_t | apply Up.there | apply Sel.there)); first | done | fail)))); first | done | fail)
end Go.Proofs.YtggakcpabomliaaGreat
namespace Go.Proofs.YtggakcpabomliaaGreat
open Go
theorem keys_set {l : List EnV} {j : Nat} {x : EnV} (h : KeysOk l) (hx : x.key.size < 2 ^ 60) : KeysOk (l.set j x) := fun y hy => by
  rcases List.mem_or_eq_of_mem_set hy with h1 | rfl
  · exact h y h1
  · exact hx
theorem keys_new (n : Nat) : KeysOk (newE n) := fun x hx => by
  unfold newE at hx
  rw [(List.mem_replicate.1 hx).2]; simp [noE]
theorem keys_putS {a : List EnV} {x : EnV} (h : KeysOk a) (hx : x.key.size < 2 ^ 60) : KeysOk (putS a x) := by
  unfold putS
  cases hp : putE a x with
  | none => exact h
  | some u => obtain ⟨j, _, rfl⟩ := putE_set hp; exact keys_set h hx
theorem keys_tidy {l : List EnV} (h : KeysOk l) : KeysOk (tidyE l) := by
  unfold tidyE
  have : ∀ (L : List (Nat × EnV)) (a : List EnV), (∀ p ∈ L, p.2.key.size < 2 ^ 60) → KeysOk a → KeysOk (L.foldl (fun acc p => putS acc p.2) a) := by
    intro L
    induction L with
    | nil => intro a _ h; exact h
    | cons p L ih => intro a hL ha; rw [List.foldl_cons]; exact ih _ (fun q hq => hL q (List.mem_cons_of_mem _ hq)) (keys_putS ha (hL p (List.mem_cons_self ..)))
  exact this _ _ (fun p hp => h _ (liveF_mem p hp).1) (keys_new _)
theorem keys_settle {l : List EnV} (h : KeysOk l) : KeysOk (settleE l) := by
  unfold settleE; split
  · exact keys_tidy h
  · exact h
theorem tomb_key : tombE.key.size < 2 ^ 60 := by simp [tombE]
/-- a table of a model: of n places, right -/
structure TabOk (n : Nat) (l : List EnV) : Prop where
  len : l.length = n
  few : n ≤ 64
  keys : KeysOk l
  right : rightE l = true
theorem TabOk.new {n : Nat} (h : n ≤ 64) : TabOk n (newE n) := ⟨by rw [newE_len]; omega, h, keys_new _, right_new _⟩
theorem TabOk.settle {n : Nat} {l : List EnV} (h : TabOk n l) : TabOk n (settleE l) := ⟨by rw [settle_len (by rw [h.len]; exact h.few), h.len], h.few, keys_settle h.keys, right_settle h.right⟩
theorem TabOk.tomb {n : Nat} {l : List EnV} {j : Nat} (h : TabOk n l) (hj : j < l.length) : TabOk n (l.set j tombE) := ⟨by rw [List.length_set, h.len], h.few, keys_set h.keys tomb_key, right_tomb hj h.right⟩
theorem TabOk.put {n : Nat} {l u : List EnV} {x : EnV} (h : TabOk n l) (hx : x.key.size < 2 ^ 60) (h1 : x.st = 1) (hp : putE l x = some u) : TabOk n u :=
  ⟨by rw [putE_len hp, h.len], h.few, by obtain ⟨j, _, rfl⟩ := putE_set hp; exact keys_set h.keys hx, right_put h1 hp h.right⟩
theorem TabOk.perm {n : Nat} {l : List EnV} (h : TabOk n l) : (flowsOf (settleE l)).Perm (flowsOf l) := flowsOf_settle h.right (by rw [h.len]; exact h.few)
theorem findE_entry {l : List EnV} {key : ByteArray} (h : 0 ≤ findE l key) : l[(findE l key).toNat]? = some (atE l key) ∧ (atE l key).st = 1 ∧ (atE l key).key = key := by
  obtain ⟨x, h1, h2, h3⟩ := findE_at (l := l) (key := key) (j := (findE l key).toNat) (by omega)
  have e : atE l key = x := by unfold atE; rw [List.getD_eq_getElem?_getD, h1]; rfl
  rw [e]; exact ⟨h1, h2, h3⟩
theorem del0_some {l u : List EnV} {key : ByteArray} (h : del0 l key = some u) : 0 ≤ findE l key ∧ (findE l key).toNat < l.length ∧ u = l.set (findE l key).toNat tombE ∧ (atE l key :: flowsOf u).Perm (flowsOf l) := by
  unfold del0 at h
  split at h
  · cases h
  · rename_i c
    injection h with h
    subst h
    have h0 : 0 ≤ findE l key := by omega
    obtain ⟨h1, h2, h3⟩ := findE_entry h0
    have hs := flowsOf_set (x := tombE) h1
    unfold oneE at hs
    rw [if_pos h2, if_neg (by simp [tombE])] at hs
    exact ⟨h0, findE_lt h0, rfl, by simpa using hs⟩
theorem putE_flows {l u : List EnV} {x : EnV} (h1 : x.st = 1) (hp : putE l x = some u) : (0 ≤ findE l x.key ∧ (atE l x.key :: flowsOf u).Perm (x :: flowsOf l)) ∨ (findE l x.key < 0 ∧ (flowsOf u).Perm (x :: flowsOf l)) := by
  obtain ⟨j, hj, rfl, hf, hc⟩ := putE_find hp h1
  have hj1 : l[j]? = some l[j] := List.getElem?_eq_getElem hj
  have hs := flowsOf_set (x := x) hj1
  unfold oneE at hs
  rw [if_pos h1] at hs
  rcases hc with hc | ⟨hc, hr⟩
  · left
    have h0 : 0 ≤ findE l x.key := by omega
    obtain ⟨e1, e2, e3⟩ := findE_entry h0
    have : (findE l x.key).toNat = j := by omega
    rw [this, hj1] at e1
    injection e1 with e1
    rw [e1, if_pos e2] at hs
    exact ⟨h0, by simpa using hs⟩
  · right
    refine ⟨hc, ?_⟩
    have hm : ∀ L, roomW L = (j : Nat) → ∃ y, (j, y) ∈ L ∧ y.st ≠ 1 := by
      intro L
      induction L with
      | nil => intro h; simp [roomW] at h <;> omega
      | cons p L ih =>
        intro h
        simp only [roomW] at h
        split at h
        · obtain ⟨y, h1, h2⟩ := ih h; exact ⟨y, List.mem_cons_of_mem _ h1, h2⟩
        · rename_i c2
          have : p.1 = j := by omega
          exact ⟨p.2, by rw [← this]; simp, c2⟩
    obtain ⟨y, h2, h3⟩ := hm _ hr
    have h4 := wayL_get h2
    rw [hj1] at h4
    injection h4 with h4
    rw [if_neg (by rw [h4]; exact h3)] at hs
    simpa using hs
/-- what becomes of the flows by a packet -/
structure Decided (l u : List EnV) (key : ByteArray) (made : Bool) : Prop where
  up : (flowsOf u).length ≤ (flowsOf l).length + 1
  down : (flowsOf l).length ≤ (flowsOf u).length + 1
  new : (flowsOf l).length < (flowsOf u).length → made = true
  from' : ∀ x ∈ flowsOf u, x ∈ flowsOf l ∨ x.key = key
theorem Decided.refl (l : List EnV) (key : ByteArray) (made : Bool) : Decided l l key made := ⟨by omega, by omega, by omega, fun x hx => Or.inl hx⟩
theorem known_find {l : List EnV} {p : List BkV} {key : ByteArray} {now : Int} (h : findE l key < 0) : (knownV l p key now).2 = false := by
  unfold knownV; rw [if_pos (Or.inl h)]
theorem decideV_ok {n : Nat} {l : List EnV} {p : List BkV} {key : ByteArray} {closing : Bool} {now idle : Int} (h : TabOk n l) (hk : key.size < 2 ^ 60) :
    TabOk n (decideV l p key closing now idle).1 ∧ Decided l (decideV l p key closing now idle).1 key (decideV l p key closing now idle).2.1.made := by
  unfold decideV
  split
  · exact ⟨h, .refl _ _ _⟩
  · split
    · unfold delE
      cases hd : del0 l key with
      | none => exact ⟨h, .refl _ _ _⟩
      | some u =>
        obtain ⟨h0, hlt, rfl, hp⟩ := del0_some hd
        have ht := h.tomb hlt
        have hp2 := (ht.perm.cons (atE l key)).trans hp
        have hl := hp2.length_eq
        simp only [List.length_cons] at hl
        exact ⟨ht.settle, by simp only; omega, by simp only; omega, fun h => by simp only at h; omega, fun x hx => Or.inl (hp2.subset (List.mem_cons_of_mem _ hx))⟩
    · cases hp : putE l (newX l p key now idle) with
      | none => exact ⟨h, .refl _ _ _⟩
      | some u =>
        refine ⟨h.put hk rfl hp, ?_⟩
        rcases putE_flows (x := newX l p key now idle) rfl hp with ⟨h0, h1⟩ | ⟨h0, h1⟩
        · have hl := h1.length_eq
          simp only [List.length_cons] at hl
          exact ⟨by simp only; omega, by simp only; omega, fun h => by simp only at h; omega, fun x hx => by
            rcases List.mem_cons.1 (h1.subset (List.mem_cons_of_mem _ hx)) with rfl | h2
            · exact Or.inr rfl
            · exact Or.inl h2⟩
        · have hl := h1.length_eq
          simp only [List.length_cons] at hl
          exact ⟨by simp only; omega, by simp only; omega, fun h => by simp [known_find (p := p) (now := now) (show findE l key < 0 from h0)], fun x hx => by
            rcases List.mem_cons.1 (h1.subset hx) with rfl | h2
            · exact Or.inr rfl
            · exact Or.inl h2⟩
/-- what becomes of the flows by a sweep -/
def Swept (now : Int) (l u : List EnV) (k : Nat) : Prop := ∃ r, (r ++ flowsOf u).Perm (flowsOf l) ∧ (∀ x ∈ r, dueV x now = true) ∧ r.length = k
theorem Swept.trans {now : Int} {a b c : List EnV} {i j : Nat} (h : Swept now a b i) (h' : Swept now b c j) : Swept now a c (i + j) := by
  obtain ⟨r, h1, h2, h3⟩ := h
  obtain ⟨s, h4, h5, h6⟩ := h'
  refine ⟨r ++ s, ?_, ?_, by rw [List.length_append, h3, h6]⟩
  · rw [List.append_assoc]; exact (h4.append_left r).trans h1
  · intro x hx
    rcases List.mem_append.1 hx with hx | hx
    · exact h2 x hx
    · exact h5 x hx
theorem stepP_ok {n : Nat} {l : List EnV} {now : Int} {c j : Nat} (h : TabOk n l) (hj : j < l.length) : TabOk n (stepP now (l, c) j).1 ∧ ∃ k, (stepP now (l, c) j).2 = c + k ∧ Swept now l (stepP now (l, c) j).1 k ∧ (∀ i x, (stepP now (l, c) j).1[i]? = some x → dueV x now = true → i ≠ j ∧ l[i]? = some x) := by
  have hj1 : l[j]? = some l[j] := List.getElem?_eq_getElem hj
  have hd : l.getD j noE = l[j] := by rw [List.getD_eq_getElem?_getD, hj1]; rfl
  unfold stepP
  simp only [hd]
  by_cases c1 : dueV l[j] now = true
  · rw [if_pos c1]
    have hst : l[j].st = 1 := by unfold dueV at c1; simp at c1; exact c1.1
    have hs := flowsOf_set (x := tombE) hj1
    unfold oneE at hs
    rw [if_pos hst, if_neg (by simp [tombE])] at hs
    refine ⟨h.tomb hj, 1, rfl, ⟨[l[j]], by simpa using hs, by simpa using c1, rfl⟩, fun i x hx hdx => ?_⟩
    rcases getElem?_set_some hx with ⟨_, rfl⟩ | h2
    · simp [dueV, tombE] at hdx
    · exact h2
  · rw [if_neg c1]
    refine ⟨h, 0, rfl, ⟨[], by simp, by simp, rfl⟩, fun i x hx hdx => ⟨fun e => ?_, hx⟩⟩
    subst e
    rw [hj1] at hx
    injection hx with hx
    rw [hx] at c1
    exact c1 hdx
theorem fold_ok {n : Nat} {now : Int} : ∀ (L : List Nat) (l : List EnV) (c : Nat), TabOk n l → (∀ j ∈ L, j < n) → TabOk n (L.foldl (stepP now) (l, c)).1 ∧ ∃ k, (L.foldl (stepP now) (l, c)).2 = c + k ∧ Swept now l (L.foldl (stepP now) (l, c)).1 k ∧ (∀ i x, (L.foldl (stepP now) (l, c)).1[i]? = some x → dueV x now = true → i ∉ L ∧ l[i]? = some x) := by
  intro L
  induction L with
  | nil => intro l c h _; exact ⟨h, 0, rfl, ⟨[], by simp, by simp, rfl⟩, fun i x hx _ => ⟨by simp, hx⟩⟩
  | cons j L ih =>
    intro l c h hL
    obtain ⟨h1, k, h2, h3, h3'⟩ := stepP_ok (now := now) (c := c) h (by rw [h.len]; exact hL j (List.mem_cons_self ..))
    obtain ⟨h4, k', h5, h6, h6'⟩ := ih (stepP now (l, c) j).1 (stepP now (l, c) j).2 h1 fun q hq => hL q (List.mem_cons_of_mem _ hq)
    rw [List.foldl_cons]
    refine ⟨h4, k + k', by rw [h5, h2]; omega, h3.trans h6, fun i x hx hd => ?_⟩
    obtain ⟨a, b⟩ := h6' i x hx hd
    obtain ⟨c, d⟩ := h3' i x b hd
    exact ⟨by simp [a, c], d⟩
theorem Swept.zero {now : Int} {l u : List EnV} (h : (flowsOf u).Perm (flowsOf l)) : Swept now l u 0 := ⟨[], h, by simp, rfl⟩
theorem places_lt {f n m : Nat} (hm : 0 < m) : ∀ j ∈ placesL f n m, j < m := fun j hj => by
  unfold placesL at hj
  obtain ⟨i, _, rfl⟩ := List.mem_map.1 hj
  exact Nat.mod_lt _ hm
theorem sweepV_ok {n : Nat} {l : List EnV} {f k now : Int} (h : TabOk n l) (hn : 0 < n) : TabOk n (sweepV l f k now).1 ∧ Swept now l (sweepV l f k now).1 (sweepV l f k now).2.2 := by
  obtain ⟨h1, q, h2, h3⟩ : TabOk n (sweep0 l (fromV l f) (manyV l k) now).1 ∧ ∃ q, (sweep0 l (fromV l f) (manyV l k) now).2 = q ∧ Swept now l (sweep0 l (fromV l f) (manyV l k) now).1 q := by
    obtain ⟨h1, q, h2, h3, _⟩ := fold_ok (now := now) (placesL (fromV l f) (manyV l k) l.length) l 0 h (by rw [← h.len]; exact places_lt (by rw [h.len]; exact hn))
    exact ⟨h1, q, by rw [Nat.zero_add] at h2; exact h2, h3⟩
  unfold sweepV
  simp only
  by_cases c : 0 < (sweep0 l (fromV l f) (manyV l k) now).2
  · rw [if_pos c]
    refine ⟨h1.settle, ?_⟩
    have := h3.trans (Swept.zero (now := now) h1.perm)
    rw [h2]; simpa using this
  · rw [if_neg c]
    exact ⟨h1, by rw [h2]; exact h3⟩
theorem sweepV_le (l : List EnV) (f k now : Int) : (sweepV l f k now).2.2 ≤ k.toNat := by
  have h := stepP_le now (placesL (fromV l f) (manyV l k) l.length) (l, 0)
  have h2 : (placesL (fromV l f) (manyV l k) l.length).length = manyV l k := by simp [placesL]
  have h3 : manyV l k ≤ k.toNat := by unfold manyV; omega
  unfold sweepV sweep0
  simp only at h ⊢
  omega
/-- how many flows' time is over -/
def dues (l : List EnV) (now : Int) : Nat := (flowsOf l).countP fun x => dueV x now
theorem Swept.dues {now : Int} {l u : List EnV} {k : Nat} (h : Swept now l u k) : dues u now + k = dues l now ∧ (flowsOf u).length + k = (flowsOf l).length := by
  obtain ⟨r, h1, h2, h3⟩ := h
  have e1 := h1.countP_eq fun x => dueV x now
  have e2 := h1.length_eq
  rw [List.countP_append, List.countP_eq_length.2 h2] at e1
  rw [List.length_append] at e2
  unfold Go.Proofs.YtggakcpabomliaaGreat.dues
  omega
/-- a sweep of all places -/
theorem sweepAll_ok {n : Nat} {l : List EnV} {now : Int} (h : TabOk n l) (hn : 0 < n) : (sweepV l 0 l.length now).2.2 = dues l now := by
  have hp : placesL (fromV l 0) (manyV l l.length) l.length = (List.range n).map fun i => (0 + i) % n := by
    unfold placesL fromV manyV
    rw [h.len]; simp
  obtain ⟨h1, q, h2, h3, h4⟩ := fold_ok (now := now) (placesL (fromV l 0) (manyV l l.length) l.length) l 0 h (by rw [← h.len]; exact places_lt (by rw [h.len]; exact hn))
  have hd := h3.dues
  have hz : dues (sweep0 l (fromV l 0) (manyV l l.length) now).1 now = 0 := by
    unfold dues
    rw [List.countP_eq_zero]
    intro x hx hdx
    unfold flowsOf at hx
    obtain ⟨hx1, _⟩ := List.mem_filter.1 hx
    obtain ⟨i, hi, e⟩ := List.getElem_of_mem hx1
    have hi' : i < n := by have := h1.len; unfold sweep0 at hi; omega
    have := (h4 i x (by unfold sweep0 at hi e; simp [hi, e]) hdx).1
    rw [hp] at this
    exact this (List.mem_map.2 ⟨i, List.mem_range.2 hi', by rw [Nat.zero_add, Nat.mod_eq_of_lt hi']⟩)
  unfold sweepV
  simp only
  unfold sweep0 at *
  rw [h2]
  omega
structure Inv (c : CfgV) (s : MoS) : Prop where
  cfg : s.c = c
  ok : cfgOk c = true
  pool : checkV s.pool = 0
  sh : (s.tabs.length : Int) = c.sh
  tab : ∀ t ∈ s.tabs, TabOk c.cp.toNat t.1
  own : ∀ (i : Nat) t, s.tabs[i]? = some t → ∀ x ∈ flowsOf t.1, shardV x.key c.sh = i
theorem cfg_bounds {c : CfgV} (h : cfgOk c = true) : 1 ≤ c.wk ∧ c.wk ≤ 64 ∧ 1 ≤ c.sh ∧ c.sh ≤ 16 ∧ 1 ≤ c.cp ∧ c.cp ≤ 64 ∧ 0 ≤ c.idle ∧ c.idle ≤ 1000000 := by
  simp [cfgOk, inV] at h; omega
theorem Inv.new {c : CfgV} (h : cfgOk c = true) : Inv c ⟨c, [], newTs c⟩ := by
  have hb := cfg_bounds h
  refine ⟨rfl, h, rfl, by simp [newTs]; omega, fun t ht => ?_, fun i t ht x hx => ?_⟩
  · rw [newTs] at ht
    rw [(List.mem_replicate.1 ht).2]
    exact TabOk.new (by omega)
  · have ht := List.mem_of_getElem? ht
    rw [newTs] at ht
    rw [(List.mem_replicate.1 ht).2, flowsOf_new] at hx
    cases hx
theorem shardV_lt {key : ByteArray} {n : Int} (h : 1 ≤ n) : shardV key n < n.toNat := by
  unfold shardV; rw [if_neg (by omega)]; exact Nat.mod_lt _ (by omega)
theorem Inv.set {c : CfgV} {s : MoS} (h : Inv c s) {i : Nat} {t u : List EnV × Nat} (ht : s.tabs[i]? = some t) (hu : TabOk c.cp.toNat u.1) (hf : ∀ x ∈ flowsOf u.1, x ∈ flowsOf t.1 ∨ shardV x.key c.sh = i) : Inv c { s with tabs := s.tabs.set i u } := by
  refine ⟨h.cfg, h.ok, h.pool, by rw [List.length_set]; exact h.sh, fun v hv => ?_, fun j v hv x hx => ?_⟩
  · rcases List.mem_or_eq_of_mem_set hv with h1 | rfl
    · exact h.tab v h1
    · exact hu
  · rcases getElem?_set_some hv with ⟨rfl, rfl⟩ | ⟨_, h2⟩
    · rcases hf x hx with h1 | h1
      · exact h.own j t ht x h1
      · exact h1
    · exact h.own j v h2 x hx
theorem Inv.at {c : CfgV} {s : MoS} (h : Inv c s) {i : Nat} (hi : i < c.sh.toNat) : s.tabs[i]? = some (s.tabs.getD i ([], 0)) := getD_some _ (by have := h.sh; omega)
theorem Inv.do' {c : CfgV} {s : MoS} (h : Inv c s) (o : OpV) (now : Int) : Inv c (doV s o now).1 := by
  have hb := cfg_bounds h.ok
  obtain ⟨sc, sp, st⟩ := s
  obtain rfl : sc = c := h.cfg
  unfold doV
  split
  · unfold dispV
    simp only
    split
    · exact h
    · have hi := shardV_lt (key := keyB (packetV o.packet).1) hb.2.2.1
      have hat := h.at hi
      have ht := h.tab _ (List.mem_of_getElem? hat)
      obtain ⟨h1, h2⟩ := decideV_ok (p := sp) (closing := closingV (packetV o.packet).1 (packetV o.packet).2.1) (now := now) (idle := sc.idle) ht (keyB_size (packetV o.packet).1)
      exact h.set (u := (_, _)) hat h1 fun x hx => by
        rcases h2.from' x hx with h3 | h3
        · exact Or.inl h3
        · exact Or.inr (by rw [h3])
  split
  · unfold updV
    split
    · rename_i hc
      exact ⟨h.cfg, h.ok, hc, h.sh, h.tab, h.own⟩
    · exact h
  split
  · unfold expV
    split
    · exact h
    · rename_i hc
      have hat := h.at (i := o.shard.toNat) (by have := h.sh; omega)
      have ht := h.tab _ (List.mem_of_getElem? hat)
      simp only
      obtain ⟨h1, h2⟩ := sweepV_ok (f := (st.getD o.shard.toNat ([], 0)).2) (k := 4) (now := now) ht (by omega)
      refine h.set (u := (_, _)) hat h1 fun x hx => ?_
      obtain ⟨r, h3, _⟩ := h2
      exact Or.inl (h3.subset (List.mem_append_right _ hx))
  split
  · exact h
  · exact h
theorem Inv.ok2 {m : MoH} {c : CfgV} (h : Inv c m.st) : MoOk2 m := by
  have hb := cfg_bounds h.ok
  have hl : m.st.tabs.length = m.ts.length := by simp [MoH.st]
  have hsh := h.sh
  have hm : ∀ t ∈ m.ts, TabOk c.cp.toNat t.1.2 := fun t ht => h.tab (t.1.2, t.2) (List.mem_map.2 ⟨t, ht, rfl⟩)
  have hc : m.c = c := h.cfg
  have hp := h.pool
  refine ⟨⟨by omega, fun t ht => by rw [(hm t ht).len]; omega, fun t ht => (hm t ht).keys⟩, ?_, by rw [hc]; omega, by omega⟩
  have : m.st.pool = m.pool := rfl
  rw [this] at hp
  unfold checkV at hp
  split at hp
  · rename_i hc; simp at hc; omega
  · cases hp
end Go.Proofs.YtggakcpabomliaaGreat
namespace Go.Proofs.YtggakcpabomliaaGreat
open Go
def wkK : KeyV := ⟨4, ByteArray.mk #[97, 98, 99, 100], ByteArray.mk #[101, 102, 103, 104], 1, 2, 17⟩
def wkC : CfgV := ⟨1, 1, 1, 5, 2⟩
theorem wk_put : (packetP wkK 0).2 = 0 := by kernel_rfl
theorem wk_parse : packetV (packetP wkK 0).1 = (wkK, 0, 0) := by kernel_rfl
theorem wk_size : (packetP wkK 0).1.size < 2 ^ 40 := by
  rw [show (packetP wkK 0).1.size = 28 by kernel_rfl]; omega
theorem wk_closing : closingV wkK 0 = false := by kernel_rfl
theorem wk_cfg : cfgOk wkC = true := by kernel_rfl
theorem wk_cfg0 : cfgOk ⟨0, 0, 0, 0, 0⟩ = false := by kernel_rfl
theorem wk_shard (key : ByteArray) : shardV key 1 = 0 := by unfold shardV; simp [Nat.mod_one]
theorem wk_way (x : EnV) (key : ByteArray) : wayL [x] key = [(0, x)] := by unfold wayL; simp [Nat.mod_one, List.range_succ]
theorem wk_pick (h : Nat) : pickV [(7, 1)] h = 7 := by
  have hm : ∀ x ∈ sortP (ptsL [(7, 1)]), x.2 = 7 := fun x hx => by
    unfold sortP at hx
    have hx := (List.mergeSort_perm _ _).mem_iff.1 hx
    simp only [ptsL, ptsB, List.flatMap_cons, List.flatMap_nil, List.append_nil, List.mem_map] at hx
    obtain ⟨_, _, rfl⟩ := hx; rfl
  have hl : (sortP (ptsL [(7, 1)])).length = 8 := by
    unfold sortP; rw [List.length_mergeSort]; rfl
  unfold pickV succP
  generalize sortP (ptsL [(7, 1)]) = l at *
  rw [if_neg (by omega)]
  have hi : searchV (geP l h) 0 l.length % l.length < l.length := Nat.mod_lt _ (by omega)
  rw [List.getD_eq_getElem?_getD, List.getElem?_eq_getElem hi]
  exact hm _ (List.getElem_mem hi)
def wk0 : MoS := ⟨wkC, [], [([noE], 0)]⟩
def wk1 : MoS := ⟨wkC, [(7, 1)], [([noE], 0)]⟩
def wkE (now : Int) : EnV := ⟨1, keyB wkK, 7, now + 5⟩
def wk2 (now : Int) : MoS := ⟨wkC, [(7, 1)], [([wkE now], 0)]⟩
theorem wk_disp (s : MoS) (hs : s.c = wkC) (now : Int) : dispV s (packetP wkK 0).1 now = ({ s with tabs := s.tabs.set 0 ((decideV (s.tabs.getD 0 ([], 0)).1 s.pool (keyB wkK) false now 5).1, (s.tabs.getD 0 ([], 0)).2) }, (decideV (s.tabs.getD 0 ([], 0)).1 s.pool (keyB wkK) false now 5).2.1) := by
  unfold dispV
  rw [wk_parse]
  simp only [hs, wkC, wk_shard, wk_closing, ne_eq, not_true_eq_false, if_false]
  rfl
theorem wk_find0 : findE [noE] (keyB wkK) = -1 := by unfold findE; rw [wk_way]; rfl
theorem wk_find1 (now : Int) : findE [wkE now] (keyB wkK) = 0 := by unfold findE; rw [wk_way]; simp [findW, wkE]
theorem wk_a : dispV wk0 (packetP wkK 0).1 0 = (wk0, ⟨11, 0, false, 0⟩) := by
  rw [wk_disp _ rfl]
  have : decideV [noE] [] (keyB wkK) false 0 5 = ([noE], ⟨11, 0, false, 0⟩, false) := by
    unfold decideV knownV
    rw [wk_find0]; simp
  simp only [wk0, List.getD_cons_zero, this]
  rfl
theorem wk_b : updV wk0 [(7, 1)] = (wk1, ⟨0, 0, false, 0⟩) := by kernel_rfl
theorem wk_known0 (now : Int) (l : List EnV) (h : findE l (keyB wkK) = -1) : knownV l [(7, 1)] (keyB wkK) now = (0, false) := by
  unfold knownV; rw [h]; simp
theorem wk_d : dispV wk1 (packetP wkK 0).1 0 = (wk2 0, ⟨0, 7, true, 0⟩) := by
  rw [wk_disp _ rfl]
  have : decideV [noE] [(7, 1)] (keyB wkK) false 0 5 = ([wkE 0], ⟨0, 7, true, 0⟩, true) := by
    unfold decideV pickB newX
    unfold putE roomE
    simp only [pickB, wk_known0 0 _ wk_find0, wk_find0, wk_way, wk_pick]
    simp [roomW, noE, wkE]
  simp only [wk1, List.getD_cons_zero, this]
  rfl
theorem wk_know (at' now : Int) (h : now ≤ at' + 5) : knownV [wkE at'] [(7, 1)] (keyB wkK) now = (7, true) := by
  unfold knownV atE
  rw [wk_find1]
  have : findB [(7, 1)] 7 = 0 := by kernel_rfl
  simp [wkE, this]
  omega
theorem wk_late (at' now : Int) (h : at' + 5 < now) : knownV [wkE at'] [(7, 1)] (keyB wkK) now = (0, false) := by
  unfold knownV atE
  rw [wk_find1]
  simp [wkE, h]
theorem wk_again (at' now : Int) (a : AnsV) (hk : pickB [wkE at'] [(7, 1)] (keyB wkK) now = 7) (ha : a = ⟨0, 7, !(knownV [wkE at'] [(7, 1)] (keyB wkK) now).2, 0⟩) (hw : IntKind.i64.wrap (now + 5) = now + 5) : dispV (wk2 at') (packetP wkK 0).1 now = (wk2 now, a) := by
  rw [wk_disp _ rfl]
  have : decideV [wkE at'] [(7, 1)] (keyB wkK) false now 5 = ([wkE now], a, true) := by
    unfold decideV newX
    unfold putE
    rw [hk, hw]
    simp only [wk_find1]
    simp [wkE, ha]
  simp only [wk2, List.getD_cons_zero, this]
  rfl
theorem wk_g : dispV (wk2 0) (packetP wkK 0).1 5 = (wk2 5, ⟨0, 7, false, 0⟩) :=
  wk_again 0 5 _ (by unfold pickB; rw [wk_know 0 5 (by omega)]; rfl) (by rw [wk_know 0 5 (by omega)]; rfl) (by decide)
theorem wk_h : dispV (wk2 5) (packetP wkK 0).1 11 = (wk2 11, ⟨0, 7, true, 0⟩) :=
  wk_again 5 11 _ (by unfold pickB; rw [wk_late 5 11 (by omega)]; exact wk_pick _) (by rw [wk_late 5 11 (by omega)]; rfl) (by decide)
theorem wk_i : statV (wk2 11) = (wk2 11, ⟨0, 0, false, 1⟩) := rfl
theorem wk_j : packetV (ByteArray.mk #[]) = (noK, 0, 2) := by kernel_rfl
end Go.Proofs.YtggakcpabomliaaGreat
namespace Go.Proofs.YtggakcpabomliaaGreat
open Go
@[simp] theorem ans_err (a b c d : Value) (K : Value → WP) : pur PR (Instr.field 39 (.agg #[a, b, c, d]) 0) K = K a := i_fd_39_0 rfl K
@[simp] theorem ans_count (a b c d : Value) (K : Value → WP) : pur PR (Instr.field 39 (.agg #[a, b, c, d]) 3) K = K d := i_fd_39_3 rfl K
section
variable {κ : Bool} {S : List Nat} {w0 w : World} {H Hk : List Res} {K : Value → WP}
theorem part_pre {A B : List Res} : Part A (A ++ B) B := by
  induction A with
  | nil => exact Part.nil
  | cons r A ih => exact Part.cons Sel.here ih
theorem Part.skip {x : Res} {Hc : List Res} (h : Part Hc H Hk) : Part Hc (x :: H) (x :: Hk) := by
  induction h with
  | nil => exact Part.nil
  | cons h1 _ ih => exact Part.cons (Sel.there h1) ih
theorem do_disp (s : MoS) (o : OpV) (now : Int) (h : o.kind = 0) : doV s o now = dispV s o.packet now := by unfold doV; rw [if_pos h]
theorem do_upd (s : MoS) (o : OpV) (now : Int) (h : o.kind = 1) : doV s o now = updV s o.pool := by unfold doV; rw [if_neg (by omega), if_pos h]
theorem do_exp (s : MoS) (o : OpV) (now : Int) (h : o.kind = 2) : doV s o now = expV s o.shard now := by unfold doV; rw [if_neg (by omega), if_neg (by omega), if_pos h]
theorem do_stat (s : MoS) (o : OpV) (now : Int) (h : o.kind = 3) : doV s o now = statV s := by unfold doV; rw [if_neg (by omega), if_neg (by omega), if_neg (by omega), if_pos h]
theorem do_none (s : MoS) (o : OpV) (now : Int) (h : o.kind < 0 ∨ 3 < o.kind) : doV s o now = (s, ⟨1, 0, false, 0⟩) := by unfold doV; rw [if_neg (by omega), if_neg (by omega), if_neg (by omega), if_neg (by omega)]
theorem poolAt_nil {m : MoH} : PoolAt w m (.slice none 0 0) [] := ⟨Or.inl ⟨rfl, rfl, none, 0, rfl⟩, fun h => by simp at h, by simp, rfl, rfl⟩
theorem poolAt_own {m : MoH} {v : Value} {p : List BkV} {e : TypeId} (hw : LW κ S w0 (modH m ++ Hk) w) (hm : Res.own e 2 v p.length (p.flatMap encB) ∈ Hk) (hl : p.length ≤ 1000) : PoolAt w m v p := by
  have h := hw.hold _ (List.mem_append_right _ hm)
  obtain ⟨a, c, e⟩ := Own.form h
  refine ⟨Own.rd h, fun _ g hg hf => ?_, hl, by rw [e]; rfl, by rw [e]; rfl⟩
  obtain ⟨s, hs, hbs⟩ := mem_foots.1 hf
  exact (List.pairwise_append.1 hw.dis).2.2 s hs _ hm g hbs hg
theorem ownB_old {v : Value} {n : Nat} {xs : List Value} (h : Rd1 w v n xs) (hn : 0 < n → 0 < xs.length) : 0 < n → ∀ g ∈ ownB v, g < sz w := fun h0 g hg => by
  obtain ⟨a, c, rfl, hr⟩ := h.form
  obtain ⟨b, o, rfl, hrow⟩ := hr h0
  simp only [ownB, List.mem_cons, List.not_mem_nil, or_false] at hg
  subst hg
  have h1 := hrow 0 (hn h0)
  rw [List.getElem?_eq_getElem (hn h0)] at h1
  obtain ⟨c', t', z', h1, h2⟩ := cell_some h1
  exact bl_lt h1
theorem poolAt_old {m : MoH} {v : Value} {p : List BkV} (hw : LW κ [] w0 (modH m ++ Hk) w) (h : Rd1 w0 v p.length (p.flatMap encB)) (hl : p.length ≤ 1000) : PoolAt w m v p := by
  refine ⟨h.ks hw.ks (by simp), fun h0 g hg hf => ?_, hl, by obtain ⟨a, c, e, _⟩ := h.form; rw [e]; exact ⟨rfl, rfl⟩⟩
  have h1 := ownB_old h (by rw [flat_len (k := 2) fun _ => rfl]; omega) h0 g hg
  obtain ⟨s, hs, hbs⟩ := mem_foots.1 hf
  rcases (hw.own s (List.mem_append_left _ hs) g hbs).1 with h2 | h2
  · cases h2
  · omega
theorem T_do {m : MoH} {o : OpV} {v : Value} {now : Int} {c : CfgV} (r : MoS × AnsV) (hi : Inv c m.st) (hp : Part (modH m) H Hk) (hpa : ∀ w, LW false S w0 (modH m ++ Hk) w → PoolAt w m v o.pool) (hpk : o.packet.size < 2 ^ 40) (hr : doV m.st o now = r)
    (hK : ∀ m' : MoH, m'.b = m.b → m'.st = r.1 → Inv c m'.st → TW false S w0 (modH m' ++ Hk) (K r.2.val)) : TW false S w0 H (cal PR NoX 20 [.pointer (some ⟨m.b, 0, none⟩), o.val v, .int .i64 now] K) := by
  subst hr
  refine T_callP (Hc := modH m) ent_model_Model_Do (fun w' hw hs => Do_ok w' m o v now (hpa w' hw) hpk hi.ok2 hs) hp ?_
  rintro m' _ ⟨rfl, hb, hst⟩
  exact hK m' hb hst (by rw [hst]; exact hi.do' o now)
theorem Inv.tabs {c : CfgV} {m : MoH} (hi : Inv c m.st) : ∀ t ∈ m.ts, TabOk c.cp.toNat t.1.2 := fun t ht => hi.tab (t.1.2, t.2) (List.mem_map.2 ⟨t, ht, rfl⟩)
theorem tabR_of {m : MoH} : tabR (m.ts.map (·.1)) ∈ modH m := by simp [modH]
theorem mo_tab (hw : LW κ S w0 H w) {m : MoH} (hm : ∀ r ∈ modH m, r ∈ H) : ∀ t ∈ m.ts, Rd1 w t.1.1 t.1.2.length (t.1.2.flatMap encE) := fun t ht =>
  tab_rd hw (hm _ tabR_of) (List.mem_map.2 ⟨t, ht, rfl⟩)
theorem mo_pt {m : MoH} : Res.pt m.b (.cells #[.int .i64 m.c.wk, .int .i64 m.c.sh, .int .i64 m.c.cp, .int .i64 m.c.idle, .int .i64 m.c.sl, m.pv, m.sv] 109) ∈ modH m := mem_h
theorem mo_pv (hw : LW κ S w0 H w) {m : MoH} (hm : ∀ r ∈ modH m, r ∈ H) : w.cell? ⟨m.b, 5, none⟩ = some m.pv := hw.cell (hm _ mo_pt) rfl
theorem mo_sv (hw : LW κ S w0 H w) {m : MoH} (hm : ∀ r ∈ modH m, r ∈ H) : w.cell? ⟨m.b, 6, none⟩ = some m.sv := hw.cell (hm _ mo_pt) rfl
theorem mo_rp (hw : LW κ S w0 H w) {m : MoH} (hm : ∀ r ∈ modH m, r ∈ H) : Rd1 w m.pv m.pool.length (m.pool.flatMap encB) := Own.rd (hw.hold _ (hm _ (mem_t mem_h)))
theorem mo_rs (hw : LW κ S w0 H w) {m : MoH} (hm : ∀ r ∈ modH m, r ∈ H) : Rd1 w m.sv m.ts.length (m.ts.flatMap encSh) := Own.rd (hw.hold _ (hm _ (mem_t (mem_t mem_h))))
/-- a copy of a shard's table -/
theorem T_table {m : MoH} {i : Int} {c : CfgV} (hi : Inv c m.st) (hp : Part (modH m) H Hk) (hK : ∀ r, TW false S w0 (ownE r (tableV m.ts i) :: (modH m ++ Hk)) (K r)) : TW false S w0 H (cal PR NoX 25 [.pointer (some ⟨m.b, 0, none⟩), .int .i64 i] K) := by
  have hb := cfg_bounds hi.ok
  have hsh := hi.sh
  have hl : m.st.tabs.length = m.ts.length := by simp [MoH.st]
  refine TW.perm ?_ hp.perm
  refine T_cn ent_model_Model_Table (fun w' hw' => mTable_ok w' m.b m.sv m.ts i (by omega) (mo_sv hw' fun r hr => List.mem_append_left _ hr) (mo_rs hw' fun r hr => List.mem_append_left _ hr) (mo_tab hw' fun r hr => List.mem_append_left _ hr)
    fun t ht => by rw [(hi.tabs t ht).len]; omega) ?_
  intro r v hv
  subst hv
  exact hK _
theorem T_pool {m : MoH} {c : CfgV} (hi : Inv c m.st) (hp : Part (modH m) H Hk) (hK : ∀ r, TW false S w0 (.own 103 2 r m.pool.length (m.pool.flatMap encB) :: (modH m ++ Hk)) (K r)) : TW false S w0 H (cal PR NoX 23 [.pointer (some ⟨m.b, 0, none⟩)] K) := by
  refine TW.perm ?_ hp.perm
  refine T_cn ent_model_Model_Pool (fun w' hw' => mPool_ok w' m.b m.pv m.pool (by have := hi.ok2.pool; omega) (mo_pv hw' fun r hr => List.mem_append_left _ hr) (mo_rp hw' fun r hr => List.mem_append_left _ hr)) ?_
  intro r v hv
  subst hv
  exact hK _
theorem T_new {c : CfgV} (h0 : cfgOk c = false → TW false S w0 H (K (.tuple #[.pointer none, .int .i64 1])))
    (h1 : ∀ m : MoH, cfgOk c = true → m.st = ⟨c, [], newTs c⟩ → Inv c m.st → TW false S w0 (modH m ++ H) (K (.tuple #[.pointer (some ⟨m.b, 0, none⟩), .int .i64 0]))) : TW false S w0 H (cal PR NoX 16 [c.val] K) := by
  refine T_cn ent_model_New (fun w' _ => mNew_ok w' c) ?_
  rintro m u hm
  cases hc : cfgOk c with
  | false =>
    simp only [hc, Bool.false_eq_true, if_false] at hm ⊢
    subst hm
    exact h0 hc
  | true =>
    simp only [hc, if_true] at hm ⊢
    obtain ⟨rfl, hmc, hmp, hmt⟩ := hm
    have e : m.st = ⟨c, [], newTs c⟩ := by unfold MoH.st; rw [hmc, hmp, hmt]
    exact h1 m hc e (by rw [e]; exact Inv.new hc)
end
end Go.Proofs.YtggakcpabomliaaGreat
namespace Go.Proofs.YtggakcpabomliaaGreat
open Go
theorem works17_ok (w : World) : Fn PR NoX 14 #[] w (fun v w' => v = .bool true ∧ But [] w w') := by
  refine Fn.pure (mk_gangplanklaw17_works (TW.go (κ := false) (S := []) ?_))
  unfold sh_gangplanklaw17_works
  (have hQq : True := trivial; repeat ((first | clear hQq | (with_reducible first | refine T_drw ?_ | refine T_bx fun _ => ?_ | refine s_al fun _ => ?_ | refine s_bs0 fun _ => ?_ | refine s_bs1 (hK := fun _ => ?_) | refine s_bs2 (hK := fun _ => ?_) | refine s_bs3 (hK := fun _ => ?_) | refine s_bs5 (hK := fun _ => ?_) | refine s_bs6 (hK := fun _ => ?_))); (try simp (disch := first | omega | assumption | ((repeat (first | exact mem_h | exact Up.here | apply mem_t | apply Up.there)); first | done | fail) | (simp; first | done | omega | fail)) [])))
  rename_i bc
  refine T_new (c := wkC) (fun h => by rw [wk_cfg] at h; cases h) fun m _ hst hi => ?_
  (have hQq : True := trivial; repeat ((first | clear hQq | (with_reducible first | refine T_drw ?_ | refine T_bx fun _ => ?_ | refine s_al fun _ => ?_ | refine s_bs0 fun _ => ?_ | refine s_bs1 (hK := fun _ => ?_) | refine s_bs2 (hK := fun _ => ?_) | refine s_bs3 (hK := fun _ => ?_) | refine s_bs5 (hK := fun _ => ?_) | refine s_bs6 (hK := fun _ => ?_))); (try simp (disch := first | omega | assumption | ((repeat (first | exact mem_h | exact Up.here | apply mem_t | apply Up.there)); first | done | fail) | (simp; first | done | omega | fail)) [])))
  refine T_new (c := ⟨0, 0, 0, 0, 0⟩) (fun _ => ?_) (fun _ h => by rw [wk_cfg0] at h; cases h)
  (have hQq : True := trivial; repeat ((first | clear hQq | (with_reducible first | refine T_drw ?_ | refine T_bx fun _ => ?_ | refine s_al fun _ => ?_ | refine s_bs0 fun _ => ?_ | refine s_bs1 (hK := fun _ => ?_) | refine s_bs2 (hK := fun _ => ?_) | refine s_bs3 (hK := fun _ => ?_) | refine s_bs5 (hK := fun _ => ?_) | refine s_bs6 (hK := fun _ => ?_))); (try simp (disch := first | omega | assumption | ((repeat (first | exact mem_h | exact Up.here | apply mem_t | apply Up.there)); first | done | fail) | (simp; first | done | omega | fail)) [])))
  refine T_cv ent_packet_Put (fun w' _ => packetPut_ok w' wkK 0) ?_
  rw [wk_put]
  (have hQq : True := trivial; repeat ((first | clear hQq | (with_reducible first | refine T_drw ?_ | refine T_bx fun _ => ?_ | refine s_al fun _ => ?_ | refine s_bs0 fun _ => ?_ | refine s_bs1 (hK := fun _ => ?_) | refine s_bs2 (hK := fun _ => ?_) | refine s_bs3 (hK := fun _ => ?_) | refine s_bs5 (hK := fun _ => ?_) | refine s_bs6 (hK := fun _ => ?_))); (try simp (disch := first | omega | assumption | ((repeat (first | exact mem_h | exact Up.here | apply mem_t | apply Up.there)); first | done | fail) | (simp; first | done | omega | fail)) [])))
  refine T_do (o := ⟨0, (packetP wkK 0).1, [], 0⟩) (wk0, ⟨11, 0, false, 0⟩) hi (by ((repeat (first | exact part_pre | apply Part.skip)); first | done | fail)) (fun _ _ => poolAt_nil) wk_size (by rw [hst, do_disp _ _ _ rfl]; exact wk_a) fun m1 hb1 hst1 hi1 => ?_
  rw [← hb1]
  clear hst hi hb1
  (have hQq : True := trivial; repeat ((first | clear hQq | (with_reducible first | refine T_drw ?_ | refine T_bx fun _ => ?_ | refine s_al fun _ => ?_ | refine s_bs0 fun _ => ?_ | refine s_bs1 (hK := fun _ => ?_) | refine s_bs2 (hK := fun _ => ?_) | refine s_bs3 (hK := fun _ => ?_) | refine s_bs5 (hK := fun _ => ?_) | refine s_bs6 (hK := fun _ => ?_))); (try simp (disch := first | omega | assumption | ((repeat (first | exact mem_h | exact Up.here | apply mem_t | apply Up.there)); first | done | fail) | (simp; first | done | omega | fail)) [AnsV.val])))
  refine T_do (o := ⟨1, noB, [(7, 1)], 0⟩) (wk1, ⟨0, 0, false, 0⟩) hi1 (by ((repeat (first | exact part_pre | apply Part.skip)); first | done | fail)) (fun _ h => poolAt_own (p := [(7, 1)]) h mem_h (by decide)) (by simp) (by rw [hst1, do_upd _ _ _ rfl]; exact wk_b) fun m2 hb2 hst2 hi2 => ?_
  rw [← hb2]
  clear hst1 hi1 hb2
  (have hQq : True := trivial; repeat ((first | clear hQq | (with_reducible first | refine T_drw ?_ | refine T_bx fun _ => ?_ | refine s_al fun _ => ?_ | refine s_bs0 fun _ => ?_ | refine s_bs1 (hK := fun _ => ?_) | refine s_bs2 (hK := fun _ => ?_) | refine s_bs3 (hK := fun _ => ?_) | refine s_bs5 (hK := fun _ => ?_) | refine s_bs6 (hK := fun _ => ?_))); (try simp (disch := first | omega | assumption | ((repeat (first | exact mem_h | exact Up.here | apply mem_t | apply Up.there)); first | done | fail) | (simp; first | done | omega | fail)) [AnsV.val])))
  refine T_do (o := ⟨0, (packetP wkK 0).1, [], 0⟩) (wk2 0, ⟨0, 7, true, 0⟩) hi2 (by ((repeat (first | exact part_pre | apply Part.skip)); first | done | fail)) (fun _ _ => poolAt_nil) wk_size (by rw [hst2, do_disp _ _ _ rfl]; exact wk_d) fun m1 hb1 hst1 hi1 => ?_
  rw [← hb1]
  clear hst2 hi2 hb1
  (have hQq : True := trivial; repeat ((first | clear hQq | (with_reducible first | refine T_drw ?_ | refine T_bx fun _ => ?_ | refine s_al fun _ => ?_ | refine s_bs0 fun _ => ?_ | refine s_bs1 (hK := fun _ => ?_) | refine s_bs2 (hK := fun _ => ?_) | refine s_bs3 (hK := fun _ => ?_) | refine s_bs5 (hK := fun _ => ?_) | refine s_bs6 (hK := fun _ => ?_))); (try simp (disch := first | omega | assumption | ((repeat (first | exact mem_h | exact Up.here | apply mem_t | apply Up.there)); first | done | fail) | (simp; first | done | omega | fail)) [AnsV.val])))
  refine T_do (o := ⟨0, (packetP wkK 0).1, [], 0⟩) (wk2 5, ⟨0, 7, false, 0⟩) hi1 (by ((repeat (first | exact part_pre | apply Part.skip)); first | done | fail)) (fun _ _ => poolAt_nil) wk_size (by rw [hst1, do_disp _ _ _ rfl]; exact wk_g) fun m2 hb2 hst2 hi2 => ?_
  rw [← hb2]
  clear hst1 hi1 hb2
  (have hQq : True := trivial; repeat ((first | clear hQq | (with_reducible first | refine T_drw ?_ | refine T_bx fun _ => ?_ | refine s_al fun _ => ?_ | refine s_bs0 fun _ => ?_ | refine s_bs1 (hK := fun _ => ?_) | refine s_bs2 (hK := fun _ => ?_) | refine s_bs3 (hK := fun _ => ?_) | refine s_bs5 (hK := fun _ => ?_) | refine s_bs6 (hK := fun _ => ?_))); (try simp (disch := first | omega | assumption | ((repeat (first | exact mem_h | exact Up.here | apply mem_t | apply Up.there)); first | done | fail) | (simp; first | done | omega | fail)) [AnsV.val])))
  refine T_do (o := ⟨0, (packetP wkK 0).1, [], 0⟩) (wk2 11, ⟨0, 7, true, 0⟩) hi2 (by ((repeat (first | exact part_pre | apply Part.skip)); first | done | fail)) (fun _ _ => poolAt_nil) wk_size (by rw [hst2, do_disp _ _ _ rfl]; exact wk_h) fun m1 hb1 hst1 hi1 => ?_
  rw [← hb1]
  clear hst2 hi2 hb1
  (have hQq : True := trivial; repeat ((first | clear hQq | (with_reducible first | refine T_drw ?_ | refine T_bx fun _ => ?_ | refine s_al fun _ => ?_ | refine s_bs0 fun _ => ?_ | refine s_bs1 (hK := fun _ => ?_) | refine s_bs2 (hK := fun _ => ?_) | refine s_bs3 (hK := fun _ => ?_) | refine s_bs5 (hK := fun _ => ?_) | refine s_bs6 (hK := fun _ => ?_))); (try simp (disch := first | omega | assumption | ((repeat (first | exact mem_h | exact Up.here | apply mem_t | apply Up.there)); first | done | fail) | (simp; first | done | omega | fail)) [AnsV.val])))
  refine T_do (o := ⟨3, noB, [], 0⟩) (wk2 11, ⟨0, 0, false, 1⟩) hi1 (by ((repeat (first | exact part_pre | apply Part.skip)); first | done | fail)) (fun _ _ => poolAt_nil) (by simp) (by rw [hst1, do_stat _ _ _ rfl]; exact wk_i) fun m2 hb2 hst2 hi2 => ?_
  rw [← hb2]
  clear hst1 hi1 hb2
  simp only [modH, List.cons_append, List.nil_append]
  (have hQq : True := trivial; repeat ((first | clear hQq | (with_reducible first | refine T_drw ?_ | refine T_bx fun _ => ?_ | refine s_al fun _ => ?_ | refine s_bs0 fun _ => ?_ | refine s_bs1 (hK := fun _ => ?_) | refine s_bs2 (hK := fun _ => ?_) | refine s_bs3 (hK := fun _ => ?_) | refine s_bs5 (hK := fun _ => ?_) | refine s_bs6 (hK := fun _ => ?_))); (try simp (disch := first | omega | assumption | ((repeat (first | exact mem_h | exact Up.here | apply mem_t | apply Up.there)); first | done | fail) | (simp; first | done | omega | fail)) [AnsV.val])))
  refine T_pool hi2 (by simp only [modH]; ((repeat (first | exact Part.nil | (apply Part.cons; · ((repeat (first | exact mem_h | exact Up.here | exact Sel.here | apply mem_t | apply Up.there | apply Sel.there)); first | done | fail)))); first | done | fail)) fun r => ?_
  obtain ⟨hp2, va, hts⟩ : m2.pool = [(7, 1)] ∧ ∃ a, m2.ts = [((a, [wkE 11]), 0)] := by
    have := hst2; unfold MoH.st wk2 at this; simp at this; exact this.2
  have e0 : tableV m2.ts 0 = [wkE 11] := by simp [tableV, hts]
  have e1 : tableV m2.ts 1 = [] := by simp [tableV, hts]
  rw [hp2]
  simp only [modH, List.cons_append, List.nil_append]
  refine T_opn (by ((repeat (first | exact mem_h | exact Up.here | exact Sel.here | apply mem_t | apply Up.there | apply Sel.there)); first | done | fail)) fun ra rc hr => ?_
  subst hr
  (have hQq : True := trivial; repeat ((first | clear hQq | (with_reducible first | refine T_drw ?_ | refine T_bx fun _ => ?_ | refine s_al fun _ => ?_ | refine s_bs0 fun _ => ?_ | refine s_bs1 (hK := fun _ => ?_) | refine s_bs2 (hK := fun _ => ?_) | refine s_bs3 (hK := fun _ => ?_) | refine s_bs5 (hK := fun _ => ?_) | refine s_bs6 (hK := fun _ => ?_))); (try simp (disch := first | omega | assumption | ((repeat (first | exact mem_h | exact Up.here | apply mem_t | apply Up.there)); first | done | fail) | (simp; first | done | omega | fail)) [])))
  refine T_table hi2 (by simp only [modH]; ((repeat (first | exact Part.nil | (apply Part.cons; · ((repeat (first | exact mem_h | exact Up.here | exact Sel.here | apply mem_t | apply Up.there | apply Sel.there)); first | done | fail)))); first | done | fail)) fun r => ?_
  rw [e0]
  simp only [modH, List.cons_append, List.nil_append]
  refine T_opn (by ((repeat (first | exact mem_h | exact Up.here | exact Sel.here | apply mem_t | apply Up.there | apply Sel.there)); first | done | fail)) fun ra rc hr => ?_
  subst hr
  (have hQq : True := trivial; repeat ((first | clear hQq | (with_reducible first | refine T_drw ?_ | refine T_bx fun _ => ?_ | refine s_al fun _ => ?_ | refine s_bs0 fun _ => ?_ | refine s_bs1 (hK := fun _ => ?_) | refine s_bs2 (hK := fun _ => ?_) | refine s_bs3 (hK := fun _ => ?_) | refine s_bs5 (hK := fun _ => ?_) | refine s_bs6 (hK := fun _ => ?_))); (try simp (disch := first | omega | assumption | ((repeat (first | exact mem_h | exact Up.here | apply mem_t | apply Up.there)); first | done | fail) | (simp; first | done | omega | fail)) [])))
  refine T_table hi2 (by simp only [modH]; ((repeat (first | exact Part.nil | (apply Part.cons; · ((repeat (first | exact mem_h | exact Up.here | exact Sel.here | apply mem_t | apply Up.there | apply Sel.there)); first | done | fail)))); first | done | fail)) fun r => ?_
  rw [e1]
  simp only [modH, List.cons_append, List.nil_append]
  refine T_opn (by ((repeat (first | exact mem_h | exact Up.here | exact Sel.here | apply mem_t | apply Up.there | apply Sel.there)); first | done | fail)) fun ra rc hr => ?_
  subst hr
  (have hQq : True := trivial; repeat ((first | clear hQq | (with_reducible first | refine T_drw ?_ | refine T_bx fun _ => ?_ | refine s_al fun _ => ?_ | refine s_bs0 fun _ => ?_ | refine s_bs1 (hK := fun _ => ?_) | refine s_bs2 (hK := fun _ => ?_) | refine s_bs3 (hK := fun _ => ?_) | refine s_bs5 (hK := fun _ => ?_) | refine s_bs6 (hK := fun _ => ?_))); (try simp (disch := first | omega | assumption | ((repeat (first | exact mem_h | exact Up.here | apply mem_t | apply Up.there)); first | done | fail) | (simp; first | done | omega | fail)) [])))
  refine T_do (o := ⟨0, noB, [], 0⟩) (wk2 11, ⟨9, 0, false, 0⟩) hi2 (by simp only [modH]; ((repeat (first | exact Part.nil | (apply Part.cons; · ((repeat (first | exact mem_h | exact Up.here | exact Sel.here | apply mem_t | apply Up.there | apply Sel.there)); first | done | fail)))); first | done | fail)) (fun _ _ => poolAt_nil) (by simp) (by rw [hst2, do_disp _ _ _ rfl]; unfold dispV; rw [wk_j]; rfl) fun m1 hb1 hst1 hi1 => ?_
  rw [← hb1]
  (have hQq : True := trivial; repeat ((first | clear hQq | (with_reducible first | refine T_drw ?_ | refine T_bx fun _ => ?_ | refine s_al fun _ => ?_ | refine s_bs0 fun _ => ?_ | refine s_bs1 (hK := fun _ => ?_) | refine s_bs2 (hK := fun _ => ?_) | refine s_bs3 (hK := fun _ => ?_) | refine s_bs5 (hK := fun _ => ?_) | refine s_bs6 (hK := fun _ => ?_))); (try simp (disch := first | omega | assumption | ((repeat (first | exact mem_h | exact Up.here | apply mem_t | apply Up.there)); first | done | fail) | (simp; first | done | omega | fail)) [AnsV.val])))
  refine T_do (o := ⟨9, noB, [], 0⟩) (wk2 11, ⟨1, 0, false, 0⟩) hi1 (by ((repeat (first | exact part_pre | apply Part.skip)); first | done | fail)) (fun _ _ => poolAt_nil) (by simp) (by rw [hst1, do_none _ _ _ (Or.inr (by decide))]) fun m2 hb2 hst2 hi2 => ?_
  (have hQq : True := trivial; repeat ((first | clear hQq | (with_reducible first | refine T_drw ?_ | refine T_bx fun _ => ?_ | refine s_al fun _ => ?_ | refine s_bs0 fun _ => ?_ | refine s_bs1 (hK := fun _ => ?_) | refine s_bs2 (hK := fun _ => ?_) | refine s_bs3 (hK := fun _ => ?_) | refine s_bs5 (hK := fun _ => ?_) | refine s_bs6 (hK := fun _ => ?_))); (try simp (disch := first | omega | assumption | ((repeat (first | exact mem_h | exact Up.here | apply mem_t | apply Up.there)); first | done | fail) | (simp; first | done | omega | fail)) [AnsV.val])))
  exact T_ret rfl
end Go.Proofs.YtggakcpabomliaaGreat
namespace Go.Proofs.YtggakcpabomliaaGreat
open Go
def sh_gangplankref17_Small (X : Nat → Prop) (t0 : Value) (R : Value → WP) : WP :=
  lou PR X (Instr.box 23 t0) fun t1 =>
  pur PR (Instr.fieldAt 23 t1 0) fun t3 =>
  rds PR (Instr.loadAt 3 t3) fun t4 =>
  pur PR (binOp .leq 3 t4 (.int .i64 6)) fun t5 =>
  gj t5 true (fun J => pur PR (Instr.fieldAt 23 t1 1) J) fun t7 =>
  gj t5 true (fun J => rds PR (Instr.loadAt 3 t7) J) fun t8 =>
  gj t5 true (fun J => pur PR (binOp .leq 3 t8 (.int .i64 6)) J) fun t9 =>
  pur PR (do pure (if ← asBool t5 then t9 else (.bool false))) fun t10 =>
  gj t10 true (fun J => pur PR (Instr.fieldAt 23 t1 2) J) fun t12 =>
  gj t10 true (fun J => rds PR (Instr.loadAt 3 t12) J) fun t13 =>
  gj t10 true (fun J => pur PR (binOp .leq 3 t13 (.int .i64 12)) J) fun t14 =>
  pur PR (do pure (if ← asBool t10 then t14 else (.bool false))) fun t15 =>
  R t15
theorem sh_gangplankref17_Small_eq (X : Nat → Prop) (t0 : Value) (R : Value → WP) : vcFun PR X Tryz.f55 [t0] R = sh_gangplankref17_Small X t0 R := by kernel_rfl
theorem ent_gangplankref17_Small : Enters PR 55 := enters_of Tryz.func55 (by kernel_rfl) rfl
theorem mk_gangplankref17_Small {X : Nat → Prop} {t0 : Value} {R : Value → WP} {w : World} (h : sh_gangplankref17_Small X t0 R w) : Fn PR X 55 #[t0] w R := fn_of_vc (args := [t0]) mixed Tryz.func55 (by rw [sh_gangplankref17_Small_eq]; exact h)
def sh_gangplankref17_Few (X : Nat → Prop) (t0 t1 : Value) (R : Value → WP) : WP :=
  jn (n := 1) (fun t4 =>
  jn (n := 2) (fun t4_1 t5 =>
  R (.bool true)) fun J1 =>
  lp (n := 2) (fun L2 t4_2 t5_1 =>
  jn (n := 0) (
  jn (n := 1) (fun t4_3 =>
  pur PR (binOp .add 3 t5_1 (.int .i64 1)) fun t15 =>
  L2 t4_3 t15) fun J3 =>
  pur PR (Instr.indexAt 104 t0 t5_1) fun t18 =>
  pur PR (Instr.fieldAt 42 t18 1) fun t19 =>
  rds PR (Instr.loadAt 9 t19) fun t20 =>
  pur PR (builtinS .len #[9] 0 [t20]) fun t21 =>
  pur PR (binOp .gtr 3 t21 (.int .i64 100)) fun t22 =>
  gj t22 false (fun J => J t0) fun t24 =>
  gj t22 false (fun J => J t5_1) fun t25 =>
  gj t22 false (fun J => pur PR (Instr.indexAt 104 t24 t25) J) fun t26 =>
  gj t22 false (fun J => pur PR (Instr.fieldAt 42 t26 2) J) fun t27 =>
  gj t22 false (fun J => rds PR (Instr.loadAt 32 t27) J) fun t28 =>
  gj t22 false (fun J => pur PR (builtinS .len #[32] 0 [t28]) J) fun t29 =>
  gj t22 false (fun J => pur PR (binOp .gtr 3 t29 (.int .i64 8)) J) fun t30 =>
  pur PR (do pure (if ← asBool t22 then (.bool true) else t30)) fun t31 =>
  cnd t31 (
  R (.bool false)) (
  J3 t4_2)) fun J4 =>
  pur PR (builtinS .len #[104] 0 [t0]) fun t12 =>
  pur PR (binOp .lss 3 t5_1 t12) fun t13 =>
  cnd t13 (
  J4) (
  J1 t4_2 t5_1)) t4 (.int .i64 0)) fun J5 =>
  pur PR (builtinS .len #[104] 0 [t0]) fun t7 =>
  pur PR (binOp .gtr 3 t7 t1) fun t9 =>
  cnd t9 (
  R (.bool false)) (
  J5 (.bool false))
theorem sh_gangplankref17_Few_eq (X : Nat → Prop) (t0 t1 : Value) (R : Value → WP) : vcFun PR X Tryz.f56 [t0, t1] R = sh_gangplankref17_Few X t0 t1 R := by kernel_rfl
theorem ent_gangplankref17_Few : Enters PR 56 := enters_of Tryz.func56 (by kernel_rfl) rfl
theorem mk_gangplankref17_Few {X : Nat → Prop} {t0 t1 : Value} {R : Value → WP} {w : World} (h : sh_gangplankref17_Few X t0 t1 R w) : Fn PR X 56 #[t0, t1] w R := fn_of_vc (args := [t0, t1]) mixed Tryz.func56 (by rw [sh_gangplankref17_Few_eq]; exact h)
end Go.Proofs.YtggakcpabomliaaGreat
namespace Go.Proofs.YtggakcpabomliaaGreat
open Go
theorem Row.partAt {w : World} {b o k : Nat} {α : Type} {l : List α} {f : α → List Value} (h : Row w b o (l.flatMap f)) (hk : ∀ x, (f x).length = k) {i : Nat} {x : α} (hx : l[i]? = some x) (j n : Nat) (hn : j + n ≤ k) : rowN w b (o + i * k + j) n = some (((f x).drop j).take n) := by
  have hl : (((f x).drop j).take n).length = n := by simp [hk]; omega
  have h1 : Row w b (o + i * k + j) (((f x).drop j).take n) := fun q hq => by
    rw [hl] at hq
    have h2 := h.cellAt hk hx (j := j + q) (u := (f x)[j + q]'(by rw [hk]; omega)) (List.getElem?_eq_getElem _)
    rw [Nat.add_assoc, h2, List.getElem?_take_of_lt hq, List.getElem?_drop, List.getElem?_eq_getElem (by rw [hk]; omega)]
  have := rowN_of h1
  rwa [hl] at this
def encO (o : OpV × Value) : List Value := [.int .i64 o.1.kind, .string o.1.packet, o.2, .int .i64 o.1.shard]
def encS (s : (OpV × Value) × Int) : List Value := [.int .i64 s.1.1.kind, .string s.1.1.packet, s.1.2, .int .i64 s.1.1.shard, .int .i64 s.2]
/-- pools among operations are slices -/
def PoolSl (o : OpV × Value) : Prop := ∃ a c, o.2 = .slice a o.1.pool.length c
def small17 (c : CfgV) : Bool := decide (c.wk ≤ 6) && decide (c.sh ≤ 6) && decide (c.cp ≤ 12)
def fewO (o : OpV) : Bool := decide (o.packet.size ≤ 100) && decide (o.pool.length ≤ 8)
def fewOps (l : List OpV) (most : Int) : Bool := decide ((l.length : Int) ≤ most) && l.all fewO
theorem Small_ok (w : World) (c : CfgV) : Fn PR NoX 55 #[c.val] w (fun r w' => r = .bool (small17 c) ∧ But [] w w') := by
  refine Fn.pure (mk_gangplankref17_Small (TW.go (κ := false) (S := []) ?_))
  unfold sh_gangplankref17_Small
  simp only [CfgV.val]
  by_cases c1 : c.wk ≤ 6
  · by_cases c2 : c.sh ≤ 6
    · (have hQq : True := trivial; repeat ((first | clear hQq | (with_reducible first | refine T_drw ?_ | refine T_bx fun _ => ?_ | refine s_al fun _ => ?_ | refine s_bs0 fun _ => ?_ | refine s_bs1 (hK := fun _ => ?_) | refine s_bs2 (hK := fun _ => ?_) | refine s_bs3 (hK := fun _ => ?_) | refine s_bs5 (hK := fun _ => ?_) | refine s_bs6 (hK := fun _ => ?_))); (try simp (disch := first | omega | assumption | ((repeat (first | exact mem_h | exact Up.here | apply mem_t | apply Up.there)); first | done | fail) | (simp; first | done | omega | fail)) [c1, c2])))
      exact T_ret (by simp [small17, c1, c2])
    · (have hQq : True := trivial; repeat ((first | clear hQq | (with_reducible first | refine T_drw ?_ | refine T_bx fun _ => ?_ | refine s_al fun _ => ?_ | refine s_bs0 fun _ => ?_ | refine s_bs1 (hK := fun _ => ?_) | refine s_bs2 (hK := fun _ => ?_) | refine s_bs3 (hK := fun _ => ?_) | refine s_bs5 (hK := fun _ => ?_) | refine s_bs6 (hK := fun _ => ?_))); (try simp (disch := first | omega | assumption | ((repeat (first | exact mem_h | exact Up.here | apply mem_t | apply Up.there)); first | done | fail) | (simp; first | done | omega | fail)) [c1, c2])))
      exact T_ret (by simp [small17, c1, c2])
  · (have hQq : True := trivial; repeat ((first | clear hQq | (with_reducible first | refine T_drw ?_ | refine T_bx fun _ => ?_ | refine s_al fun _ => ?_ | refine s_bs0 fun _ => ?_ | refine s_bs1 (hK := fun _ => ?_) | refine s_bs2 (hK := fun _ => ?_) | refine s_bs3 (hK := fun _ => ?_) | refine s_bs5 (hK := fun _ => ?_) | refine s_bs6 (hK := fun _ => ?_))); (try simp (disch := first | omega | assumption | ((repeat (first | exact mem_h | exact Up.here | apply mem_t | apply Up.there)); first | done | fail) | (simp; first | done | omega | fail)) [c1])))
    exact T_ret (by simp [small17, c1])
theorem Few17_ok (w : World) (v : Value) (l : List (OpV × Value)) (most : Int) (hn : l.length ≤ 9223372036854775807) (hv : Rd1 w v l.length (l.flatMap encO)) (hp : ∀ o ∈ l, PoolSl o) :
    Fn PR NoX 56 #[v, .int .i64 most] w (fun r w' => r = .bool (fewOps (l.map (·.1)) most) ∧ But [] w w') := by
  refine Fn.pure (mk_gangplankref17_Few (TW.go (κ := false) (S := []) ?_))
  unfold sh_gangplankref17_Few
  obtain ⟨a, c, rfl, hr⟩ := hv.form
  by_cases c0 : most < (l.length : Int)
  · (have hQq : True := trivial; repeat ((first | clear hQq | (with_reducible first | refine T_drw ?_ | refine T_bx fun _ => ?_ | refine s_al fun _ => ?_ | refine s_bs0 fun _ => ?_ | refine s_bs1 (hK := fun _ => ?_) | refine s_bs2 (hK := fun _ => ?_) | refine s_bs3 (hK := fun _ => ?_) | refine s_bs5 (hK := fun _ => ?_) | refine s_bs6 (hK := fun _ => ?_))); (try simp (disch := first | omega | assumption | ((repeat (first | exact mem_h | exact Up.here | apply mem_t | apply Up.there)); first | done | fail) | (simp; first | done | omega | fail)) [c0])))
    exact T_ret (by simp [fewOps]; omega)
  (have hQq : True := trivial; repeat ((first | clear hQq | (with_reducible first | refine T_drw ?_ | refine T_bx fun _ => ?_ | refine s_al fun _ => ?_ | refine s_bs0 fun _ => ?_ | refine s_bs1 (hK := fun _ => ?_) | refine s_bs2 (hK := fun _ => ?_) | refine s_bs3 (hK := fun _ => ?_) | refine s_bs5 (hK := fun _ => ?_) | refine s_bs6 (hK := fun _ => ?_))); (try simp (disch := first | omega | assumption | ((repeat (first | exact mem_h | exact Up.here | apply mem_t | apply Up.there)); first | done | fail) | (simp; first | done | omega | fail)) [c0])))
  refine T_for1 l.length (fun _ _ => .bool false) (fun _ (_ : Unit) => []) (fun i _ => ∀ (j : Nat) x, j < i → l[j]? = some x → fewO x.1 = true) () (by intros; omega) ?_
  rintro i _ hi hφ L hL
  by_cases hlt : i < l.length
  · have hx := List.getElem?_eq_getElem hlt
    obtain ⟨b, o, rfl, hrow⟩ := hr (by omega)
    have h1 := hrow.cellAt (f := encO) (k := 4) (j := 1) (fun _ => rfl) hx rfl
    have h2 := hrow.cellAt (f := encO) (k := 4) (j := 2) (fun _ => rfl) hx rfl
    obtain ⟨pa, pc, hpl⟩ := hp l[i] (List.getElem_mem hlt)
    rw [hpl] at h2
    have bad : fewO l[i].1 = false → fewOps (l.map (·.1)) most = false := fun h => by
      unfold fewOps
      rw [Bool.and_eq_false_iff]; right
      rw [List.all_eq_false]
      exact ⟨l[i].1, List.mem_map_of_mem (List.getElem_mem hlt), by simp [h]⟩
    by_cases c1 : (100 : Int) < l[i].1.packet.size
    · (have hQq : True := trivial; repeat ((first | clear hQq | (with_reducible first | refine T_drw ?_ | refine T_bx fun _ => ?_ | refine s_al fun _ => ?_ | refine s_bs0 fun _ => ?_ | refine s_bs1 (hK := fun _ => ?_) | refine s_bs2 (hK := fun _ => ?_) | refine s_bs3 (hK := fun _ => ?_) | refine s_bs5 (hK := fun _ => ?_) | refine s_bs6 (hK := fun _ => ?_))); (try simp (disch := first | omega | assumption | ((repeat (first | exact mem_h | exact Up.here | apply mem_t | apply Up.there)); first | done | fail) | (simp; first | done | omega | fail)) [hlt, h1, h2, c1])))
      exact T_ret (by rw [bad (by simp [fewO]; omega)])
    by_cases c2 : (8 : Int) < l[i].1.pool.length
    · (have hQq : True := trivial; repeat ((first | clear hQq | (with_reducible first | refine T_drw ?_ | refine T_bx fun _ => ?_ | refine s_al fun _ => ?_ | refine s_bs0 fun _ => ?_ | refine s_bs1 (hK := fun _ => ?_) | refine s_bs2 (hK := fun _ => ?_) | refine s_bs3 (hK := fun _ => ?_) | refine s_bs5 (hK := fun _ => ?_) | refine s_bs6 (hK := fun _ => ?_))); (try simp (disch := first | omega | assumption | ((repeat (first | exact mem_h | exact Up.here | apply mem_t | apply Up.there)); first | done | fail) | (simp; first | done | omega | fail)) [hlt, h1, h2, c1, c2])))
      exact T_ret (by rw [bad (by simp [fewO]; omega)])
    (have hQq : True := trivial; repeat ((first | clear hQq | (with_reducible first | refine T_drw ?_ | refine T_bx fun _ => ?_ | refine s_al fun _ => ?_ | refine s_bs0 fun _ => ?_ | refine s_bs1 (hK := fun _ => ?_) | refine s_bs2 (hK := fun _ => ?_) | refine s_bs3 (hK := fun _ => ?_) | refine s_bs5 (hK := fun _ => ?_) | refine s_bs6 (hK := fun _ => ?_))); (try simp (disch := first | omega | assumption | ((repeat (first | exact mem_h | exact Up.here | apply mem_t | apply Up.there)); first | done | fail) | (simp; first | done | omega | fail)) [hlt, h1, h2, c1, c2])))
    refine hL hlt () fun j x hj hx' => ?_
    by_cases e : j < i
    · exact hφ j x e hx'
    · obtain rfl : j = i := by omega
      rw [hx] at hx'; injection hx' with hx'; subst hx'
      simp [fewO]; omega
  · (have hQq : True := trivial; repeat ((first | clear hQq | (with_reducible first | refine T_drw ?_ | refine T_bx fun _ => ?_ | refine s_al fun _ => ?_ | refine s_bs0 fun _ => ?_ | refine s_bs1 (hK := fun _ => ?_) | refine s_bs2 (hK := fun _ => ?_) | refine s_bs3 (hK := fun _ => ?_) | refine s_bs5 (hK := fun _ => ?_) | refine s_bs6 (hK := fun _ => ?_))); (try simp (disch := first | omega | assumption | ((repeat (first | exact mem_h | exact Up.here | apply mem_t | apply Up.there)); first | done | fail) | (simp; first | done | omega | fail)) [hlt])))
    refine T_ret ?_
    have : fewOps (l.map (·.1)) most = true := by
      unfold fewOps
      rw [Bool.and_eq_true]
      refine ⟨by simp; omega, ?_⟩
      rw [List.all_eq_true]
      intro x hx
      obtain ⟨y, hy, rfl⟩ := List.mem_map.1 hx
      obtain ⟨j, hj, e⟩ := List.getElem_of_mem hy
      exact hφ j y (by omega) (by simp [hj, e])
    rw [this]
def fewS (c : CfgV) (l : List OpV) : Bool := small17 c && fewOps (l.take 13) 12
theorem few_ok (w : World) (c : CfgV) (v : Value) (l : List ((OpV × Value) × Int)) (hn : l.length ≤ 9223372036854775807) (hv : Rd1 w v l.length (l.flatMap encS)) (hp : ∀ s ∈ l, PoolSl s.1) :
    Fn PR NoX 15 #[c.val, v] w (fun r w' => r = .bool (fewS c (l.map (·.1.1))) ∧ But [] w w') := by
  refine Fn.pure (mk_gangplanklaw17_few (TW.go (κ := false) (S := []) ?_))
  unfold sh_gangplanklaw17_few
  obtain ⟨a, cc, rfl, hr⟩ := hv.form
  obtain ⟨n, hnn⟩ : ∃ n, n = min l.length 13 := ⟨_, rfl⟩
  simp only [CfgV.val]
  (have hQq : True := trivial; repeat ((first | clear hQq | (with_reducible first | refine T_drw ?_ | refine T_bx fun _ => ?_ | refine s_al fun _ => ?_ | refine s_bs0 fun _ => ?_ | refine s_bs1 (hK := fun _ => ?_) | refine s_bs2 (hK := fun _ => ?_) | refine s_bs3 (hK := fun _ => ?_) | refine s_bs5 (hK := fun _ => ?_) | refine s_bs6 (hK := fun _ => ?_))); (try simp (disch := first | omega | assumption | ((repeat (first | exact mem_h | exact Up.here | apply mem_t | apply Up.there)); first | done | fail) | (simp; first | done | omega | fail)) [])))
  rename_i bc
  refine T_nil 42 4 ?_
  refine T_for1 n (fun i (x : Option Addr × Nat) => .slice x.1 i x.2) (fun i x => [.own 42 4 (.slice x.1 i x.2) i (((l.map (·.1)).take i).flatMap encO), .pt bc (.cells #[.int .i64 c.wk, .int .i64 c.sh, .int .i64 c.cp, .int .i64 c.idle, .int .i64 c.sl] 23)]) (fun i x => True) (none, 0) trivial ?_ (by simp)
  rintro i ⟨xa, xc⟩ hi _ L hL
  by_cases hlt : i < n
  · have hil : i < l.length := by omega
    have hx := List.getElem?_eq_getElem hil
    obtain ⟨b, o, rfl, hrow⟩ := hr (by omega)
    have h1 := hrow.partAt (f := encS) (k := 5) (fun _ => rfl) hx 0 4 (by omega)
    rw [show ((encS l[i]).drop 0).take 4 = encO l[i].1 from rfl, Nat.add_zero] at h1
    have c1 : (i : Int) ≤ 12 := by omega
    have hst : ((l.map (·.1)).take (i + 1)).flatMap encO = ((l.map (·.1)).take i).flatMap encO ++ encO l[i].1 := by
      rw [List.take_add_one, List.getElem?_map, hx]; simp [List.flatMap_append]
    (have hQq : True := trivial; repeat ((first | clear hQq | (with_reducible first | refine T_drw ?_ | refine T_bx fun _ => ?_ | refine s_al fun _ => ?_ | refine s_bs0 fun _ => ?_ | refine s_bs1 (hK := fun _ => ?_) | refine s_bs2 (hK := fun _ => ?_) | refine s_bs3 (hK := fun _ => ?_) | refine s_bs5 (hK := fun _ => ?_) | refine s_bs6 (hK := fun _ => ?_))); (try simp (disch := first | omega | assumption | ((repeat (first | exact mem_h | exact Up.here | apply mem_t | apply Up.there)); first | done | fail) | (simp; first | done | omega | fail)) [hil, h1, c1, encO])))
    obtain ⟨pa, pc, hpl⟩ := hp l[i] (List.getElem_mem hil)
    refine s_app (e := 42) (k := 4) (q := i) (r := 1) (xs := ((l.map (·.1)).take i).flatMap encO) (news := encO l[i].1) (by ((repeat (first | exact mem_h | exact Up.here | exact Sel.here | apply mem_t | apply Up.there | apply Sel.there)); first | done | fail)) (RdT.own (by ((repeat (first | exact mem_h | exact Up.here | exact Sel.here | apply mem_t | apply Up.there | apply Sel.there)); first | done | fail))) (by decide) rfl (by simp [encO, hpl]) (by simp only [maxLen]; omega) (by omega) fun a' c' => ?_
    (have hQq : True := trivial; repeat ((first | clear hQq | (with_reducible first | refine T_drw ?_ | refine T_bx fun _ => ?_ | refine s_al fun _ => ?_ | refine s_bs0 fun _ => ?_ | refine s_bs1 (hK := fun _ => ?_) | refine s_bs2 (hK := fun _ => ?_) | refine s_bs3 (hK := fun _ => ?_) | refine s_bs5 (hK := fun _ => ?_) | refine s_bs6 (hK := fun _ => ?_))); (try simp (disch := first | omega | assumption | ((repeat (first | exact mem_h | exact Up.here | apply mem_t | apply Up.there)); first | done | fail) | (simp; first | done | omega | fail)) [])))
    have h2 := hL hlt (a', c') trivial
    rw [hst] at h2
    exact Sels.tw (by ((repeat (first | exact Sels.nil | (apply Sels.cons; · ((repeat (first | exact mem_h | exact Up.here | exact Sel.here | apply mem_t | apply Up.there | apply Sel.there)); first | done | fail)))); first | done | fail)) h2
  · have hin : i = n := by omega
    have hce : (c.val : Value) = .agg #[.int .i64 c.wk, .int .i64 c.sh, .int .i64 c.cp, .int .i64 c.idle, .int .i64 c.sl] := rfl
    have hlen : (((l.map (·.1)).take i)).length = i := by simp; omega
    have hm : ((l.map (·.1)).take i).map (·.1) = (l.map (·.1.1)).take 13 := by
      rw [List.map_take, List.map_map, hin, hnn]
      by_cases h : l.length ≤ 13
      · rw [Nat.min_eq_left h, List.take_of_length_le (by simp), List.take_of_length_le (by simp; omega)]; rfl
      · rw [Nat.min_eq_right (by omega)]; rfl
    have hfin : small17 c = true → ∀ K : Value → WP, (∀ H : List Res, TW false [] w H (K (.bool (fewS c (l.map (·.1.1)))))) → TW false [] w [.own 42 4 (.slice xa i xc) i (((l.map (·.1)).take i).flatMap encO), .pt bc (.cells #[.int .i64 c.wk, .int .i64 c.sh, .int .i64 c.cp, .int .i64 c.idle, .int .i64 c.sl] 23)]
        (cal PR NoX 56 [.slice xa i xc, .int .i64 12] K) := fun hs K hK => by
      refine T_cv ent_gangplankref17_Few (fun w' hw' => by
        have := Few17_ok w' (.slice xa i xc) ((l.map (·.1)).take i) 12 (by omega) (by rw [hlen]; exact RdT.own (by ((repeat (first | exact mem_h | exact Up.here | exact Sel.here | apply mem_t | apply Up.there | apply Sel.there)); first | done | fail)) w' hw') fun o ho => by
          obtain ⟨s, hs, rfl⟩ := List.mem_map.1 (List.mem_of_mem_take ho)
          exact hp s hs
        exact this) ?_
      have e : fewS c (l.map (·.1.1)) = fewOps (((l.map (·.1)).take i).map (·.1)) 12 := by rw [hm, fewS, hs]; simp
      rw [← e]; exact hK _
    by_cases hil : i < l.length
    · have c1 : ¬ (i : Int) ≤ 12 := by omega
      (have hQq : True := trivial; repeat ((first | clear hQq | (with_reducible first | refine T_drw ?_ | refine T_bx fun _ => ?_ | refine s_al fun _ => ?_ | refine s_bs0 fun _ => ?_ | refine s_bs1 (hK := fun _ => ?_) | refine s_bs2 (hK := fun _ => ?_) | refine s_bs3 (hK := fun _ => ?_) | refine s_bs5 (hK := fun _ => ?_) | refine s_bs6 (hK := fun _ => ?_))); (try simp (disch := first | omega | assumption | ((repeat (first | exact mem_h | exact Up.here | apply mem_t | apply Up.there)); first | done | fail) | (simp; first | done | omega | fail)) [hil, c1])))
      refine T_cv ent_gangplankref17_Small (fun w' _ => Small_ok w' c) ?_
      cases hs : small17 c with
      | true =>
        (have hQq : True := trivial; repeat ((first | clear hQq | (with_reducible first | refine T_drw ?_ | refine T_bx fun _ => ?_ | refine s_al fun _ => ?_ | refine s_bs0 fun _ => ?_ | refine s_bs1 (hK := fun _ => ?_) | refine s_bs2 (hK := fun _ => ?_) | refine s_bs3 (hK := fun _ => ?_) | refine s_bs5 (hK := fun _ => ?_) | refine s_bs6 (hK := fun _ => ?_))); (try simp (disch := first | omega | assumption | ((repeat (first | exact mem_h | exact Up.here | apply mem_t | apply Up.there)); first | done | fail) | (simp; first | done | omega | fail)) [])))
        refine hfin hs _ fun H => ?_
        (have hQq : True := trivial; repeat ((first | clear hQq | (with_reducible first | refine T_drw ?_ | refine T_bx fun _ => ?_ | refine s_al fun _ => ?_ | refine s_bs0 fun _ => ?_ | refine s_bs1 (hK := fun _ => ?_) | refine s_bs2 (hK := fun _ => ?_) | refine s_bs3 (hK := fun _ => ?_) | refine s_bs5 (hK := fun _ => ?_) | refine s_bs6 (hK := fun _ => ?_))); (try simp (disch := first | omega | assumption | ((repeat (first | exact mem_h | exact Up.here | apply mem_t | apply Up.there)); first | done | fail) | (simp; first | done | omega | fail)) [])))
        exact T_ret rfl
      | false => (have hQq : True := trivial; repeat ((first | clear hQq | (with_reducible first | refine T_drw ?_ | refine T_bx fun _ => ?_ | refine s_al fun _ => ?_ | refine s_bs0 fun _ => ?_ | refine s_bs1 (hK := fun _ => ?_) | refine s_bs2 (hK := fun _ => ?_) | refine s_bs3 (hK := fun _ => ?_) | refine s_bs5 (hK := fun _ => ?_) | refine s_bs6 (hK := fun _ => ?_))); (try simp (disch := first | omega | assumption | ((repeat (first | exact mem_h | exact Up.here | apply mem_t | apply Up.there)); first | done | fail) | (simp; first | done | omega | fail)) []))); exact T_ret (by simp [fewS, hs])
    · (have hQq : True := trivial; repeat ((first | clear hQq | (with_reducible first | refine T_drw ?_ | refine T_bx fun _ => ?_ | refine s_al fun _ => ?_ | refine s_bs0 fun _ => ?_ | refine s_bs1 (hK := fun _ => ?_) | refine s_bs2 (hK := fun _ => ?_) | refine s_bs3 (hK := fun _ => ?_) | refine s_bs5 (hK := fun _ => ?_) | refine s_bs6 (hK := fun _ => ?_))); (try simp (disch := first | omega | assumption | ((repeat (first | exact mem_h | exact Up.here | apply mem_t | apply Up.there)); first | done | fail) | (simp; first | done | omega | fail)) [hil])))
      refine T_cv ent_gangplankref17_Small (fun w' _ => Small_ok w' c) ?_
      cases hs : small17 c with
      | true =>
        (have hQq : True := trivial; repeat ((first | clear hQq | (with_reducible first | refine T_drw ?_ | refine T_bx fun _ => ?_ | refine s_al fun _ => ?_ | refine s_bs0 fun _ => ?_ | refine s_bs1 (hK := fun _ => ?_) | refine s_bs2 (hK := fun _ => ?_) | refine s_bs3 (hK := fun _ => ?_) | refine s_bs5 (hK := fun _ => ?_) | refine s_bs6 (hK := fun _ => ?_))); (try simp (disch := first | omega | assumption | ((repeat (first | exact mem_h | exact Up.here | apply mem_t | apply Up.there)); first | done | fail) | (simp; first | done | omega | fail)) [])))
        refine hfin hs _ fun H => ?_
        (have hQq : True := trivial; repeat ((first | clear hQq | (with_reducible first | refine T_drw ?_ | refine T_bx fun _ => ?_ | refine s_al fun _ => ?_ | refine s_bs0 fun _ => ?_ | refine s_bs1 (hK := fun _ => ?_) | refine s_bs2 (hK := fun _ => ?_) | refine s_bs3 (hK := fun _ => ?_) | refine s_bs5 (hK := fun _ => ?_) | refine s_bs6 (hK := fun _ => ?_))); (try simp (disch := first | omega | assumption | ((repeat (first | exact mem_h | exact Up.here | apply mem_t | apply Up.there)); first | done | fail) | (simp; first | done | omega | fail)) [])))
        exact T_ret rfl
      | false => (have hQq : True := trivial; repeat ((first | clear hQq | (with_reducible first | refine T_drw ?_ | refine T_bx fun _ => ?_ | refine s_al fun _ => ?_ | refine s_bs0 fun _ => ?_ | refine s_bs1 (hK := fun _ => ?_) | refine s_bs2 (hK := fun _ => ?_) | refine s_bs3 (hK := fun _ => ?_) | refine s_bs5 (hK := fun _ => ?_) | refine s_bs6 (hK := fun _ => ?_))); (try simp (disch := first | omega | assumption | ((repeat (first | exact mem_h | exact Up.here | apply mem_t | apply Up.there)); first | done | fail) | (simp; first | done | omega | fail)) []))); exact T_ret (by simp [fewS, hs])
end Go.Proofs.YtggakcpabomliaaGreat
namespace Go.Proofs.YtggakcpabomliaaGreat
open Go
abbrev StA : Type := (OpV × Value) × Int
def runV (s : MoS) (l : List StA) : MoS := l.foldl (fun s x => (doV s x.1.1 x.2).1) s
theorem runV_next {s : MoS} {l : List StA} {i : Nat} {x : StA} (h : l[i]? = some x) : runV s (l.take (i + 1)) = (doV (runV s (l.take i)) x.1.1 x.2).1 := by
  unfold runV
  rw [List.take_add_one, h]
  simp [List.foldl_append]
theorem Inv.run {c : CfgV} {s : MoS} (h : Inv c s) (l : List StA) : Inv c (runV s l) := by
  unfold runV
  induction l generalizing s with
  | nil => exact h
  | cons x l ih => rw [List.foldl_cons]; exact ih (h.do' x.1.1 x.2)
theorem fewS_iff {c : CfgV} {l : List OpV} (h : fewS c l = true) : (c.wk ≤ 6 ∧ c.sh ≤ 6 ∧ c.cp ≤ 12) ∧ l.length ≤ 12 ∧ ∀ o ∈ l, o.packet.size ≤ 100 ∧ o.pool.length ≤ 8 := by
  unfold fewS fewOps at h
  rw [Bool.and_eq_true, Bool.and_eq_true, List.all_eq_true] at h
  obtain ⟨h1, h2, h3⟩ := h
  have hl : l.length ≤ 12 := by
    simp only [decide_eq_true_eq, List.length_take] at h2; omega
  refine ⟨by simp [small17] at h1; omega, hl, fun o ho => ?_⟩
  rw [List.take_of_length_le (by omega)] at h3
  have := h3 o ho
  simp [fewO] at this; exact this
theorem liveN_set {ts : List (List EnV × Nat)} {i : Nat} {t u : List EnV × Nat} (h : ts[i]? = some t) : liveN (ts.set i u) + (flowsOf t.1).length = liveN ts + (flowsOf u.1).length := by
  unfold liveN
  simp only [countE_flowsOf]
  induction ts generalizing i with
  | nil => simp at h
  | cons x ts ih =>
    cases i with
    | zero => simp at h; subst h; simp; omega
    | succ i =>
      have := ih (i := i) (by simpa using h)
      simp only [List.set_cons_succ, List.map_cons, List.sum_cons]; omega
theorem liveN_take {ts : List (List EnV × Nat)} {i : Nat} {t : List EnV × Nat} (h : ts[i]? = some t) : liveN (ts.take (i + 1)) = liveN (ts.take i) + (keysE t.1).length := by
  unfold liveN
  rw [List.take_add_one, h, keysE_flowsOf]
  simp [countE_flowsOf]
theorem liveN_cap {c : CfgV} {s : MoS} (h : Inv c s) (n : Nat) : liveN (s.tabs.take n) ≤ 16 * 64 := by
  have hb := cfg_bounds h.ok
  have hsh := h.sh
  have h1 : ∀ ts : List (List EnV × Nat), (∀ t ∈ ts, TabOk c.cp.toNat t.1) → liveN ts ≤ ts.length * 64 := by
    intro ts
    induction ts with
    | nil => intro _; simp [liveN]
    | cons t ts ih =>
      intro ht
      have h2 := ih fun x hx => ht x (List.mem_cons_of_mem _ hx)
      have h3 := ht t (List.mem_cons_self ..)
      have h4 : countE t.1 1 ≤ t.1.length := by unfold countE; exact List.countP_le_length
      rw [h3.len] at h4
      have h5 := h3.few
      unfold liveN at *
      simp only [List.map_cons, List.sum_cons, List.length_cons]; omega
  have h6 := h1 (s.tabs.take n) fun t ht => h.tab t (List.mem_of_mem_take ht)
  have h7 : (s.tabs.take n).length ≤ 16 := by rw [List.length_take]; omega
  omega
/-- what is counted, behind an operation -/
theorem stats_law {c : CfgV} {s : MoS} (h : Inv c s) (o : OpV) (now : Int) :
    (o.kind = 0 → liveN (doV s o now).1.tabs ≤ liveN s.tabs + 1 ∧ liveN s.tabs ≤ liveN (doV s o now).1.tabs + 1 ∧ (liveN s.tabs < liveN (doV s o now).1.tabs → (doV s o now).2.made = true)) ∧
    (o.kind = 2 → ((liveN (doV s o now).1.tabs : Nat) : Int) + (doV s o now).2.count = liveN s.tabs ∧ 0 ≤ (doV s o now).2.count) ∧ (o.kind ≠ 0 → o.kind ≠ 2 → liveN (doV s o now).1.tabs = liveN s.tabs) := by
  have hb := cfg_bounds h.ok
  obtain ⟨sc, sp, st⟩ := s
  obtain rfl : sc = c := h.cfg
  refine ⟨fun hk => ?_, fun hk => ?_, fun h0 h2 => ?_⟩
  · rw [do_disp _ _ _ hk]
    unfold dispV
    simp only
    split
    · simp
    · have hi := shardV_lt (key := keyB (packetV o.packet).1) hb.2.2.1
      have hat := h.at hi
      have ht := h.tab _ (List.mem_of_getElem? hat)
      obtain ⟨h1, h2⟩ := decideV_ok (p := sp) (closing := closingV (packetV o.packet).1 (packetV o.packet).2.1) (now := now) (idle := sc.idle) ht (keyB_size (packetV o.packet).1)
      have e := liveN_set (u := ((decideV (st.getD (shardV (keyB (packetV o.packet).1) sc.sh) ([], 0)).1 sp (keyB (packetV o.packet).1) (closingV (packetV o.packet).1 (packetV o.packet).2.1) now sc.idle).1, (st.getD (shardV (keyB (packetV o.packet).1) sc.sh) ([], 0)).2)) hat
      simp only at hat ht h2
      have a1 := h2.up
      have a2 := h2.down
      have a3 := h2.new
      simp only at e
      refine ⟨by simp only; omega, by simp only; omega, fun hlt => a3 (by simp only at hlt; omega)⟩
  · rw [do_exp _ _ _ hk]
    unfold expV
    split
    · simp
    · rename_i hc
      have hat := h.at (i := o.shard.toNat) (by have := h.sh; omega)
      have ht := h.tab _ (List.mem_of_getElem? hat)
      simp only
      obtain ⟨h1, h2⟩ := sweepV_ok (f := (st.getD o.shard.toNat ([], 0)).2) (k := 4) (now := now) ht (by omega)
      simp only at hat ht h2
      have h3 := h2.dues.2
      have e := liveN_set (u := ((sweepV (st.getD o.shard.toNat ([], 0)).1 (st.getD o.shard.toNat ([], 0)).2 4 now).1, (sweepV (st.getD o.shard.toNat ([], 0)).1 (st.getD o.shard.toNat ([], 0)).2 4 now).2.1)) hat
      simp only at e
      omega
  · by_cases h1 : o.kind = 1
    · rw [do_upd _ _ _ h1]
      unfold updV; split <;> rfl
    by_cases h3 : o.kind = 3
    · rw [do_stat _ _ _ h3]; rfl
    · rw [do_none _ _ _ (by omega)]
end Go.Proofs.YtggakcpabomliaaGreat
namespace Go.Proofs.YtggakcpabomliaaGreat
open Go
def PoolRd (w : World) (x : StA) : Prop := Rd1 w x.1.2 x.1.1.pool.length (x.1.1.pool.flatMap encB)
theorem PoolRd.sl {w : World} {x : StA} (h : PoolRd w x) : PoolSl x.1 := let ⟨a, c, e, _⟩ := h.form; ⟨a, c, e⟩
theorem step_at {w : World} {b o : Nat} {l : List StA} (hrow : Row w b o (l.flatMap encS)) {i : Nat} {x : StA} (hx : l[i]? = some x) : rowN w b (o + i * 5) 4 = some (encO x.1) ∧ w.cell? ⟨b, o + i * 5 + 4, none⟩ = some (.int .i64 x.2) := by
  have h1 := hrow.partAt (f := encS) (k := 5) (fun _ => rfl) hx 0 4 (by omega)
  rw [show ((encS x).drop 0).take 4 = encO x.1 from rfl, Nat.add_zero] at h1
  exact ⟨h1, hrow.cellAt (f := encS) (k := 5) (j := 4) (fun _ => rfl) hx rfl⟩
theorem T_doall {w : World} {m : MoH} {c : CfgV} {l : List StA} {la : Option Addr} {lc : Nat} {Hk : List Res} {E : Value → WP} (hv : Rd1 w (.slice la l.length lc) l.length (l.flatMap encS)) (hs : ∀ x ∈ l, PoolRd w x) (hl : l.length ≤ 12)
    (hf : ∀ o ∈ l.map (·.1.1), o.packet.size ≤ 100 ∧ o.pool.length ≤ 8) (hi : Inv c m.st) (hE : ∀ m' : MoH, m'.b = m.b → m'.st = runV m.st l → Inv c m'.st → TW false [] w (modH m' ++ Hk) (E (.int .i64 (l.length : Int)))) :
    TW false [] w (modH m ++ Hk) (lp (n := 1) (fun L t => jn (n := 0) (jn (n := 0) (pur PR (binOp .add 3 t (.int .i64 1)) fun u => L u) fun J8 =>
      drw <| pur PR (Instr.indexAt 24 (.slice la l.length lc) t) fun t57 => pur PR (Instr.fieldAt 44 t57 0) fun t58 => rds PR (Instr.loadAt 42 t58) fun t59 =>
      pur PR (Instr.indexAt 24 (.slice la l.length lc) t) fun t62 => pur PR (Instr.fieldAt 44 t62 1) fun t63 => rds PR (Instr.loadAt 3 t63) fun t64 =>
      cal PR NoX 20 [.pointer (some ⟨m.b, 0, none⟩), t59, t64] fun t65 => J8) fun J9 =>
      pur PR (builtinS .len #[24] 0 [.slice la l.length lc]) fun t50 => pur PR (binOp .lss 3 t t50) fun t51 => cnd t51 J9 (E t)) (.int .i64 0)) := by
  obtain ⟨_, _, hve, hr⟩ := hv.form
  cases hve
  refine T_for0x l.length (fun i (x : MoH) => modH x ++ Hk) (fun i x => x.b = m.b ∧ x.st = runV m.st (l.take i) ∧ Inv c x.st) m ⟨rfl, rfl, hi⟩ ?_
  rintro i x hil ⟨hb, hst, hix⟩ L hL
  by_cases hlt : i < l.length
  · have hx := List.getElem?_eq_getElem hlt
    obtain ⟨b, o, rfl, hrow⟩ := hr (by omega)
    obtain ⟨h1, h2⟩ := step_at hrow hx
    have hm := hs l[i] (List.getElem_mem hlt)
    have hfo := hf l[i].1.1 (List.mem_map_of_mem (List.getElem_mem hlt))
    (have hQq : True := trivial; repeat ((first | clear hQq | (with_reducible first | refine T_drw ?_ | refine T_bx fun _ => ?_ | refine s_al fun _ => ?_ | refine s_bs0 fun _ => ?_ | refine s_bs1 (hK := fun _ => ?_) | refine s_bs2 (hK := fun _ => ?_) | refine s_bs3 (hK := fun _ => ?_) | refine s_bs5 (hK := fun _ => ?_) | refine s_bs6 (hK := fun _ => ?_))); (try simp (disch := first | omega | assumption | ((repeat (first | exact mem_h | exact Up.here | apply mem_t | apply Up.there)); first | done | fail) | (simp; first | done | omega | fail)) [hlt, h1, h2, encO])))
    rw [← hb]
    refine T_do (o := l[i].1.1) (v := l[i].1.2) (now := l[i].2) _ hix part_pre (fun w' hw' => poolAt_old hw' hm (by omega)) (by omega) rfl fun m' hb' hst' hi' => ?_
    (have hQq : True := trivial; repeat ((first | clear hQq | (with_reducible first | refine T_drw ?_ | refine T_bx fun _ => ?_ | refine s_al fun _ => ?_ | refine s_bs0 fun _ => ?_ | refine s_bs1 (hK := fun _ => ?_) | refine s_bs2 (hK := fun _ => ?_) | refine s_bs3 (hK := fun _ => ?_) | refine s_bs5 (hK := fun _ => ?_) | refine s_bs6 (hK := fun _ => ?_))); (try simp (disch := first | omega | assumption | ((repeat (first | exact mem_h | exact Up.here | apply mem_t | apply Up.there)); first | done | fail) | (simp; first | done | omega | fail)) [])))
    exact hL hlt m' ⟨hb'.trans hb, by rw [hst', hst, runV_next hx], hi'⟩
  · obtain rfl : i = l.length := by omega
    (have hQq : True := trivial; repeat ((first | clear hQq | (with_reducible first | refine T_drw ?_ | refine T_bx fun _ => ?_ | refine s_al fun _ => ?_ | refine s_bs0 fun _ => ?_ | refine s_bs1 (hK := fun _ => ?_) | refine s_bs2 (hK := fun _ => ?_) | refine s_bs3 (hK := fun _ => ?_) | refine s_bs5 (hK := fun _ => ?_) | refine s_bs6 (hK := fun _ => ?_))); (try simp (disch := first | omega | assumption | ((repeat (first | exact mem_h | exact Up.here | apply mem_t | apply Up.there)); first | done | fail) | (simp; first | done | omega | fail)) [])))
    exact hE x hb (by rw [hst, List.take_length]) hix
theorem tableV_at {m : MoH} {i : Nat} (h : i < m.st.tabs.length) : tableV m.ts i = (m.st.tabs.getD i ([], 0)).1 := by
  have htl : m.st.tabs.length = m.ts.length := by simp [MoH.st]
  unfold tableV
  rw [if_neg (by omega), Int.toNat_natCast]
  simp only [MoH.st, List.getD_eq_getElem?_getD, List.getElem?_map]
  cases m.ts[i]? <;> rfl
/-- how many flows a shard has -/
theorem T_keys {w : World} {H : List Res} {v : Value} {t : List EnV} {K : Value → WP} (hn : t.length ≤ 1000000) (hv : ∀ w', LW false [] w H w' → Rd1 w' v t.length (t.flatMap encE))
    (hK : ∀ a b, TW false [] w (.own 9 1 (.slice a (keysE t).length b) (keysE t).length ((keysE t).map Value.string) :: H) (K (.slice a (keysE t).length b))) : TW false [] w H (cal PR NoX 31 [v] K) := by
  refine T_cn ent_flows_Keys (fun w' hw' => Keys_ok w' v t hn (hv w' hw')) ?_
  intro r u hu
  subst hu
  simp only [List.cons_append, List.nil_append]
  refine T_opn mem_h fun a b hr => ?_
  subst hr
  exact hK a b
end Go.Proofs.YtggakcpabomliaaGreat
namespace Go.Proofs.YtggakcpabomliaaGreat
open Go Go.ChangeShapes Go.WideShapes Go.ChangeAt Go.RowKit
set_option maxRecDepth 10000
section
variable {H : Type} {enc : TypeId × Value → H} {w : World} {base : Nat} {spare : Nat → Bool} {held : Bool} {fuel : Nat} {cs : List Value} {x : DataW H × List MemPlace}
theorem open_cfg (h : DataW.trod enc PR w base spare held fuel 23 cs = some x) : ∃ c : CfgV, cs = [.int .i64 c.wk, .int .i64 c.sh, .int .i64 c.cp, .int .i64 c.idle, .int .i64 c.sl] ∧ True := by
  obtain ⟨xs, n, _, rfl, hl, hxl, hf⟩ := DataW.trod_struct ty23.und h
  have hl4 : cs.length = 5 := hl.trans (by kernel_rfl)
  have hx4 : xs.length = 5 := hxl.trans (by kernel_rfl)
  match cs, hl4 with
  | [c0, c1, c2, c3, c4], _ =>
    have f0 := hf 0 _ rfl
    have f1 := hf 1 _ rfl
    have f2 := hf 2 _ rfl
    have f3 := hf 3 _ rfl
    have f4 := hf 4 _ rfl
    rw [List.getElem?_eq_getElem (by omega)] at f0 f1 f2 f3 f4
    obtain ⟨a0, e0, _⟩ := open_int1 Tryz.underlying3 f0
    obtain ⟨a1, e1, _⟩ := open_int1 Tryz.underlying3 f1
    obtain ⟨a2, e2, _⟩ := open_int1 Tryz.underlying3 f2
    obtain ⟨a3, e3, _⟩ := open_int1 Tryz.underlying3 f3
    obtain ⟨a4, e4, _⟩ := open_int1 Tryz.underlying3 f4
    have e0 : [c0] = [.int .i64 a0] := e0
    have e1 : [c1] = [.int .i64 a1] := e1
    have e2 : [c2] = [.int .i64 a2] := e2
    have e3 : [c3] = [.int .i64 a3] := e3
    have e4 : [c4] = [.int .i64 a4] := e4
    cases e0; cases e1; cases e2; cases e3; cases e4
    exact ⟨⟨a0, a1, a2, a3, a4⟩, rfl, trivial⟩
theorem open_op (h : DataW.trod enc PR w base spare held fuel 42 cs = some x) : ∃ o : OpV × Value, cs = encO o ∧ Rd1 w o.2 o.1.pool.length (o.1.pool.flatMap encB) := by
  obtain ⟨xs, n, _, rfl, hl, hxl, hf⟩ := DataW.trod_struct ty42.und h
  have hl4 : cs.length = 4 := hl.trans (by kernel_rfl)
  have hx4 : xs.length = 4 := hxl.trans (by kernel_rfl)
  match cs, hl4 with
  | [c0, c1, c2, c3], _ =>
    have f0 := hf 0 _ rfl
    have f1 := hf 1 _ rfl
    have f2 := hf 2 _ rfl
    have f3 := hf 3 _ rfl
    rw [List.getElem?_eq_getElem (by omega)] at f0 f1 f2 f3
    obtain ⟨a0, e0, _⟩ := open_int1 Tryz.underlying3 f0
    obtain ⟨a1, e1, _⟩ := open_str1 Tryz.underlying9 f1
    obtain ⟨v, l, e2, hv, _⟩ := open_bks f2
    obtain ⟨a3, e3, _⟩ := open_int1 Tryz.underlying3 f3
    have e0 : [c0] = [.int .i64 a0] := e0
    have e1 : [c1] = [.string a1] := e1
    have e2 : [c2] = [v] := e2
    have e3 : [c3] = [.int .i64 a3] := e3
    cases e0; cases e1; cases e2; cases e3
    exact ⟨(⟨a0, a1, l, a3⟩, c2), rfl, hv⟩
theorem open_step (h : DataW.trod enc PR w base spare held fuel 44 cs = some x) : ∃ s : StA, cs = encS s ∧ PoolRd w s := by
  obtain ⟨xs, n, _, rfl, hl, hxl, hf⟩ := DataW.trod_struct ty44.und h
  have hl4 : cs.length = 5 := hl.trans (by kernel_rfl)
  have hx4 : xs.length = 2 := hxl.trans (by kernel_rfl)
  match cs, hl4 with
  | [c0, c1, c2, c3, c4], _ =>
    have f0 := hf 0 _ rfl
    have f1 := hf 1 _ rfl
    rw [List.getElem?_eq_getElem (by omega)] at f0 f1
    obtain ⟨o, e0, ho⟩ := open_op f0
    obtain ⟨a1, e1, _⟩ := open_int1 Tryz.underlying3 f1
    have g0 : [c0, c1, c2, c3] = [.int .i64 o.1.kind, .string o.1.packet, o.2, .int .i64 o.1.shard] := e0
    have g1 : [c4] = [.int .i64 a1] := e1
    simp only [List.cons.injEq, and_true] at g0 g1
    clear e0 e1
    obtain ⟨rfl, rfl, rfl, rfl⟩ := g0
    subst g1
    exact ⟨(o, a1), rfl, ho⟩
theorem open_steps_arg {r : Reach} {b0 : Nat} {v : Value} {d : DataW H} {ps : List MemPlace} (hval : Value.okWide PR w r b0 24 v) (hd : DataW.Trod enc PR w base spare held 24 v d ps) : ∃ l : List StA, Rd1 w v l.length (l.flatMap encS) ∧ (∀ a ∈ l, PoolRd w a) ∧ l.length ≤ maxLen :=
  open_slarg Tryz.underlying24 hval hd fun _ _ _ h => open_sl (f := encS) (k := 5) (Q := PoolRd w) (fun _ => rfl) (by omega) Tryz.underlying24 (by kernel_rfl) h (fun n cs' y hy => open_step hy)
theorem agg_of {v : Value} {cs : Array Value} {l : List Value} (hv : v = .agg cs) (h : v.cells.toList = l) : v = .agg l.toArray := by
  subst hv
  have : cs.toList = l := h
  rw [← this]
theorem open_cfg_arg {r : Reach} {b0 : Nat} {v : Value} {d : DataW H} {ps : List MemPlace} (hval : Value.okWide PR w r b0 23 v) (hd : DataW.Trod enc PR w base spare held 23 v d ps) : ∃ c : CfgV, v = c.val := by
  obtain ⟨cs, e, _⟩ := okWide_struct ty23.und hval
  obtain ⟨fuel, hf⟩ := hd
  obtain ⟨c, h, _⟩ := open_cfg hf
  exact ⟨c, agg_of e h⟩
theorem open_step_arg {r : Reach} {b0 : Nat} {v : Value} {d : DataW H} {ps : List MemPlace} (hval : Value.okWide PR w r b0 44 v) (hd : DataW.Trod enc PR w base spare held 44 v d ps) : ∃ s : StA, v = .agg (encS s).toArray ∧ PoolRd w s := by
  obtain ⟨cs, e, _⟩ := okWide_struct ty44.und hval
  obtain ⟨fuel, hf⟩ := hd
  obtain ⟨s, h, hs⟩ := open_step hf
  exact ⟨s, agg_of e h, hs⟩
end
end Go.Proofs.YtggakcpabomliaaGreat
namespace Go.Proofs.YtggakcpabomliaaGreat
open Go
def tabAt (s : MoS) (j : Nat) : List EnV := (s.tabs.getD j ([], 0)).1
theorem exp_swept {c : CfgV} {s : MoS} (h : Inv c s) {j : Nat} (hj : (j : Int) < c.sh) (now : Int) : ∃ k : Nat, (doV s ⟨2, noB, [], j⟩ now).2 = ⟨0, 0, false, (k : Nat)⟩ ∧ Swept now (tabAt s j) (tabAt (doV s ⟨2, noB, [], j⟩ now).1 j) k := by
  have hb := cfg_bounds h.ok
  have hsh := h.sh
  have hat := h.at (i := j) (by omega)
  have ht := h.tab _ (List.mem_of_getElem? hat)
  obtain ⟨h1, h2⟩ := sweepV_ok (f := (s.tabs.getD j ([], 0)).2) (k := 4) (now := now) ht (by omega)
  rw [do_exp _ _ _ rfl]
  unfold expV
  simp only
  rw [if_neg (by omega)]
  refine ⟨_, rfl, ?_⟩
  unfold tabAt
  simp only [Int.toNat_natCast]
  have hlt : j < s.tabs.length := by omega
  rw [show (s.tabs.set j ((sweepV (s.tabs.getD j ([], 0)).1 (s.tabs.getD j ([], 0)).2 4 now).1, (sweepV (s.tabs.getD j ([], 0)).1 (s.tabs.getD j ([], 0)).2 4 now).2.1)).getD j ([], 0) = ((sweepV (s.tabs.getD j ([], 0)).1 (s.tabs.getD j ([], 0)).2 4 now).1, (sweepV (s.tabs.getD j ([], 0)).1 (s.tabs.getD j ([], 0)).2 4 now).2.1) by
    rw [List.getD_eq_getElem?_getD (l := s.tabs.set _ _), List.getElem?_set_self hlt]; rfl]
  exact h2
theorem ModelExpires_ok (w : World) (c : CfgV) (lv : Value) (l : List StA) (shard now : Int) (hn : l.length ≤ 9223372036854775807) (hv : Rd1 w lv l.length (l.flatMap encS)) (hs : ∀ x ∈ l, PoolRd w x) :
    Fn PR NoX 6 #[c.val, lv, .int .i64 shard, .int .i64 now] w (fun v w' => v = .bool true ∧ But [] w w') := by
  refine Fn.pure (mk_gangplanklaw17_ModelExpires (TW.go (κ := false) (S := []) ?_))
  unfold sh_gangplanklaw17_ModelExpires
  obtain ⟨la, lc, rfl, hr⟩ := hv.form
  simp only [CfgV.val]
  (have hQq : True := trivial; repeat ((first | clear hQq | (with_reducible first | refine T_drw ?_ | refine T_bx fun _ => ?_ | refine s_al fun _ => ?_ | refine s_bs0 fun _ => ?_ | refine s_bs1 (hK := fun _ => ?_) | refine s_bs2 (hK := fun _ => ?_) | refine s_bs3 (hK := fun _ => ?_) | refine s_bs5 (hK := fun _ => ?_) | refine s_bs6 (hK := fun _ => ?_))); (try simp (disch := first | omega | assumption | ((repeat (first | exact mem_h | exact Up.here | apply mem_t | apply Up.there)); first | done | fail) | (simp; first | done | omega | fail)) [])))
  rename_i bc
  refine T_cv ent_gangplanklaw17_works (fun w' _ => works17_ok w') ?_
  (have hQq : True := trivial; repeat ((first | clear hQq | (with_reducible first | refine T_drw ?_ | refine T_bx fun _ => ?_ | refine s_al fun _ => ?_ | refine s_bs0 fun _ => ?_ | refine s_bs1 (hK := fun _ => ?_) | refine s_bs2 (hK := fun _ => ?_) | refine s_bs3 (hK := fun _ => ?_) | refine s_bs5 (hK := fun _ => ?_) | refine s_bs6 (hK := fun _ => ?_))); (try simp (disch := first | omega | assumption | ((repeat (first | exact mem_h | exact Up.here | apply mem_t | apply Up.there)); first | done | fail) | (simp; first | done | omega | fail)) [])))
  refine T_cv ent_gangplanklaw17_few (fun w' hw' => few_ok w' c _ l hn (hv.ks hw'.ks (by simp)) fun x hx => (hs x hx).sl) ?_
  cases hf : fewS c (l.map (·.1.1)) with
  | false => (have hQq : True := trivial; repeat ((first | clear hQq | (with_reducible first | refine T_drw ?_ | refine T_bx fun _ => ?_ | refine s_al fun _ => ?_ | refine s_bs0 fun _ => ?_ | refine s_bs1 (hK := fun _ => ?_) | refine s_bs2 (hK := fun _ => ?_) | refine s_bs3 (hK := fun _ => ?_) | refine s_bs5 (hK := fun _ => ?_) | refine s_bs6 (hK := fun _ => ?_))); (try simp (disch := first | omega | assumption | ((repeat (first | exact mem_h | exact Up.here | apply mem_t | apply Up.there)); first | done | fail) | (simp; first | done | omega | fail)) []))); exact T_ret rfl
  | true =>
  (have hQq : True := trivial; repeat ((first | clear hQq | (with_reducible first | refine T_drw ?_ | refine T_bx fun _ => ?_ | refine s_al fun _ => ?_ | refine s_bs0 fun _ => ?_ | refine s_bs1 (hK := fun _ => ?_) | refine s_bs2 (hK := fun _ => ?_) | refine s_bs3 (hK := fun _ => ?_) | refine s_bs5 (hK := fun _ => ?_) | refine s_bs6 (hK := fun _ => ?_))); (try simp (disch := first | omega | assumption | ((repeat (first | exact mem_h | exact Up.here | apply mem_t | apply Up.there)); first | done | fail) | (simp; first | done | omega | fail)) [])))
  obtain ⟨hc6, hl12, hfo⟩ := fewS_iff hf
  refine T_new (c := c) (fun h0 => ?_) fun m hok hst hi => ?_
  · (have hQq : True := trivial; repeat ((first | clear hQq | (with_reducible first | refine T_drw ?_ | refine T_bx fun _ => ?_ | refine s_al fun _ => ?_ | refine s_bs0 fun _ => ?_ | refine s_bs1 (hK := fun _ => ?_) | refine s_bs2 (hK := fun _ => ?_) | refine s_bs3 (hK := fun _ => ?_) | refine s_bs5 (hK := fun _ => ?_) | refine s_bs6 (hK := fun _ => ?_))); (try simp (disch := first | omega | assumption | ((repeat (first | exact mem_h | exact Up.here | apply mem_t | apply Up.there)); first | done | fail) | (simp; first | done | omega | fail)) [])))
    exact T_ret rfl
  by_cases c1 : shard < 0
  · (have hQq : True := trivial; repeat ((first | clear hQq | (with_reducible first | refine T_drw ?_ | refine T_bx fun _ => ?_ | refine s_al fun _ => ?_ | refine s_bs0 fun _ => ?_ | refine s_bs1 (hK := fun _ => ?_) | refine s_bs2 (hK := fun _ => ?_) | refine s_bs3 (hK := fun _ => ?_) | refine s_bs5 (hK := fun _ => ?_) | refine s_bs6 (hK := fun _ => ?_))); (try simp (disch := first | omega | assumption | ((repeat (first | exact mem_h | exact Up.here | apply mem_t | apply Up.there)); first | done | fail) | (simp; first | done | omega | fail)) [c1])))
    exact T_ret rfl
  by_cases c2 : c.sh ≤ shard
  · simp only [modH, List.cons_append, List.nil_append]
    (have hQq : True := trivial; repeat ((first | clear hQq | (with_reducible first | refine T_drw ?_ | refine T_bx fun _ => ?_ | refine s_al fun _ => ?_ | refine s_bs0 fun _ => ?_ | refine s_bs1 (hK := fun _ => ?_) | refine s_bs2 (hK := fun _ => ?_) | refine s_bs3 (hK := fun _ => ?_) | refine s_bs5 (hK := fun _ => ?_) | refine s_bs6 (hK := fun _ => ?_))); (try simp (disch := first | omega | assumption | ((repeat (first | exact mem_h | exact Up.here | apply mem_t | apply Up.there)); first | done | fail) | (simp; first | done | omega | fail)) [c1, c2])))
    exact T_ret rfl
  obtain ⟨j, rfl⟩ : ∃ j : Nat, shard = j := ⟨shard.toNat, by omega⟩
  have hl : l.length ≤ 12 := by simpa using hl12
  refine TW.perm (H' := modH m ++ [.pt bc (.cells #[.int .i64 c.wk, .int .i64 c.sh, .int .i64 c.cp, .int .i64 c.idle, .int .i64 c.sl] 23)]) ?_ (List.Perm.refl _)
  simp only [modH, List.cons_append, List.nil_append]
  (have hQq : True := trivial; repeat ((first | clear hQq | (with_reducible first | refine T_drw ?_ | refine T_bx fun _ => ?_ | refine s_al fun _ => ?_ | refine s_bs0 fun _ => ?_ | refine s_bs1 (hK := fun _ => ?_) | refine s_bs2 (hK := fun _ => ?_) | refine s_bs3 (hK := fun _ => ?_) | refine s_bs5 (hK := fun _ => ?_) | refine s_bs6 (hK := fun _ => ?_))); (try simp (disch := first | omega | assumption | ((repeat (first | exact mem_h | exact Up.here | apply mem_t | apply Up.there)); first | done | fail) | (simp; first | done | omega | fail)) [c1, c2])))
  refine T_doall (m := m) hv hs hl hfo hi fun m1 hb1 hst1 hi1 => ?_
  rw [← hb1]
  have hcb := cfg_bounds hok
  have hsh := hi1.sh
  obtain ⟨n, hncp⟩ : ∃ n : Nat, c.cp = n := ⟨c.cp.toNat, by omega⟩
  have hat : ∀ m : MoH, Inv c m.st → TabOk n (tabAt m.st j) := fun m hi => by
    have := hi.tab _ (List.mem_of_getElem? (hi.at (i := j) (by omega)))
    rw [hncp] at this; exact this
  have htv : ∀ m : MoH, Inv c m.st → tableV m.ts j = tabAt m.st j := fun m hi => tableV_at (by have := hi.sh; omega)
  have h0 := hat m1 hi1
  have hlen0 := h0.len
  have hN := sweepAll_ok (now := now) h0 (by omega)
  obtain ⟨hwt, hws⟩ := sweepV_ok (f := 0) (k := (tabAt m1.st j).length) (now := now) h0 (by omega)
  rw [hN] at hws
  have hws := hws.dues
  have hfl : ∀ t : List EnV, TabOk n t → (flowsOf t).length ≤ 64 ∧ dues t now ≤ (flowsOf t).length ∧ (keysE t).length = (flowsOf t).length := fun t ht => by
    have h1 : (flowsOf t).length ≤ t.length := List.length_filter_le ..
    have h2 := ht.len
    have h3 := ht.few
    exact ⟨by omega, List.countP_le_length, by rw [keysE_flowsOf, List.length_map]⟩
  obtain ⟨f1, f2, f3⟩ := hfl _ h0
  obtain ⟨g1, g2, g3⟩ := hfl _ hwt
  (have hQq : True := trivial; repeat ((first | clear hQq | (with_reducible first | refine T_drw ?_ | refine T_bx fun _ => ?_ | refine s_al fun _ => ?_ | refine s_bs0 fun _ => ?_ | refine s_bs1 (hK := fun _ => ?_) | refine s_bs2 (hK := fun _ => ?_) | refine s_bs3 (hK := fun _ => ?_) | refine s_bs5 (hK := fun _ => ?_) | refine s_bs6 (hK := fun _ => ?_))); (try simp (disch := first | omega | assumption | ((repeat (first | exact mem_h | exact Up.here | apply mem_t | apply Up.there)); first | done | fail) | (simp; first | done | omega | fail)) [])))
  refine T_table hi1 part_pre fun r => ?_
  rw [htv m1 hi1]
  refine T_cn ent_sweep_All (fun w' hw' => All_ok w' r (tabAt m1.st j) now h0.keys (by omega) (RdT.own mem_h w' hw')) ?_
  intro r2 u hu
  subst hu
  rw [hN]
  generalize (sweepV (tabAt m1.st j) 0 (tabAt m1.st j).length now).1 = want at *
  generalize hD : dues (tabAt m1.st j) now = D at *
  simp only [List.cons_append, List.nil_append]
  (have hQq : True := trivial; repeat ((first | clear hQq | (with_reducible first | refine T_drw ?_ | refine T_bx fun _ => ?_ | refine s_al fun _ => ?_ | refine s_bs0 fun _ => ?_ | refine s_bs1 (hK := fun _ => ?_) | refine s_bs2 (hK := fun _ => ?_) | refine s_bs3 (hK := fun _ => ?_) | refine s_bs5 (hK := fun _ => ?_) | refine s_bs6 (hK := fun _ => ?_))); (try simp (disch := first | omega | assumption | ((repeat (first | exact mem_h | exact Up.here | apply mem_t | apply Up.there)); first | done | fail) | (simp; first | done | omega | fail)) [])))
  have hw3 : IntKind.i64.wrap (3 * c.cp) = 3 * (n : Int) := by rw [hncp]; rw [wrap64 (by omega) (by omega)]
  refine T_for1 (3 * n) (fun i (x : MoH × Nat) => .int .i64 (x.2 : Nat)) (fun i x => ownE r2 want :: ownE r (tabAt m1.st j) :: (modH x.1 ++ [.pt bc (.cells #[.int .i64 c.wk, .int .i64 c.sh, .int .i64 c.cp, .int .i64 c.idle, .int .i64 c.sl] 23)]))
    (fun i x => x.1.b = m1.b ∧ Inv c x.1.st ∧ Swept now (tabAt m1.st j) (tabAt x.1.st j) x.2) (m1, 0) ⟨rfl, hi1, Swept.zero (.refl _)⟩ ?_
  rintro i ⟨x, k⟩ hin ⟨hbx, hix, hsw⟩ L hL
  have hd := hsw.dues
  rw [hD] at hd
  simp only at hbx hix hsw hL hd ⊢
  rw [← hbx]
  by_cases hlt : i < 3 * n
  · have hlt' : (i : Int) < 3 * (n : Int) := by omega
    obtain ⟨q, hq1, hq2⟩ := exp_swept hix (j := j) (by omega) now
    have hd2 := (hsw.trans hq2).dues
    rw [hD] at hd2
    have hwk : IntKind.i64.wrap ((k : Int) + (q : Int)) = (k : Int) + (q : Int) := wrap64 (by omega) (by omega)
    simp only [modH, List.cons_append, List.nil_append]
    (have hQq : True := trivial; repeat ((first | clear hQq | (with_reducible first | refine T_drw ?_ | refine T_bx fun _ => ?_ | refine s_al fun _ => ?_ | refine s_bs0 fun _ => ?_ | refine s_bs1 (hK := fun _ => ?_) | refine s_bs2 (hK := fun _ => ?_) | refine s_bs3 (hK := fun _ => ?_) | refine s_bs5 (hK := fun _ => ?_) | refine s_bs6 (hK := fun _ => ?_))); (try simp (disch := first | omega | assumption | ((repeat (first | exact mem_h | exact Up.here | apply mem_t | apply Up.there)); first | done | fail) | (simp; first | done | omega | fail)) [hw3, hlt'])))
    refine T_do (o := ⟨2, noB, [], j⟩) _ hix (by simp only [modH]; ((repeat (first | exact Part.nil | (apply Part.cons; · ((repeat (first | exact mem_h | exact Up.here | exact Sel.here | apply mem_t | apply Up.there | apply Sel.there)); first | done | fail)))); first | done | fail)) (fun _ _ => poolAt_nil) (by simp) rfl fun m2 hb2 hst2 hi2 => ?_
    rw [hq1]
    simp only [modH, List.cons_append, List.nil_append]
    (have hQq : True := trivial; repeat ((first | clear hQq | (with_reducible first | refine T_drw ?_ | refine T_bx fun _ => ?_ | refine s_al fun _ => ?_ | refine s_bs0 fun _ => ?_ | refine s_bs1 (hK := fun _ => ?_) | refine s_bs2 (hK := fun _ => ?_) | refine s_bs3 (hK := fun _ => ?_) | refine s_bs5 (hK := fun _ => ?_) | refine s_bs6 (hK := fun _ => ?_))); (try simp (disch := first | omega | assumption | ((repeat (first | exact mem_h | exact Up.here | apply mem_t | apply Up.there)); first | done | fail) | (simp; first | done | omega | fail)) [AnsV.val, hwk])))
    have h := hL hlt (m2, k + q) ⟨hb2.trans hbx, hi2, by simp only; rw [hst2]; exact hsw.trans hq2⟩
    simp only [modH, List.cons_append, List.nil_append, Int.natCast_add] at h
    exact Sels.tw (by ((repeat (first | exact Sels.nil | (apply Sels.cons; · ((repeat (first | exact mem_h | exact Up.here | exact Sel.here | apply mem_t | apply Up.there | apply Sel.there)); first | done | fail)))); first | done | fail)) h
  · have hlt' : ¬ (i : Int) < 3 * (n : Int) := by omega
    obtain ⟨p1, p2, p3⟩ := hfl _ (hat x hix)
    have e1 : (k : Int) ≤ (D : Int) := by omega
    have e2 : IntKind.i64.wrap (((keysE (tabAt x.st j)).length : Int) + (k : Int)) = IntKind.i64.wrap (((keysE want).length : Int) + (D : Int)) := by congr 1; omega
    simp only [modH, List.cons_append, List.nil_append]
    (have hQq : True := trivial; repeat ((first | clear hQq | (with_reducible first | refine T_drw ?_ | refine T_bx fun _ => ?_ | refine s_al fun _ => ?_ | refine s_bs0 fun _ => ?_ | refine s_bs1 (hK := fun _ => ?_) | refine s_bs2 (hK := fun _ => ?_) | refine s_bs3 (hK := fun _ => ?_) | refine s_bs5 (hK := fun _ => ?_) | refine s_bs6 (hK := fun _ => ?_))); (try simp (disch := first | omega | assumption | ((repeat (first | exact mem_h | exact Up.here | apply mem_t | apply Up.there)); first | done | fail) | (simp; first | done | omega | fail)) [hw3, hlt'])))
    refine T_table hix (by simp only [modH]; ((repeat (first | exact Part.nil | (apply Part.cons; · ((repeat (first | exact mem_h | exact Up.here | exact Sel.here | apply mem_t | apply Up.there | apply Sel.there)); first | done | fail)))); first | done | fail)) fun r3 => ?_
    rw [htv x hix]
    refine T_keys (t := tabAt x.st j) (by rw [(hat x hix).len]; omega) (RdT.own mem_h) fun a b => ?_
    simp only [modH, List.cons_append, List.nil_append]
    (have hQq : True := trivial; repeat ((first | clear hQq | (with_reducible first | refine T_drw ?_ | refine T_bx fun _ => ?_ | refine s_al fun _ => ?_ | refine s_bs0 fun _ => ?_ | refine s_bs1 (hK := fun _ => ?_) | refine s_bs2 (hK := fun _ => ?_) | refine s_bs3 (hK := fun _ => ?_) | refine s_bs5 (hK := fun _ => ?_) | refine s_bs6 (hK := fun _ => ?_))); (try simp (disch := first | omega | assumption | ((repeat (first | exact mem_h | exact Up.here | apply mem_t | apply Up.there)); first | done | fail) | (simp; first | done | omega | fail)) [e1])))
    refine T_keys (v := r2) (t := want) (by rw [hwt.len]; omega) (RdT.own (by ((repeat (first | exact mem_h | exact Up.here | exact Sel.here | apply mem_t | apply Up.there | apply Sel.there)); first | done | fail))) fun a b => ?_
    (have hQq : True := trivial; repeat ((first | clear hQq | (with_reducible first | refine T_drw ?_ | refine T_bx fun _ => ?_ | refine s_al fun _ => ?_ | refine s_bs0 fun _ => ?_ | refine s_bs1 (hK := fun _ => ?_) | refine s_bs2 (hK := fun _ => ?_) | refine s_bs3 (hK := fun _ => ?_) | refine s_bs5 (hK := fun _ => ?_) | refine s_bs6 (hK := fun _ => ?_))); (try simp (disch := first | omega | assumption | ((repeat (first | exact mem_h | exact Up.here | apply mem_t | apply Up.there)); first | done | fail) | (simp; first | done | omega | fail)) [e2])))
    exact T_ret rfl
end Go.Proofs.YtggakcpabomliaaGreat
