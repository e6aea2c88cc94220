/- The proof of a given statement, a part of it (Args Join ShR17 Few ArgsC ShL19WorkerWaits ShL19 ShWorker ShSweep ShFlows Flows Flows2 Sweep Wat ShModel). No condition but what each lemma says. -/
import Derived.WalkKit
import Derived.ProofKit
import Derived.OpenShut
import Derived.Carry
import Derived.Deep.Slices
import Derived.Test.YtjobgnabneddjaaGreatRows
import Derived.Test.YtjobgnabneddjaaGreatT12
set_option linter.unusedVariables false
set_option linter.unusedSimpArgs false
namespace Go.Proofs.YtjobgnabneddjaaGreat
open Go Go.ChangeShapes Go.WideShapes Go.ChangeAt Go.RowKit
theorem B9f {w w' : World} (h : C3 [] w w') (hk : Sk B7 w w') (may : MemPlace → Prop) : w.keptBut w' may := by
 refine ⟨hk.2.2.2.1, hk.2.2.2.2, fun i hi => ?_⟩
 have h1 : w.heap[i]? = some w.heap[i] := Array.getElem?_eq_getElem hi
 have h2 : w'.heap[i]? = some w.heap[i] := h.2 i _ (by simp) h1
 rw [h1, h2]
 cases w.heap[i] <;> simp
theorem B5D {f : FuncId} {args : Array Value} {w : World} (h : Fn PR B7 f args w (fun v w' => v = .bool true ∧ C3 [] w w')) :
  Calls PR f args w fun e w' => e = .returned (.bool true) ∧ (∀ may, w.keptBut w' may) ∧ C3 [] w w' :=
 Calls.mono h fun _ w' ⟨v, he, ⟨hv, hb⟩, hs⟩ => ⟨by rw [he, hv], B9f hb hs, hb⟩
theorem own : ownKnob PR.godebug = none := by kernel_rfl
theorem C1F : laidOutB PR = true := by kernel_rfl
theorem B4A {H : Type} {enc : TypeId × Value → H} {P : Program} {f : Func} {s : ChangeSpec} {apart fresh handsOn : Bool} {W W' : World} {args : Array Value} {v : Value} {ds gs : List (DataW H)} {before pa pv : List MemPlace}
  (hW : DataW.Whole enc P f.params.toList s.vars apart W args.toList ds gs before)
  (hres : ∀ (b : Nat) (sp : Nat → Bool) (hd : Bool), DataW.TrodAll enc P W' b sp hd f.resultTypes.toList (v.resultList f.resultTypes.size) (s.fn H (ds ++ gs)).results [])
  (hargs : ∀ sp : Nat → Bool, (∀ p ∈ before, sp p.block = true) → DataW.TrodAll enc P W' 0 sp true f.params.toList args.toList (s.fn H (ds ++ gs)).args pa)
  (hvars : ∀ sp : Nat → Bool, (∀ p ∈ before, sp p.block = true) → DataW.TrodVars enc P W' sp s.vars (s.fn H (ds ++ gs)).vars pv)
  (hk : ∀ may, W.keptBut W' may) : s.post enc P f apart fresh handsOn false W args v W' := by
 have hold : ∀ p ∈ before, (fun b => decide (b < W.heap.size)) p.block = true := fun p hp => by simpa using hW.lt p hp
 exact ⟨ds, gs, before, [], pa, pv, hW, hres _ _ _, hargs _ hold, hvars _ hold, hk _, fun h => by cases h⟩
section
variable {H : Type} {enc : TypeId × Value → H} {P : Program} {w : World} {base : Nat} {spare : Nat → Bool} {held : Bool}
theorem A0d {t : TypeId} {k : IntKind} {fuel : Nat} {cs : List Value} {x : DataW H × List MemPlace} (ht : P.underlying t = some (.int k)) (h : DataW.trod enc P w base spare held fuel t cs = some x) :
  ∃ a : Int, cs = [.int k a] ∧ (Lit.int k a).wf = true := by
 obtain ⟨n, h1, _, h2⟩ := DataW.trod_int ht h
 exact ⟨n, h1, h2⟩
end
theorem B0p {H : Type} {enc : TypeId × Value → H} {P : Program} (hl : laidOutB P = true) {W W' : World} (hb : C3 [] W W') {sp : Nat → Bool} :
  ∀ {ts : List TypeId} {vs : List Value} {ds : List (DataW H)} {ps : List MemPlace}, (ts.all fun t => P.readableRec t && decide (t < P.types.size)) = true → DataW.TrodAll enc P W 0 (fun _ => true) true ts vs ds ps →
   (∀ p ∈ ps, p.block < W.heap.size) → (∀ p ∈ ps, sp p.block = true) → DataW.TrodAll enc P W' 0 sp true ts vs ds ps := by
 intro ts
 induction ts with
 | nil => intro vs ds ps _ h _ _; cases vs <;> cases ds <;> exact h
 | cons t ts ih =>
  intro vs ds ps ht h hlt hsp
  simp only [List.all_cons, Bool.and_eq_true, decide_eq_true_eq] at ht
  obtain ⟨v, vs', d, ds', p, q, rfl, rfl, rfl, h0, hr⟩ := trodAll_cons h
  refine ⟨p, q, WideElems.Trod_stays hl ht.1.1 ht.1.2 h0 (fun x hx => ?_) (fun x hx => hsp x (List.mem_append_left _ hx)),
   ih ht.2 hr (fun x hx => hlt x (List.mem_append_right _ hx)) (fun x hx => hsp x (List.mem_append_right _ hx)), rfl⟩
  have hlt' := hlt x (List.mem_append_left _ hx)
  have e1 : W.heap[x.block]? = some W.heap[x.block] := Array.getElem?_eq_getElem hlt'
  have e2 : W'.heap[x.block]? = some W.heap[x.block] := hb.2 _ _ (by simp) e1
  cases x with
  | cell b o => show W'.cell? _ = W.cell? _; unfold World.cell?; rw [show W'.heap[b]? = W.heap[b]? from e2.trans e1.symm]
  | map b => exact e2.trans e1.symm
set_option maxRecDepth 10000
section
variable {H : Type} {enc : TypeId × Value → H} {w : World} {base : Nat} {spare : Nat → Bool} {held : Bool} {fuel : Nat} {cs : List Value} {x : DataW H × List MemPlace}
end
end Go.Proofs.YtjobgnabneddjaaGreat
namespace Go.Proofs.YtjobgnabneddjaaGreat
open Go
set_option maxRecDepth 100000
theorem jf2 : mapsRowed Tryz.prog = true := by kernel_rfl
theorem jf6 : (Program.stops Tryz.prog == []) = true := by kernel_rfl
theorem jf8 : (Program.stopKnobs Tryz.prog == []) = true := by kernel_rfl
theorem C50 : Program.stopsHeard Tryz.prog = true := by kernel_rfl
theorem C5H : Program.mayEnter Tryz.prog = true := by kernel_rfl
end Go.Proofs.YtjobgnabneddjaaGreat
namespace Go.Proofs.YtjobgnabneddjaaGreat
open Go
def c8 (X : Nat → Prop) (t0 : Value) (R : Value → WP) : WP :=
 B1 PR X (Instr.box 23 t0) fun t1 =>
 A0 PR (Instr.fieldAt 23 t1 0) fun t3 =>
 A6 PR (Instr.loadAt 3 t3) fun t4 =>
 A0 PR (binOp .leq 3 t4 (.int .i64 6)) fun t5 =>
 gj t5 true (fun J => A0 PR (Instr.fieldAt 23 t1 1) J) fun t7 =>
 gj t5 true (fun J => A6 PR (Instr.loadAt 3 t7) J) fun t8 =>
 gj t5 true (fun J => A0 PR (binOp .leq 3 t8 (.int .i64 6)) J) fun t9 =>
 A0 PR (do pure (if ← asBool t5 then t9 else (.bool false))) fun t10 =>
 gj t10 true (fun J => A0 PR (Instr.fieldAt 23 t1 2) J) fun t12 =>
 gj t10 true (fun J => A6 PR (Instr.loadAt 3 t12) J) fun t13 =>
 gj t10 true (fun J => A0 PR (binOp .leq 3 t13 (.int .i64 12)) J) fun t14 =>
 A0 PR (do pure (if ← asBool t10 then t14 else (.bool false))) fun t15 =>
 R t15
theorem A1M : B0 PR 15 := A7 Tryz.func15 (by kernel_rfl) rfl
theorem A1l {X : Nat → Prop} {t0 : Value} {R : Value → WP} {w : World} (h : c8 X t0 R w) : Fn PR X 15 #[t0] w R := C4 (args := [t0]) mixed Tryz.func15 (by kernel_rfl) h
end Go.Proofs.YtjobgnabneddjaaGreat
namespace Go.Proofs.YtjobgnabneddjaaGreat
open Go
def A3c (c : CfgV) : Bool := decide (c.wk ≤ 6) && decide (c.sh ≤ 6) && decide (c.cp ≤ 12)
theorem B63 (w : World) (c : CfgV) : Fn PR B7 15 #[c.val] w (fun r w' => r = .bool (A3c c) ∧ C3 [] w w') := by
 refine Fn.pure (A1l (TW.go (κ := false) (S := []) ?_))
 unfold c8
 simp only [CfgV.val]
 by_cases c1 : c.wk ≤ 6
 ·by_cases c2 : c.sh ≤ 6
  ·(have zz:=trivial;repeat((first|clear zz|with_reducible first|refine A3 ?_|refine A5 fun _=>?_|refine A4 fun _=>?_);try simp(disch:=first|omega|assumption|((repeat(first|exact A1|exact uH|apply A2|apply uT));first|done|fail)|(simp;first|done|omega|fail))[c1, c2]))
   exact A9 (by simp [A3c, c1, c2])
  ·(have zz:=trivial;repeat((first|clear zz|with_reducible first|refine A3 ?_|refine A5 fun _=>?_|refine A4 fun _=>?_);try simp(disch:=first|omega|assumption|((repeat(first|exact A1|exact uH|apply A2|apply uT));first|done|fail)|(simp;first|done|omega|fail))[c1, c2]))
   exact A9 (by simp [A3c, c1, c2])
 ·(have zz:=trivial;repeat((first|clear zz|with_reducible first|refine A3 ?_|refine A5 fun _=>?_|refine A4 fun _=>?_);try simp(disch:=first|omega|assumption|((repeat(first|exact A1|exact uH|apply A2|apply uT));first|done|fail)|(simp;first|done|omega|fail))[c1]))
  exact A9 (by simp [A3c, c1])
end Go.Proofs.YtjobgnabneddjaaGreat
namespace Go.Proofs.YtjobgnabneddjaaGreat
open Go Go.ChangeShapes Go.WideShapes Go.ChangeAt Go.RowKit
set_option maxRecDepth 10000
section
variable {H : Type} {enc : TypeId × Value → H} {w : World} {base : Nat} {spare : Nat → Bool} {held : Bool} {fuel : Nat} {cs : List Value} {x : DataW H × List MemPlace}
theorem B8T (h : DataW.trod enc PR w base spare held fuel 23 cs = some x) : ∃ c : CfgV, cs = [.int .i64 c.wk, .int .i64 c.sh, .int .i64 c.cp, .int .i64 c.idle, .int .i64 c.sl] ∧ True := by
 obtain ⟨xs, n, _, rfl, hl, hxl, hf⟩ := DataW.trod_struct A2g.und h
 have hl4 : cs.length = 5 := hl.trans (by kernel_rfl)
 have hx4 : xs.length = 5 := hxl.trans (by kernel_rfl)
 match cs, hl4 with
 | [c0, c1, c2, c3, c4], _ =>
  have f0 := hf 0 _ rfl
  have f1 := hf 1 _ rfl
  have f2 := hf 2 _ rfl
  have f3 := hf 3 _ rfl
  have f4 := hf 4 _ rfl
  rw [List.getElem?_eq_getElem (by omega)] at f0 f1 f2 f3 f4
  obtain ⟨a0, e0, _⟩ := A0d Tryz.underlying3 f0
  obtain ⟨a1, e1, _⟩ := A0d Tryz.underlying3 f1
  obtain ⟨a2, e2, _⟩ := A0d Tryz.underlying3 f2
  obtain ⟨a3, e3, _⟩ := A0d Tryz.underlying3 f3
  obtain ⟨a4, e4, _⟩ := A0d Tryz.underlying3 f4
  have e0 : [c0] = [.int .i64 a0] := e0
  have e1 : [c1] = [.int .i64 a1] := e1
  have e2 : [c2] = [.int .i64 a2] := e2
  have e3 : [c3] = [.int .i64 a3] := e3
  have e4 : [c4] = [.int .i64 a4] := e4
  cases e0; cases e1; cases e2; cases e3; cases e4
  exact ⟨⟨a0, a1, a2, a3, a4⟩, rfl, trivial⟩
theorem C0w {v : Value} {cs : Array Value} {l : List Value} (hv : v = .agg cs) (h : v.cells.toList = l) : v = .agg l.toArray := by
 subst hv
 have : cs.toList = l := h
 rw [← this]
theorem B1W {r : Reach} {b0 : Nat} {v : Value} {d : DataW H} {ps : List MemPlace} (hval : Value.okWide PR w r b0 23 v) (hd : DataW.Trod enc PR w base spare held 23 v d ps) : ∃ c : CfgV, v = c.val := by
 obtain ⟨cs, e, _⟩ := okWide_struct A2g.und hval
 obtain ⟨fuel, hf⟩ := hd
 obtain ⟨c, h, _⟩ := B8T hf
 exact ⟨c, C0w e h⟩
end
end Go.Proofs.YtjobgnabneddjaaGreat
namespace Go.Proofs.YtjobgnabneddjaaGreat
open Go
def U7 (X : Nat → Prop) (t0 t1 t2 t3 : Value) (R : Value → WP) : WP :=
 B1 PR X (Instr.box 23 t0) fun t4 =>
 B5 PR X 14 [] fun t22 =>
 jn (n := 1) (fun t8 =>
 A6 PR (Instr.loadAt 23 t4) fun t25 =>
 B5 PR X 15 [t25] fun t26 =>
 jn (n := 1) (fun t8_1 =>
 A6 PR (Instr.loadAt 23 t4) fun t44 =>
 B5 PR X 16 [t44] fun t45 =>
 A0 PR (Instr.extract t45 0) fun t46 =>
 A0 PR (Instr.extract t45 1) fun t47 =>
 jn (n := 1) (fun t8_2 =>
 B5 PR X 17 [t1, t2] fun t57 =>
 jn (n := 1) (fun t8_3 =>
 jn (n := 1) (fun t14 =>
 jn (n := 1) (fun t15 =>
 B5 PR X 21 [t2] fun t88 =>
 A0 PR (Instr.extract t88 0) fun t89 =>
 A0 PR (Instr.extract t88 1) fun t90 =>
 B1 PR X (Instr.alloc 47 true (.tuple #[])) fun t16 =>
 C1 PR X (Instr.storeAt 47 t16 t89) <|
 jn (n := 1) (fun t8_4 =>
 jn (n := 1) (fun t8_5 =>
 jn (n := 1) (fun t18 =>
 B5 PR X 23 [t57, t46] fun t143 =>
 jn (n := 1) (fun t20 =>
 B5 PR X 24 [t46] fun t152 =>
 B5 PR X 26 [t152, (.slice none 0 0)] fun t153 =>
 gj t22 true (fun J => J t143) fun t156 =>
 A0 PR (do pure (if ← asBool t22 then t156 else (.bool false))) fun t157 =>
 gj t157 true (fun J => J t57) fun t159 =>
 gj t157 true (fun J => B5 PR X 22 [t159] J) fun t160 =>
 gj t157 true (fun J => A0 PR (binOp .eql 3 t160 (.int .i64 10)) J) fun t161 =>
 A0 PR (do pure (if ← asBool t157 then t161 else (.bool false))) fun t162 =>
 gj t162 true (fun J => J t153) fun t164 =>
 A0 PR (do pure (if ← asBool t162 then t164 else (.bool false))) fun t165 =>
 gj t165 true (fun J => J t57) fun t167 =>
 gj t165 true (fun J => B5 PR X 27 [t167] J) fun t168 =>
 gj t165 true (fun J => A0 PR (Instr.field 55 t168 0) J) fun t169 =>
 gj t165 true (fun J => A0 PR (binOp .eql 27 t169 (.int .i64 11)) J) fun t170 =>
 A0 PR (do pure (if ← asBool t165 then t170 else (.bool false))) fun t171 =>
 R t171) fun J1 =>
 lp (n := 1) (fun L2 t20_1 =>
 jn (n := 0) (
 jn (n := 0) (
 A0 PR (binOp .add 3 t20_1 (.int .i64 1)) fun t147 =>
 L2 t147) fun J3 =>
 B5 PR X 20 [t57, t46] fun t150 =>
 J3) fun J4 =>
 A0 PR (binOp .lss 3 t20_1 (.int .i64 7)) fun t145 =>
 D4 t145 (
 J4) (
 J1 t20_1)) (.int .i64 0)) fun J5 =>
 lp (n := 1) (fun L6 t18_1 =>
 jn (n := 0) (
 jn (n := 0) (
 A0 PR (binOp .add 3 t18_1 (.int .i64 1)) fun t134 =>
 L6 t134) fun J7 =>
 A0 PR (B8 t46) fun t136 =>
 A0 PR (Instr.fieldAt 39 t136 1) fun t137 =>
 A6 PR (Instr.loadAt 33 t137) fun t138 =>
 B5 PR X 25 [t138, t18_1, (.int .i64 99)] fun t140 =>
 J7) fun J8 =>
 A0 PR (Instr.fieldAt 23 t4 1) fun t130 =>
 A6 PR (Instr.loadAt 3 t130) fun t131 =>
 A0 PR (binOp .lss 3 t18_1 t131) fun t132 =>
 D4 t132 (
 J8) (
 J5 t18_1)) (.int .i64 0)) fun J9 =>
 B5 PR X 22 [t57] fun t116 =>
 A0 PR (binOp .neq 3 t116 (.int .i64 3)) fun t117 =>
 gj t117 false (fun J => J t57) fun t119 =>
 gj t117 false (fun J => J t46) fun t120 =>
 gj t117 false (fun J => B5 PR X 23 [t119, t120] J) fun t121 =>
 A0 PR (do pure (if ← asBool t117 then (.bool true) else t121)) fun t122 =>
 gj t122 false (fun J => J t46) fun t124 =>
 gj t122 false (fun J => B5 PR X 24 [t124] J) fun t125 =>
 gj t122 false (fun J => A0 PR (A8 .len #[51] 0 [t125]) J) fun t126 =>
 gj t122 false (fun J => A0 PR (binOp .neq 3 t126 (.int .i64 0)) J) fun t127 =>
 A0 PR (do pure (if ← asBool t122 then (.bool true) else t127)) fun t128 =>
 D4 t128 (
 R (.bool false)) (
 J9 t8_4)) fun J10 =>
 A0 PR (binOp .neq 27 t90 (.int .i64 0)) fun t92 =>
 gj t92 false (fun J => J t1) fun t94 =>
 gj t92 false (fun J => A0 PR (binOp .lss 3 t94 (.int .i64 1)) J) fun t95 =>
 A0 PR (do pure (if ← asBool t92 then (.bool true) else t95)) fun t96 =>
 gj t96 false (fun J => J t1) fun t98 =>
 gj t96 false (fun J => A0 PR (Instr.fieldAt 23 t4 0) J) fun t99 =>
 gj t96 false (fun J => A6 PR (Instr.loadAt 3 t99) J) fun t100 =>
 gj t96 false (fun J => A0 PR (binOp .gtr 3 t98 t100) J) fun t101 =>
 A0 PR (do pure (if ← asBool t96 then (.bool true) else t101)) fun t102 =>
 D4 t102 (
 gj t22 true (fun J => J t57) fun t105 =>
 gj t22 true (fun J => B5 PR X 22 [t105] J) fun t106 =>
 gj t22 true (fun J => A0 PR (binOp .eql 3 t106 (.int .i64 10)) J) fun t107 =>
 A0 PR (do pure (if ← asBool t22 then t107 else (.bool false))) fun t108 =>
 gj t108 true (fun J => J t57) fun t110 =>
 gj t108 true (fun J => J t46) fun t111 =>
 gj t108 true (fun J => B5 PR X 23 [t110, t111] J) fun t112 =>
 gj t108 true (fun J => A0 PR (Op.unary .not t112) J) fun t113 =>
 A0 PR (do pure (if ← asBool t108 then t113 else (.bool false))) fun t114 =>
 R t114) (
 J10 t8_3)) fun J11 =>
 lp (n := 1) (fun L12 t15_1 =>
 jn (n := 0) (
 jn (n := 0) (
 A0 PR (binOp .add 3 t15_1 (.int .i64 1)) fun t82 =>
 L12 t82) fun J13 =>
 B5 PR X 20 [t57, t46] fun t85 =>
 J13) fun J14 =>
 A0 PR (binOp .add 3 (.int .i64 3) t3) fun t79 =>
 A0 PR (binOp .lss 3 t15_1 t79) fun t80 =>
 D4 t80 (
 J14) (
 J11 t15_1)) (.int .i64 0)) fun J15 =>
 lp (n := 1) (fun L16 t14_1 =>
 jn (n := 0) (
 jn (n := 0) (
 A0 PR (binOp .add 3 t14_1 (.int .i64 1)) fun t70 =>
 L16 t70) fun J17 =>
 A0 PR (B8 t46) fun t72 =>
 A0 PR (Instr.fieldAt 39 t72 1) fun t73 =>
 A6 PR (Instr.loadAt 33 t73) fun t74 =>
 B5 PR X 19 [t74, t14_1, (.int .i64 99)] fun t76 =>
 J17) fun J18 =>
 A0 PR (Instr.fieldAt 23 t4 1) fun t66 =>
 A6 PR (Instr.loadAt 3 t66) fun t67 =>
 A0 PR (binOp .lss 3 t14_1 t67) fun t68 =>
 D4 t68 (
 J18) (
 J15 t14_1)) (.int .i64 0)) fun J19 =>
 B5 PR X 18 [t46] fun t59 =>
 A0 PR (Op.unary .not t59) fun t60 =>
 gj t60 false (fun J => J t57) fun t62 =>
 gj t60 false (fun J => A6 PR (G0 .eql 30 (.tmp 62) (.const (.pointer none)) t62 (.pointer none)) J) fun t63 =>
 A0 PR (do pure (if ← asBool t60 then (.bool true) else t63)) fun t64 =>
 D4 t64 (
 R (.bool false)) (
 J19 t8_2)) fun J20 =>
 A0 PR (binOp .neq 27 t47 (.int .i64 0)) fun t49 =>
 D4 t49 (
 gj t22 true (fun J => J t46) fun t52 =>
 gj t22 true (fun J => A6 PR (G0 .eql 26 (.tmp 52) (.const (.pointer none)) t52 (.pointer none)) J) fun t53 =>
 A0 PR (do pure (if ← asBool t22 then t53 else (.bool false))) fun t54 =>
 R t54) (
 J20 t8_1)) fun J21 =>
 A0 PR (Op.unary .not t26) fun t28 =>
 gj t28 false (fun J => J t2) fun t30 =>
 gj t28 false (fun J => A0 PR (A8 .len #[9] 0 [t30]) J) fun t31 =>
 gj t28 false (fun J => A0 PR (binOp .gtr 3 t31 (.int .i64 100)) J) fun t32 =>
 A0 PR (do pure (if ← asBool t28 then (.bool true) else t32)) fun t33 =>
 gj t33 false (fun J => J t3) fun t35 =>
 gj t33 false (fun J => A0 PR (binOp .lss 3 t35 (.int .i64 0)) J) fun t36 =>
 A0 PR (do pure (if ← asBool t33 then (.bool true) else t36)) fun t37 =>
 gj t37 false (fun J => J t3) fun t39 =>
 gj t37 false (fun J => A0 PR (binOp .gtr 3 t39 (.int .i64 20)) J) fun t40 =>
 A0 PR (do pure (if ← asBool t37 then (.bool true) else t40)) fun t41 =>
 D4 t41 (
 R t22) (
 J21 t8)) fun J22 =>
 A0 PR (Op.unary .not t22) fun t24 =>
 D4 t24 (
 R (.bool false)) (
 J22 (.bool false))
theorem s8 {X : Nat → Prop} {t0 t1 t2 t3 : Value} {R : Value → WP} {w : World} (h : U7 X t0 t1 t2 t3 R w) : Fn PR X 3 #[t0, t1, t2, t3] w R := C4 (args := [t0, t1, t2, t3]) mixed Tryz.func3 (by kernel_rfl) h
end Go.Proofs.YtjobgnabneddjaaGreat
namespace Go.Proofs.YtjobgnabneddjaaGreat
open Go
def c7 (X : Nat → Prop) (R : Value → WP) : WP :=
 A0 PR (Instr.build 23 #[(0, (.int .i64 1)), (1, (.int .i64 1)), (2, (.int .i64 1)), (3, (.int .i64 5)), (4, (.int .i64 2))]) fun t10 =>
 B5 PR X 16 [t10] fun t11 =>
 A0 PR (Instr.extract t11 0) fun t12 =>
 A0 PR (Instr.extract t11 1) fun t13 =>
 jn (n := 1) (fun t0 =>
 A0 PR (Instr.build 45 #[(0, (.int .i64 4)), (1, (.string (ByteArray.mk #[97, 98, 99, 100]))), (2, (.string (ByteArray.mk #[101, 102, 103, 104]))), (3, (.int .i64 1)), (4, (.int .i64 2)), (5, (.int .i64 17))]) fun t17 =>
 A0 PR (Instr.build 47 #[(0, t17)]) fun t18 =>
 B5 PR X 64 [t18] fun t19 =>
 A0 PR (Instr.extract t19 0) fun t20 =>
 A0 PR (Instr.extract t19 1) fun t21 =>
 B5 PR X 17 [(.int .i64 1), t20] fun t23 =>
 B5 PR X 17 [(.int .i64 1), (.string (ByteArray.mk #[]))] fun t24 =>
 jn (n := 1) (fun t0_1 =>
 jn (n := 1) (fun t7 =>
 B5 PR X 20 [t24, t12] fun t45 =>
 B1 PR X (Instr.alloc 42 true (.tuple #[])) fun t8 =>
 C1 PR X (Instr.storeAt 42 t8 t45) <|
 A0 PR (binOp .eql 3 t7 (.int .i64 10)) fun t47 =>
 gj t47 true (fun J => J t23) fun t49 =>
 gj t47 true (fun J => B5 PR X 27 [t49] J) fun t50 =>
 gj t47 true (fun J => A0 PR (Instr.build 55 #[(0, (.int .i64 11))]) J) fun t51 =>
 gj t47 true (fun J => A6 PR (G0 .eql 55 (.tmp 50) (.tmp 51) t50 t51) J) fun t52 =>
 A0 PR (do pure (if ← asBool t47 then t52 else (.bool false))) fun t53 =>
 gj t53 true (fun J => J t23) fun t55 =>
 gj t53 true (fun J => B5 PR X 22 [t55] J) fun t56 =>
 gj t53 true (fun J => A0 PR (binOp .eql 3 t56 (.int .i64 10)) J) fun t57 =>
 A0 PR (do pure (if ← asBool t53 then t57 else (.bool false))) fun t58 =>
 gj t58 true (fun J => A6 PR (Instr.loadAt 42 t8) J) fun t60 =>
 gj t58 true (fun J => A0 PR (Instr.build 42 #[(0, (.bool true)), (1, (.bool true))]) J) fun t61 =>
 gj t58 true (fun J => A6 PR (G0 .eql 42 (.tmp 60) (.tmp 61) t60 t61) J) fun t62 =>
 A0 PR (do pure (if ← asBool t58 then t62 else (.bool false))) fun t63 =>
 gj t63 true (fun J => J t24) fun t65 =>
 gj t63 true (fun J => B5 PR X 27 [t65] J) fun t66 =>
 gj t63 true (fun J => A0 PR (Instr.build 55 #[(0, (.int .i64 9))]) J) fun t67 =>
 gj t63 true (fun J => A6 PR (G0 .eql 55 (.tmp 66) (.tmp 67) t66 t67) J) fun t68 =>
 A0 PR (do pure (if ← asBool t63 then t68 else (.bool false))) fun t69 =>
 gj t69 true (fun J => J t24) fun t71 =>
 gj t69 true (fun J => J t12) fun t72 =>
 gj t69 true (fun J => B5 PR X 23 [t71, t72] J) fun t73 =>
 gj t69 true (fun J => A0 PR (Op.unary .not t73) J) fun t74 =>
 A0 PR (do pure (if ← asBool t69 then t74 else (.bool false))) fun t75 =>
 gj t75 true (fun J => J t24) fun t77 =>
 gj t75 true (fun J => B5 PR X 22 [t77] J) fun t78 =>
 gj t75 true (fun J => A0 PR (binOp .eql 3 t78 (.int .i64 10)) J) fun t79 =>
 A0 PR (do pure (if ← asBool t75 then t79 else (.bool false))) fun t80 =>
 R t80) fun J1 =>
 lp (n := 1) (fun L2 t7_1 =>
 jn (n := 0) (
 B5 PR X 20 [t23, t12] fun t40 =>
 A0 PR (binOp .add 3 t7_1 (.int .i64 1)) fun t42 =>
 L2 t42) fun J3 =>
 A0 PR (binOp .lss 3 t7_1 (.int .i64 20)) fun t32 =>
 gj t32 true (fun J => J t23) fun t34 =>
 gj t32 true (fun J => J t12) fun t35 =>
 gj t32 true (fun J => B5 PR X 23 [t34, t35] J) fun t36 =>
 A0 PR (do pure (if ← asBool t32 then t36 else (.bool false))) fun t37 =>
 D4 t37 (
 J3) (
 J1 t7_1)) (.int .i64 0)) fun J4 =>
 A6 PR (G0 .eql 30 (.tmp 25) (.const (.pointer none)) t23 (.pointer none)) fun t26 =>
 gj t26 false (fun J => J t24) fun t28 =>
 gj t26 false (fun J => A6 PR (G0 .eql 30 (.tmp 28) (.const (.pointer none)) t28 (.pointer none)) J) fun t29 =>
 A0 PR (do pure (if ← asBool t26 then (.bool true) else t29)) fun t30 =>
 D4 t30 (
 R (.bool false)) (
 J4 t0)) fun J5 =>
 A6 PR (G0 .eql 26 (.tmp 14) (.const (.pointer none)) t12 (.pointer none)) fun t15 =>
 D4 t15 (
 R (.bool false)) (
 J5 (.bool false))
theorem A1d : B0 PR 14 := A7 Tryz.func14 (by kernel_rfl) rfl
theorem A1w {X : Nat → Prop} {R : Value → WP} {w : World} (h : c7 X R w) : Fn PR X 14 #[] w R := C4 (args := []) mixed Tryz.func14 (by kernel_rfl) h
def d7 (X : Nat → Prop) (t0 : Value) (R : Value → WP) : WP :=
 A6 PR (G0 .neq 26 (.tmp 3) (.const (.pointer none)) t0 (.pointer none)) fun t4 =>
 gj t4 true (fun J => J t0) fun t6 =>
 gj t4 true (fun J => A0 PR (B8 t6) J) fun t7 =>
 gj t4 true (fun J => A0 PR (Instr.fieldAt 39 t7 1) J) fun t8 =>
 gj t4 true (fun J => A6 PR (Instr.loadAt 33 t8) J) fun t9 =>
 gj t4 true (fun J => A6 PR (G0 .neq 33 (.tmp 9) (.const (.pointer none)) t9 (.pointer none)) J) fun t10 =>
 A0 PR (do pure (if ← asBool t4 then t10 else (.bool false))) fun t11 =>
 gj t11 true (fun J => J t0) fun t13 =>
 gj t11 true (fun J => A0 PR (B8 t13) J) fun t14 =>
 gj t11 true (fun J => A0 PR (Instr.fieldAt 39 t14 2) J) fun t15 =>
 gj t11 true (fun J => A6 PR (Instr.loadAt 34 t15) J) fun t16 =>
 gj t11 true (fun J => A6 PR (G0 .neq 34 (.tmp 16) (.const (.pointer none)) t16 (.pointer none)) J) fun t17 =>
 A0 PR (do pure (if ← asBool t11 then t17 else (.bool false))) fun t18 =>
 gj t18 true (fun J => J t0) fun t20 =>
 gj t18 true (fun J => A0 PR (B8 t20) J) fun t21 =>
 gj t18 true (fun J => A0 PR (Instr.fieldAt 39 t21 3) J) fun t22 =>
 gj t18 true (fun J => A6 PR (Instr.loadAt 35 t22) J) fun t23 =>
 gj t18 true (fun J => A6 PR (G0 .neq 35 (.tmp 23) (.const (.pointer none)) t23 (.pointer none)) J) fun t24 =>
 A0 PR (do pure (if ← asBool t18 then t24 else (.bool false))) fun t25 =>
 R t25
theorem A1Y : B0 PR 18 := A7 Tryz.func18 (by kernel_rfl) rfl
theorem A1r {X : Nat → Prop} {t0 : Value} {R : Value → WP} {w : World} (h : d7 X t0 R w) : Fn PR X 18 #[t0] w R := C4 (args := [t0]) mixed Tryz.func18 (by kernel_rfl) h
end Go.Proofs.YtjobgnabneddjaaGreat
namespace Go.Proofs.YtjobgnabneddjaaGreat
open Go
def A4v (X : Nat → Prop) (t0 t1 : Value) (R : Value → WP) : WP :=
 A0 PR (Instr.build 128 #[(0, t1)]) fun t6 =>
 A0 PR (Instr.build 130 #[(0, t6), (1, t0)]) fun t8 =>
 B1 PR X (Instr.box 130 t8) fun t9 =>
 R t9
theorem y5 : B0 PR 17 := A7 Tryz.func17 (by kernel_rfl) rfl
theorem B0L {X : Nat → Prop} {t0 t1 : Value} {R : Value → WP} {w : World} (h : A4v X t0 t1 R w) : Fn PR X 17 #[t0, t1] w R := C4 (args := [t0, t1]) mixed Tryz.func17 (by kernel_rfl) h
def A0M (X : Nat → Prop) (t0 t1 : Value) (R : Value → WP) : WP :=
 B1 PR X (Instr.alloc 42 true (.tuple #[])) fun t4 =>
 jn (n := 0) (
 A0 PR (Instr.build 144 #[(0, (.func (.func 76) #[] #[])), (1, (.func (.func 77) #[] #[])), (2, (.func (.func 78) #[] #[])), (3, (.func (.func 79) #[] #[])), (4, (.func (.func 80) #[] #[])), (5, (.func (.func 81) #[] #[])), (6, (.func (.func 82) #[] #[])), (7, (.func (.func 83) #[] #[])), (8, (.func (.func 84) #[] #[])), (9, (.func (.func 85) #[] #[]))]) fun t12 =>
 B1 PR X (Instr.alloc 144 true (.tuple #[])) fun t5 =>
 C1 PR X (Instr.storeAt 144 t5 t12) <|
 A0 PR (B8 t0) fun t14 =>
 A0 PR (Instr.fieldAt 130 t14 2) fun t15 =>
 A6 PR (Instr.loadAt 3 t15) fun t16 =>
 A0 PR (B8 t0) fun t18 =>
 A0 PR (Instr.fieldAt 130 t18 2) fun t19 =>
 A6 PR (Instr.loadAt 3 t19) fun t20 =>
 A0 PR (binOp .add 3 t20 (.int .i64 1)) fun t21 =>
 A0 PR (B8 t0) fun t22 =>
 A0 PR (Instr.fieldAt 130 t22 2) fun t23 =>
 C1 PR X (Instr.storeAt 3 t23 t21) <|
 A0 PR (Instr.indexAt 144 t5 t16) fun t25 =>
 A6 PR (Instr.loadAt 143 t25) fun t26 =>
 G8 PR X t26 [t0, t1] fun t29 =>
 C1 PR X (Instr.storeAt 42 t4 t29) <|
 A6 PR (E7 [.c 42 t4]) R) fun J1 =>
 B5 PR X 23 [t0, t1] fun t9 =>
 A0 PR (Op.unary .not t9) fun t10 =>
 D4 t10 (
 A0 PR (Instr.build 42 #[]) fun t11 =>
 C1 PR X (Instr.storeAt 42 t4 t11) <|
 A6 PR (E7 [.c 42 t4]) R) (
 J1)
theorem N3 : B0 PR 20 := A7 Tryz.func20 (by kernel_rfl) rfl
theorem A5z {X : Nat → Prop} {t0 t1 : Value} {R : Value → WP} {w : World} (h : A0M X t0 t1 R w) : Fn PR X 20 #[t0, t1] w R := C4 (args := [t0, t1]) mixed Tryz.func20 (by kernel_rfl) h
def w9 (X : Nat → Prop) (t0 : Value) (R : Value → WP) : WP :=
 A0 PR (B8 t0) fun t4 =>
 A0 PR (Instr.fieldAt 130 t4 2) fun t5 =>
 A6 PR (Instr.loadAt 3 t5) fun t6 =>
 R t6
theorem H4 : B0 PR 22 := A7 Tryz.func22 (by kernel_rfl) rfl
theorem A5H {X : Nat → Prop} {t0 : Value} {R : Value → WP} {w : World} (h : w9 X t0 R w) : Fn PR X 22 #[t0] w R := C4 (args := [t0]) mixed Tryz.func22 (by kernel_rfl) h
def v8 (X : Nat → Prop) (t0 t1 : Value) (R : Value → WP) : WP :=
 drw <|
 A0 PR (B8 t0) fun t6 =>
 A0 PR (Instr.fieldAt 130 t6 2) fun t7 =>
 A6 PR (Instr.loadAt 3 t7) fun t8 =>
 A0 PR (binOp .lss 3 t8 (.int .i64 10)) fun t9 =>
 gj t9 true (fun J => J t0) fun t11 =>
 gj t9 true (fun J => A0 PR (B8 t11) J) fun t12 =>
 gj t9 true (fun J => A0 PR (Instr.fieldAt 130 t12 2) J) fun t13 =>
 gj t9 true (fun J => A6 PR (Instr.loadAt 3 t13) J) fun t14 =>
 gj t9 true (fun J => A0 PR (binOp .neq 3 t14 (.int .i64 3)) J) fun t15 =>
 gj t9 true (fun J => J t15) fun t16 =>
 gj t16 false (fun J => J t1) fun t17 =>
 gj t16 false (fun J => A0 PR (B8 t17) J) fun t18 =>
 gj t16 false (fun J => A0 PR (Instr.fieldAt 39 t18 1) J) fun t19 =>
 gj t16 false (fun J => A6 PR (Instr.loadAt 33 t19) J) fun t20 =>
 gj t16 false (fun J => J t0) fun t21 =>
 gj t16 false (fun J => A0 PR (B8 t21) J) fun t22 =>
 gj t16 false (fun J => A0 PR (Instr.fieldAt 130 t22 0) J) fun t23 =>
 gj t16 false (fun J => A0 PR (Instr.fieldAt 128 t23 2) J) fun t24 =>
 gj t16 false (fun J => A6 PR (Instr.loadAt 3 t24) J) fun t25 =>
 gj t16 false (fun J => B5 PR X 37 [t20, t25] J) fun t26 =>
 gj t16 false (fun J => A0 PR (binOp .lss 3 t26 (.int .i64 0)) J) fun t27 =>
 gj t9 true (fun J => A0 PR (do pure (if ← asBool t16 then (.bool true) else t27)) J) fun t28 =>
 A0 PR (do pure (if ← asBool t9 then t28 else (.bool false))) fun t29 =>
 R t29
theorem F3 : B0 PR 23 := A7 Tryz.func23 (by kernel_rfl) rfl
theorem A5G {X : Nat → Prop} {t0 t1 : Value} {R : Value → WP} {w : World} (h : v8 X t0 t1 R w) : Fn PR X 23 #[t0, t1] w R := C4 (args := [t0, t1]) mixed Tryz.func23 (by kernel_rfl) h
def m9 (X : Nat → Prop) (t0 : Value) (R : Value → WP) : WP :=
 B1 PR X (Instr.alloc 55 true (.tuple #[])) fun t2 =>
 A0 PR (B8 t0) fun t4 =>
 A0 PR (Instr.fieldAt 130 t4 7) fun t5 =>
 A6 PR (Instr.loadAt 55 t5) fun t6 =>
 C1 PR X (Instr.storeAt 55 t2 t6) <|
 A6 PR (E7 [.c 55 t2]) R
theorem V4 : B0 PR 27 := A7 Tryz.func27 (by kernel_rfl) rfl
theorem A3x {X : Nat → Prop} {t0 : Value} {R : Value → WP} {w : World} (h : m9 X t0 R w) : Fn PR X 27 #[t0] w R := C4 (args := [t0]) mixed Tryz.func27 (by kernel_rfl) h
def u4 (X : Nat → Prop) (t0 t1 : Value) (R : Value → WP) : WP :=
 B1 PR X (Instr.alloc 42 true (.tuple #[])) fun t4 =>
 jn (n := 0) (
 jn (n := 0) (
 A0 PR (B8 t1) fun t28 =>
 A0 PR (Instr.fieldAt 39 t28 1) fun t29 =>
 A6 PR (Instr.loadAt 33 t29) fun t30 =>
 B5 PR X 35 [t30, (.int .i64 0)] fun t31 =>
 A0 PR (B8 t0) fun t32 =>
 A0 PR (Instr.fieldAt 130 t32 3) fun t33 =>
 C1 PR X (Instr.storeAt 3 t33 t31) <|
 A0 PR (Instr.build 42 #[]) fun t34 =>
 C1 PR X (Instr.storeAt 42 t4 t34) <|
 A6 PR (E7 [.c 42 t4]) R) fun J1 =>
 drw <|
 A0 PR (B8 t0) fun t15 =>
 A0 PR (Instr.fieldAt 130 t15 0) fun t16 =>
 A0 PR (B8 t1) fun t18 =>
 A0 PR (Instr.fieldAt 39 t18 0) fun t19 =>
 A0 PR (Instr.fieldAt 23 t19 1) fun t20 =>
 A6 PR (Instr.loadAt 3 t20) fun t21 =>
 B5 PR X 131 [t16, t21] fun t22 =>
 A0 PR (Op.unary .not t22) fun t23 =>
 D4 t23 (
 B5 PR X 130 [t0, (.int .i64 9)] fun t25 =>
 C1 PR X (Instr.storeAt 42 t4 t25) <|
 A6 PR (E7 [.c 42 t4]) R) (
 J1)) fun J2 =>
 A0 PR (B8 t0) fun t7 =>
 A0 PR (Instr.fieldAt 130 t7 1) fun t8 =>
 A6 PR (Instr.loadAt 3 t8) fun t9 =>
 B5 PR X 57 [t1, t9] fun t10 =>
 A0 PR (binOp .lss 3 t10 (.int .i64 0)) fun t11 =>
 D4 t11 (
 B5 PR X 130 [t0, (.int .i64 1)] fun t13 =>
 C1 PR X (Instr.storeAt 42 t4 t13) <|
 A6 PR (E7 [.c 42 t4]) R) (
 J2)
theorem A4T : B0 PR 76 := A7 Tryz.func76 (by kernel_rfl) rfl
theorem A44 {X : Nat → Prop} {t0 t1 : Value} {R : Value → WP} {w : World} (h : u4 X t0 t1 R w) : Fn PR X 76 #[t0, t1] w R := C4 (args := [t0, t1]) mixed Tryz.func76 (by kernel_rfl) h
def A0x (X : Nat → Prop) (t0 t1 : Value) (R : Value → WP) : WP :=
 B1 PR X (Instr.alloc 42 true (.tuple #[])) fun t4 =>
 drw <|
 A0 PR (B8 t1) fun t6 =>
 A0 PR (Instr.fieldAt 39 t6 1) fun t7 =>
 A6 PR (Instr.loadAt 33 t7) fun t8 =>
 A0 PR (B8 t0) fun t11 =>
 A0 PR (Instr.fieldAt 130 t11 1) fun t12 =>
 A6 PR (Instr.loadAt 3 t12) fun t13 =>
 A0 PR (B8 t0) fun t16 =>
 A0 PR (Instr.fieldAt 130 t16 3) fun t17 =>
 A6 PR (Instr.loadAt 3 t17) fun t18 =>
 A0 PR (binOp .add 3 t18 (.int .i64 1)) fun t19 =>
 B5 PR X 57 [t1, t13] fun t14 =>
 watch PR [(none, (Instr.loadAt 3 t17), t18), (none, (Instr.loadAt 33 t7), t8)] <|
 B5 PR X 31 [t8, t14, t19] fun t20 =>
 A0 PR (Instr.build 42 #[]) fun t21 =>
 C1 PR X (Instr.storeAt 42 t4 t21) <|
 A6 PR (E7 [.c 42 t4]) R
theorem A5d : B0 PR 77 := A7 Tryz.func77 (by kernel_rfl) rfl
theorem A6u {X : Nat → Prop} {t0 t1 : Value} {R : Value → WP} {w : World} (h : A0x X t0 t1 R w) : Fn PR X 77 #[t0, t1] w R := C4 (args := [t0, t1]) mixed Tryz.func77 (by kernel_rfl) h
def x7 (X : Nat → Prop) (t0 t1 : Value) (R : Value → WP) : WP :=
 B1 PR X (Instr.alloc 42 true (.tuple #[])) fun t4 =>
 jn (n := 0) (
 A0 PR (Instr.build 42 #[]) fun t24 =>
 C1 PR X (Instr.storeAt 42 t4 t24) <|
 A6 PR (E7 [.c 42 t4]) R) fun J1 =>
 A0 PR (B8 t1) fun t7 =>
 A0 PR (Instr.fieldAt 39 t7 1) fun t8 =>
 A6 PR (Instr.loadAt 33 t8) fun t9 =>
 B5 PR X 35 [t9, (.int .i64 0)] fun t10 =>
 A0 PR (B8 t0) fun t13 =>
 A0 PR (Instr.fieldAt 130 t13 3) fun t14 =>
 A6 PR (Instr.loadAt 3 t14) fun t15 =>
 A0 PR (binOp .neq 3 t10 t15) fun t16 =>
 D4 t16 (
 A0 PR (B8 t0) fun t20 =>
 A0 PR (Instr.fieldAt 130 t20 3) fun t21 =>
 C1 PR X (Instr.storeAt 3 t21 t10) <|
 A0 PR (B8 t0) fun t22 =>
 A0 PR (Instr.fieldAt 130 t22 2) fun t23 =>
 C1 PR X (Instr.storeAt 3 t23 (.int .i64 1)) <|
 J1) (
 J1)
theorem A4Y : B0 PR 78 := A7 Tryz.func78 (by kernel_rfl) rfl
theorem A5M {X : Nat → Prop} {t0 t1 : Value} {R : Value → WP} {w : World} (h : x7 X t0 t1 R w) : Fn PR X 78 #[t0, t1] w R := C4 (args := [t0, t1]) mixed Tryz.func78 (by kernel_rfl) h
def A0Q (X : Nat → Prop) (t0 t1 : Value) (R : Value → WP) : WP :=
 B1 PR X (Instr.alloc 42 true (.tuple #[])) fun t4 =>
 drw <|
 A0 PR (B8 t1) fun t6 =>
 A0 PR (Instr.fieldAt 39 t6 1) fun t7 =>
 A6 PR (Instr.loadAt 33 t7) fun t8 =>
 A0 PR (B8 t0) fun t10 =>
 A0 PR (Instr.fieldAt 130 t10 0) fun t11 =>
 A0 PR (Instr.fieldAt 128 t11 2) fun t12 =>
 A6 PR (Instr.loadAt 3 t12) fun t13 =>
 A0 PR (B8 t0) fun t15 =>
 A0 PR (Instr.fieldAt 130 t15 1) fun t16 =>
 A6 PR (Instr.loadAt 3 t16) fun t17 =>
 B5 PR X 19 [t8, t13, t17] fun t18 =>
 A0 PR (Instr.build 42 #[]) fun t19 =>
 C1 PR X (Instr.storeAt 42 t4 t19) <|
 A6 PR (E7 [.c 42 t4]) R
theorem A5B : B0 PR 79 := A7 Tryz.func79 (by kernel_rfl) rfl
theorem A55 {X : Nat → Prop} {t0 t1 : Value} {R : Value → WP} {w : World} (h : A0Q X t0 t1 R w) : Fn PR X 79 #[t0, t1] w R := C4 (args := [t0, t1]) mixed Tryz.func79 (by kernel_rfl) h
def m5 (X : Nat → Prop) (t0 t1 : Value) (R : Value → WP) : WP :=
 B1 PR X (Instr.alloc 42 true (.tuple #[])) fun t4 =>
 drw <|
 A0 PR (B8 t1) fun t8 =>
 A0 PR (Instr.fieldAt 39 t8 1) fun t9 =>
 A6 PR (Instr.loadAt 33 t9) fun t10 =>
 A0 PR (B8 t1) fun t14 =>
 A0 PR (Instr.fieldAt 39 t14 6) fun t15 =>
 A6 PR (Instr.loadAt 3 t15) fun t16 =>
 B5 PR X 35 [t10, (.int .i64 1)] fun t11 =>
 watch PR [(none, (Instr.loadAt 3 t15), t16)] <|
 A0 PR (binOp .sub 3 t11 (.int .i64 1)) fun t12 =>
 A0 PR (B8 t0) fun t17 =>
 A0 PR (Instr.fieldAt 130 t17 4) fun t18 =>
 C1 PR X (Instr.storeAt 3 t18 t12) <|
 A0 PR (B8 t0) fun t19 =>
 A0 PR (Instr.fieldAt 130 t19 5) fun t20 =>
 C1 PR X (Instr.storeAt 3 t20 t16) <|
 A0 PR (Instr.build 42 #[(0, (.bool true))]) fun t21 =>
 C1 PR X (Instr.storeAt 42 t4 t21) <|
 A6 PR (E7 [.c 42 t4]) R
theorem A2Z : B0 PR 80 := A7 Tryz.func80 (by kernel_rfl) rfl
theorem A3B {X : Nat → Prop} {t0 t1 : Value} {R : Value → WP} {w : World} (h : m5 X t0 t1 R w) : Fn PR X 80 #[t0, t1] w R := C4 (args := [t0, t1]) mixed Tryz.func80 (by kernel_rfl) h
def A0T (X : Nat → Prop) (t0 t1 : Value) (R : Value → WP) : WP :=
 B1 PR X (Instr.alloc 42 true (.tuple #[])) fun t4 =>
 drw <|
 A0 PR (B8 t1) fun t7 =>
 A0 PR (Instr.fieldAt 39 t7 4) fun t8 =>
 A6 PR (Instr.loadAt 36 t8) fun t9 =>
 A0 PR (B8 t0) fun t11 =>
 A0 PR (Instr.fieldAt 130 t11 0) fun t12 =>
 A0 PR (Instr.fieldAt 128 t12 2) fun t13 =>
 A6 PR (Instr.loadAt 3 t13) fun t14 =>
 A0 PR (Instr.indexAt 36 t9 t14) fun t15 =>
 A6 PR (Instr.loadAt 84 t15) fun t16 =>
 A0 PR (B8 t0) fun t17 =>
 A0 PR (Instr.fieldAt 130 t17 6) fun t18 =>
 C1 PR X (Instr.storeAt 84 t18 t16) <|
 A0 PR (Instr.build 42 #[]) fun t19 =>
 C1 PR X (Instr.storeAt 42 t4 t19) <|
 A6 PR (E7 [.c 42 t4]) R
theorem A5L : B0 PR 81 := A7 Tryz.func81 (by kernel_rfl) rfl
theorem A5S {X : Nat → Prop} {t0 t1 : Value} {R : Value → WP} {w : World} (h : A0T X t0 t1 R w) : Fn PR X 81 #[t0, t1] w R := C4 (args := [t0, t1]) mixed Tryz.func81 (by kernel_rfl) h
def r7 (X : Nat → Prop) (t0 t1 : Value) (R : Value → WP) : WP :=
 B1 PR X (Instr.box 30 t0) fun t2 =>
 B1 PR X (Instr.box 26 t1) fun t3 =>
 B1 PR X (Instr.alloc 42 true (.tuple #[])) fun t4 =>
 drw <|
 A6 PR (Instr.loadAt 26 t3) fun t14 =>
 A0 PR (B8 t14) fun t15 =>
 A0 PR (Instr.fieldAt 39 t15 2) fun t16 =>
 A6 PR (Instr.loadAt 34 t16) fun t17 =>
 A6 PR (Instr.loadAt 30 t2) fun t18 =>
 A0 PR (B8 t18) fun t19 =>
 A0 PR (Instr.fieldAt 130 t19 4) fun t20 =>
 A6 PR (Instr.loadAt 3 t20) fun t21 =>
 B5 PR X 50 [t17, t21] fun t22 =>
 A0 PR (Instr.extract t22 0) fun t23 =>
 A0 PR (Instr.extract t22 1) fun t24 =>
 A0 PR (Instr.makeFunc (.func 132) #[] #[t2, t3]) fun t25 =>
 G8 PR X t25 [] fun t28 =>
 A0 PR (Instr.extract t28 0) fun t29 =>
 A0 PR (Instr.extract t28 1) fun t30 =>
 jn (n := 1) (fun t8 =>
 A6 PR (Instr.loadAt 30 t2) fun t51 =>
 A0 PR (B8 t51) fun t52 =>
 A0 PR (Instr.fieldAt 130 t52 4) fun t53 =>
 A6 PR (Instr.loadAt 3 t53) fun t54 =>
 A0 PR (binOp .geq 3 t54 (.int .i64 0)) fun t55 =>
 gj t55 true (fun J => J t24) fun t57 =>
 gj t55 true (fun J => A0 PR (Op.unary .not t57) J) fun t58 =>
 A0 PR (do pure (if ← asBool t55 then t58 else (.bool false))) fun t59 =>
 A0 PR (Instr.build 42 #[(2, t59)]) fun t60 =>
 B1 PR X (Instr.alloc 42 true (.tuple #[])) fun t10 =>
 C1 PR X (Instr.storeAt 42 t10 t60) <|
 jn (n := 0) (
 A6 PR (Instr.loadAt 42 t10) fun t141 =>
 C1 PR X (Instr.storeAt 42 t4 t141) <|
 A6 PR (E7 [.c 42 t4]) R) fun J1 =>
 A0 PR (Op.unary .not t30) fun t105 =>
 gj t105 true (fun J => J t23) fun t107 =>
 gj t105 true (fun J => A0 PR (binOp .eql 3 t107 (.int .i64 0)) J) fun t108 =>
 A0 PR (do pure (if ← asBool t105 then t108 else (.bool false))) fun t109 =>
 D4 t109 (
 A6 PR (Instr.loadAt 30 t2) fun t110 =>
 A0 PR (Instr.build 55 #[(0, (.int .i64 11))]) fun t111 =>
 A0 PR (B8 t110) fun t112 =>
 A0 PR (Instr.fieldAt 130 t112 7) fun t113 =>
 C1 PR X (Instr.storeAt 55 t113 t111) <|
 J1) (
 A6 PR (Instr.loadAt 30 t2) fun t115 =>
 A0 PR (B8 t115) fun t116 =>
 A0 PR (Instr.fieldAt 130 t116 0) fun t117 =>
 A0 PR (Instr.fieldAt 128 t117 3) fun t118 =>
 A6 PR (Instr.loadAt 4 t118) fun t119 =>
 D4 t119 (
 drw <|
 A6 PR (Instr.loadAt 30 t2) fun t121 =>
 A6 PR (Instr.loadAt 30 t2) fun t122 =>
 A0 PR (B8 t122) fun t123 =>
 A0 PR (Instr.fieldAt 130 t123 6) fun t124 =>
 A6 PR (Instr.loadAt 84 t124) fun t125 =>
 A6 PR (Instr.loadAt 30 t2) fun t126 =>
 A0 PR (B8 t126) fun t127 =>
 A0 PR (Instr.fieldAt 130 t127 0) fun t128 =>
 A0 PR (Instr.fieldAt 128 t128 1) fun t129 =>
 A6 PR (Instr.loadAt 9 t129) fun t130 =>
 B5 PR X 136 [t125, t130] fun t131 =>
 watch PR [(none, (Instr.loadAt 30 t2), t121)] <|
 A0 PR (Instr.extract t131 0) fun t132 =>
 A0 PR (Instr.extract t131 1) fun t133 =>
 A0 PR (B8 t121) fun t134 =>
 A0 PR (Instr.fieldAt 130 t134 6) fun t135 =>
 C1 PR X (Instr.storeAt 84 t135 t132) <|
 A6 PR (Instr.loadAt 30 t2) fun t136 =>
 A0 PR (Instr.build 55 #[(1, t8)]) fun t138 =>
 A0 PR (B8 t136) fun t139 =>
 A0 PR (Instr.fieldAt 130 t139 7) fun t140 =>
 C1 PR X (Instr.storeAt 55 t140 t138) <|
 J1) (
 drw <|
 A6 PR (Instr.loadAt 30 t2) fun t62 =>
 A0 PR (B8 t62) fun t63 =>
 A0 PR (Instr.fieldAt 130 t63 6) fun t64 =>
 A6 PR (Instr.loadAt 84 t64) fun t65 =>
 A6 PR (Instr.loadAt 30 t2) fun t66 =>
 A0 PR (B8 t66) fun t67 =>
 A0 PR (Instr.fieldAt 130 t67 0) fun t68 =>
 A0 PR (Instr.fieldAt 128 t68 1) fun t69 =>
 A6 PR (Instr.loadAt 9 t69) fun t70 =>
 A6 PR (Instr.loadAt 30 t2) fun t72 =>
 A0 PR (B8 t72) fun t73 =>
 A0 PR (Instr.fieldAt 130 t73 5) fun t74 =>
 A6 PR (Instr.loadAt 3 t74) fun t75 =>
 A6 PR (Instr.loadAt 26 t3) fun t76 =>
 A0 PR (B8 t76) fun t77 =>
 A0 PR (Instr.fieldAt 39 t77 0) fun t78 =>
 A0 PR (Instr.fieldAt 23 t78 3) fun t79 =>
 A6 PR (Instr.loadAt 3 t79) fun t80 =>
 A0 PR (binOp .add 3 t75 t80) fun t81 =>
 B5 PR X 137 [t65, t70, t8, t81] fun t82 =>
 A0 PR (Instr.extract t82 0) fun t83 =>
 A0 PR (Instr.extract t82 1) fun t84 =>
 drw <|
 A6 PR (Instr.loadAt 30 t2) fun t85 =>
 A6 PR (Instr.loadAt 30 t2) fun t86 =>
 A0 PR (Op.unary .not t30) fun t90 =>
 A0 PR (Instr.build 55 #[(1, t8), (2, t90)]) fun t91 =>
 A0 PR (B8 t85) fun t92 =>
 A0 PR (Instr.fieldAt 130 t92 6) fun t93 =>
 C1 PR X (Instr.storeAt 84 t93 t83) <|
 watch PR [(none, (Instr.loadAt 30 t2), t86)] <|
 A0 PR (B8 t86) fun t94 =>
 A0 PR (Instr.fieldAt 130 t94 7) fun t95 =>
 C1 PR X (Instr.storeAt 55 t95 t91) <|
 A0 PR (binOp .neq 27 t84 (.int .i64 0)) fun t97 =>
 D4 t97 (
 A6 PR (Instr.loadAt 30 t2) fun t98 =>
 A0 PR (Instr.build 55 #[(0, t84)]) fun t100 =>
 A0 PR (B8 t98) fun t101 =>
 A0 PR (Instr.fieldAt 130 t101 7) fun t102 =>
 C1 PR X (Instr.storeAt 55 t102 t100) <|
 J1) (
 J1)))) fun J2 =>
 A0 PR (Op.unary .not t30) fun t32 =>
 D4 t32 (
 drw <|
 A6 PR (Instr.loadAt 26 t3) fun t34 =>
 A0 PR (B8 t34) fun t35 =>
 A0 PR (Instr.fieldAt 39 t35 2) fun t36 =>
 A6 PR (Instr.loadAt 34 t36) fun t37 =>
 A6 PR (Instr.loadAt 30 t2) fun t38 =>
 A0 PR (B8 t38) fun t39 =>
 A0 PR (Instr.fieldAt 130 t39 4) fun t40 =>
 A6 PR (Instr.loadAt 3 t40) fun t41 =>
 A6 PR (Instr.loadAt 30 t2) fun t42 =>
 A0 PR (B8 t42) fun t43 =>
 A0 PR (Instr.fieldAt 130 t43 0) fun t44 =>
 A0 PR (Instr.fieldAt 128 t44 1) fun t45 =>
 A6 PR (Instr.loadAt 9 t45) fun t46 =>
 B5 PR X 135 [t46] fun t47 =>
 watch PR [(none, (Instr.loadAt 3 t40), t41), (none, (Instr.loadAt 30 t2), t38), (none, (Instr.loadAt 34 t36), t37), (none, (Instr.loadAt 26 t3), t34)] <|
 B5 PR X 48 [t37, t41, t47] fun t48 =>
 A0 PR (Instr.extract t48 0) fun t49 =>
 A0 PR (Instr.extract t48 1) fun t50 =>
 J2 t49) (
 J2 t29)
theorem A3Y : B0 PR 82 := A7 Tryz.func82 (by kernel_rfl) rfl
theorem A3y {X : Nat → Prop} {t0 t1 : Value} {R : Value → WP} {w : World} (h : r7 X t0 t1 R w) : Fn PR X 82 #[t0, t1] w R := C4 (args := [t0, t1]) mixed Tryz.func82 (by kernel_rfl) h
def x3 (X : Nat → Prop) (t0 t1 : Value) (R : Value → WP) : WP :=
 B1 PR X (Instr.alloc 42 true (.tuple #[])) fun t4 =>
 drw <|
 A0 PR (B8 t1) fun t6 =>
 A0 PR (Instr.fieldAt 39 t6 4) fun t7 =>
 A6 PR (Instr.loadAt 36 t7) fun t8 =>
 A0 PR (B8 t0) fun t10 =>
 A0 PR (Instr.fieldAt 130 t10 0) fun t11 =>
 A0 PR (Instr.fieldAt 128 t11 2) fun t12 =>
 A6 PR (Instr.loadAt 3 t12) fun t13 =>
 A0 PR (B8 t0) fun t15 =>
 A0 PR (Instr.fieldAt 130 t15 6) fun t16 =>
 A6 PR (Instr.loadAt 84 t16) fun t17 =>
 A0 PR (Instr.indexAt 36 t8 t13) fun t18 =>
 C1 PR X (Instr.storeAt 84 t18 t17) <|
 A0 PR (Instr.build 42 #[]) fun t19 =>
 C1 PR X (Instr.storeAt 42 t4 t19) <|
 A6 PR (E7 [.c 42 t4]) R
theorem A4U : B0 PR 83 := A7 Tryz.func83 (by kernel_rfl) rfl
theorem A47 {X : Nat → Prop} {t0 t1 : Value} {R : Value → WP} {w : World} (h : x3 X t0 t1 R w) : Fn PR X 83 #[t0, t1] w R := C4 (args := [t0, t1]) mixed Tryz.func83 (by kernel_rfl) h
def r6 (X : Nat → Prop) (t0 t1 : Value) (R : Value → WP) : WP :=
 B1 PR X (Instr.alloc 42 true (.tuple #[])) fun t4 =>
 drw <|
 A0 PR (B8 t1) fun t6 =>
 A0 PR (Instr.fieldAt 39 t6 1) fun t7 =>
 A6 PR (Instr.loadAt 33 t7) fun t8 =>
 A0 PR (B8 t0) fun t10 =>
 A0 PR (Instr.fieldAt 130 t10 0) fun t11 =>
 A0 PR (Instr.fieldAt 128 t11 2) fun t12 =>
 A6 PR (Instr.loadAt 3 t12) fun t13 =>
 A0 PR (B8 t0) fun t15 =>
 A0 PR (Instr.fieldAt 130 t15 1) fun t16 =>
 A6 PR (Instr.loadAt 3 t16) fun t17 =>
 B5 PR X 25 [t8, t13, t17] fun t18 =>
 A0 PR (Instr.build 42 #[]) fun t19 =>
 C1 PR X (Instr.storeAt 42 t4 t19) <|
 A6 PR (E7 [.c 42 t4]) R
theorem A3F : B0 PR 84 := A7 Tryz.func84 (by kernel_rfl) rfl
theorem A3s {X : Nat → Prop} {t0 t1 : Value} {R : Value → WP} {w : World} (h : r6 X t0 t1 R w) : Fn PR X 84 #[t0, t1] w R := C4 (args := [t0, t1]) mixed Tryz.func84 (by kernel_rfl) h
def w8 (X : Nat → Prop) (t0 t1 : Value) (R : Value → WP) : WP :=
 B1 PR X (Instr.alloc 42 true (.tuple #[])) fun t4 =>
 drw <|
 A0 PR (B8 t1) fun t6 =>
 A0 PR (Instr.fieldAt 39 t6 1) fun t7 =>
 A6 PR (Instr.loadAt 33 t7) fun t8 =>
 A0 PR (B8 t0) fun t11 =>
 A0 PR (Instr.fieldAt 130 t11 1) fun t12 =>
 A6 PR (Instr.loadAt 3 t12) fun t13 =>
 B5 PR X 57 [t1, t13] fun t14 =>
 watch PR [(none, (Instr.loadAt 33 t7), t8)] <|
 B5 PR X 31 [t8, t14, (.int .i64 0)] fun t15 =>
 A0 PR (Instr.build 42 #[(1, (.bool true))]) fun t16 =>
 C1 PR X (Instr.storeAt 42 t4 t16) <|
 A6 PR (E7 [.c 42 t4]) R
theorem A4S : B0 PR 85 := A7 Tryz.func85 (by kernel_rfl) rfl
theorem A45 {X : Nat → Prop} {t0 t1 : Value} {R : Value → WP} {w : World} (h : w8 X t0 t1 R w) : Fn PR X 85 #[t0, t1] w R := C4 (args := [t0, t1]) mixed Tryz.func85 (by kernel_rfl) h
def r9 (X : Nat → Prop) (t0 t1 : Value) (R : Value → WP) : WP :=
 B1 PR X (Instr.alloc 42 true (.tuple #[])) fun t4 =>
 A0 PR (Instr.build 55 #[(0, t1)]) fun t8 =>
 A0 PR (B8 t0) fun t9 =>
 A0 PR (Instr.fieldAt 130 t9 2) fun t10 =>
 C1 PR X (Instr.storeAt 3 t10 (.int .i64 10)) <|
 A0 PR (B8 t0) fun t11 =>
 A0 PR (Instr.fieldAt 130 t11 7) fun t12 =>
 C1 PR X (Instr.storeAt 55 t12 t8) <|
 A0 PR (Instr.build 42 #[(0, (.bool true)), (1, (.bool true))]) fun t13 =>
 C1 PR X (Instr.storeAt 42 t4 t13) <|
 A6 PR (E7 [.c 42 t4]) R
theorem l8 : B0 PR 130 := A7 Tryz.func130 (by kernel_rfl) rfl
theorem A4V {X : Nat → Prop} {t0 t1 : Value} {R : Value → WP} {w : World} (h : r9 X t0 t1 R w) : Fn PR X 130 #[t0, t1] w R := C4 (args := [t0, t1]) mixed Tryz.func130 (by kernel_rfl) h
def u6 (X : Nat → Prop) (t0 t1 : Value) (R : Value → WP) : WP :=
 A0 PR (B8 t0) fun t9 =>
 A0 PR (Instr.fieldAt 128 t9 0) fun t10 =>
 A6 PR (Instr.loadAt 9 t10) fun t11 =>
 B5 PR X 21 [t11] fun t12 =>
 A0 PR (Instr.extract t12 0) fun t13 =>
 A0 PR (Instr.extract t12 1) fun t14 =>
 B1 PR X (Instr.alloc 47 true (.tuple #[])) fun t5 =>
 C1 PR X (Instr.storeAt 47 t5 t13) <|
 jn (n := 1) (fun t4 =>
 A0 PR (Instr.fieldAt 47 t5 0) fun t19 =>
 A6 PR (Instr.loadAt 45 t19) fun t20 =>
 B5 PR X 166 [t20] fun t21 =>
 A0 PR (Instr.extract t21 0) fun t22 =>
 A0 PR (Instr.extract t21 1) fun t23 =>
 A0 PR (B8 t0) fun t24 =>
 A0 PR (Instr.fieldAt 128 t24 1) fun t25 =>
 C1 PR X (Instr.storeAt 9 t25 t22) <|
 drw <|
 A0 PR (B8 t0) fun t29 =>
 A0 PR (Instr.fieldAt 128 t29 1) fun t30 =>
 A6 PR (Instr.loadAt 9 t30) fun t31 =>
 A6 PR (Instr.loadAt 47 t5) fun t34 =>
 B5 PR X 167 [t31, t1] fun t33 =>
 watch PR [(none, (Instr.loadAt 47 t5), t34)] <|
 B5 PR X 58 [t34] fun t35 =>
 A0 PR (B8 t0) fun t36 =>
 A0 PR (Instr.fieldAt 128 t36 2) fun t37 =>
 C1 PR X (Instr.storeAt 3 t37 t33) <|
 A0 PR (B8 t0) fun t38 =>
 A0 PR (Instr.fieldAt 128 t38 3) fun t39 =>
 C1 PR X (Instr.storeAt 4 t39 t35) <|
 R (.bool true)) fun J1 =>
 A0 PR (binOp .neq 27 t14 (.int .i64 0)) fun t16 =>
 D4 t16 (
 R (.bool false)) (
 J1 (.bool false))
theorem s5 : B0 PR 131 := A7 Tryz.func131 (by kernel_rfl) rfl
theorem A5F {X : Nat → Prop} {t0 t1 : Value} {R : Value → WP} {w : World} (h : u6 X t0 t1 R w) : Fn PR X 131 #[t0, t1] w R := C4 (args := [t0, t1]) mixed Tryz.func131 (by kernel_rfl) h
def d4 (X : Nat → Prop) (t0 t1 : Value) (R : Value → WP) : WP :=
 drw <|
 A6 PR (Instr.loadAt 30 t0) fun t7 =>
 A0 PR (B8 t7) fun t8 =>
 A0 PR (Instr.fieldAt 130 t8 6) fun t9 =>
 A6 PR (Instr.loadAt 84 t9) fun t10 =>
 A6 PR (Instr.loadAt 30 t0) fun t11 =>
 A0 PR (B8 t11) fun t12 =>
 A0 PR (Instr.fieldAt 130 t12 0) fun t13 =>
 A0 PR (Instr.fieldAt 128 t13 1) fun t14 =>
 A6 PR (Instr.loadAt 9 t14) fun t15 =>
 B5 PR X 133 [t10, t15] fun t16 =>
 jn (n := 2) (fun t2 t3 =>
 drw <|
 A6 PR (Instr.loadAt 26 t1) fun t35 =>
 A0 PR (B8 t35) fun t36 =>
 A0 PR (Instr.fieldAt 39 t36 2) fun t37 =>
 A6 PR (Instr.loadAt 34 t37) fun t38 =>
 A6 PR (Instr.loadAt 30 t0) fun t39 =>
 A0 PR (B8 t39) fun t40 =>
 A0 PR (Instr.fieldAt 130 t40 4) fun t41 =>
 A6 PR (Instr.loadAt 3 t41) fun t42 =>
 A6 PR (Instr.loadAt 30 t0) fun t43 =>
 A0 PR (B8 t43) fun t44 =>
 A0 PR (Instr.fieldAt 130 t44 6) fun t45 =>
 A6 PR (Instr.loadAt 84 t45) fun t46 =>
 A0 PR (Instr.indexAt 84 t46 t16) fun t48 =>
 A0 PR (Instr.fieldAt 218 t48 2) fun t49 =>
 A6 PR (Instr.loadAt 3 t49) fun t50 =>
 B5 PR X 134 [t38, t42, t50] fun t51 =>
 A0 PR (Instr.extract t51 0) fun t52 =>
 A0 PR (Instr.extract t51 1) fun t53 =>
 A6 PR (Instr.loadAt 30 t0) fun t54 =>
 A0 PR (B8 t54) fun t55 =>
 A0 PR (Instr.fieldAt 130 t55 6) fun t56 =>
 A6 PR (Instr.loadAt 84 t56) fun t57 =>
 A0 PR (Instr.indexAt 84 t57 t16) fun t59 =>
 A0 PR (Instr.fieldAt 218 t59 2) fun t60 =>
 A6 PR (Instr.loadAt 3 t60) fun t61 =>
 R (.tuple #[t61, t52])) fun J1 =>
 drw <|
 A0 PR (binOp .lss 3 t16 (.int .i64 0)) fun t18 =>
 gj t18 false (fun J => A6 PR (Instr.loadAt 30 t0) J) fun t20 =>
 gj t18 false (fun J => A0 PR (B8 t20) J) fun t21 =>
 gj t18 false (fun J => A0 PR (Instr.fieldAt 130 t21 6) J) fun t22 =>
 gj t18 false (fun J => A6 PR (Instr.loadAt 84 t22) J) fun t23 =>
 gj t18 false (fun J => J t16) fun t24 =>
 gj t18 false (fun J => A0 PR (Instr.indexAt 84 t23 t24) J) fun t25 =>
 gj t18 false (fun J => A0 PR (Instr.fieldAt 218 t25 3) J) fun t26 =>
 gj t18 false (fun J => A6 PR (Instr.loadAt 3 t26) J) fun t27 =>
 gj t18 false (fun J => A6 PR (Instr.loadAt 30 t0) J) fun t28 =>
 gj t18 false (fun J => A0 PR (B8 t28) J) fun t29 =>
 gj t18 false (fun J => A0 PR (Instr.fieldAt 130 t29 5) J) fun t30 =>
 gj t18 false (fun J => A6 PR (Instr.loadAt 3 t30) J) fun t31 =>
 gj t18 false (fun J => A0 PR (binOp .lss 3 t27 t31) J) fun t32 =>
 A0 PR (do pure (if ← asBool t18 then (.bool true) else t32)) fun t33 =>
 D4 t33 (
 R (.tuple #[(.int .i64 0), (.bool false)])) (
 J1 (.int .i64 0) (.bool false))
theorem A1c : B0 PR 132 := A7 Tryz.func132 (by kernel_rfl) rfl
theorem A1s {X : Nat → Prop} {t0 t1 : Value} {R : Value → WP} {w : World} (h : d4 X t0 t1 R w) : Fn PR X 132 #[t0, t1] w R := C4 (args := [t0, t1]) mixed Tryz.func132 (by kernel_rfl) h
end Go.Proofs.YtjobgnabneddjaaGreat
namespace Go.Proofs.YtjobgnabneddjaaGreat
open Go
end Go.Proofs.YtjobgnabneddjaaGreat
namespace Go.Proofs.YtjobgnabneddjaaGreat
open Go
def A57 (X : Nat → Prop) (t0 : Value) (R : Value → WP) : WP :=
 A0 PR (A8 .min #[3, 3] 0 [t0, (.int .i64 64)]) fun t4 =>
 A0 PR (A8 .max #[3, 3] 0 [(.int .i64 0), t4]) fun t5 =>
 B1 PR X (Instr.makeSlice 84 t5 t5) fun t6 =>
 R t6
theorem A4k : B0 PR 73 := A7 Tryz.func73 (by kernel_rfl) rfl
theorem B1F {X : Nat → Prop} {t0 : Value} {R : Value → WP} {w : World} (h : A57 X t0 R w) : Fn PR X 73 #[t0] w R := C4 (args := [t0]) mixed Tryz.func73 (by kernel_rfl) h
def A2Q (X : Nat → Prop) (t0 t1 : Value) (R : Value → WP) : WP :=
 B1 PR X (Instr.box 9 t1) fun t3 =>
 A0 PR (Instr.makeFunc (.func 185) #[] #[t3]) fun t10 =>
 B5 PR X 184 [t0, t10] fun t11 =>
 A0 PR (Instr.extract t11 0) fun t12 =>
 A0 PR (Instr.extract t11 1) fun t13 =>
 jn (n := 1) (fun t6 =>
 R (.tuple #[t6, t13])) fun J1 =>
 gj t13 true (fun J => J t12) fun t16 =>
 gj t13 true (fun J => B5 PR X 186 [t16, (.int .i64 2)] J) fun t17 =>
 gj t13 true (fun J => A0 PR (binOp .mul 3 (.int .i64 2) t17) J) fun t18 =>
 gj t13 true (fun J => J t12) fun t19 =>
 gj t13 true (fun J => A0 PR (A8 .len #[84] 0 [t19]) J) fun t20 =>
 gj t13 true (fun J => A0 PR (binOp .gtr 3 t18 t20) J) fun t21 =>
 A0 PR (do pure (if ← asBool t13 then t21 else (.bool false))) fun t22 =>
 D4 t22 (
 B5 PR X 187 [t12] fun t24 =>
 J1 t24) (
 J1 t12)
theorem A1G : B0 PR 136 := A7 Tryz.func136 (by kernel_rfl) rfl
theorem A8g {X : Nat → Prop} {t0 t1 : Value} {R : Value → WP} {w : World} (h : A2Q X t0 t1 R w) : Fn PR X 136 #[t0, t1] w R := C4 (args := [t0, t1]) mixed Tryz.func136 (by kernel_rfl) h
def A51 (X : Nat → Prop) (t0 t1 t2 t3 : Value) (R : Value → WP) : WP :=
 A0 PR (Instr.build 218 #[(0, (.int .i64 1)), (1, t1), (2, t2), (3, t3)]) fun t16 =>
 B1 PR X (Instr.alloc 218 true (.tuple #[])) fun t10 =>
 C1 PR X (Instr.storeAt 218 t10 t16) <|
 A0 PR (Instr.makeFunc (.func 188) #[] #[t10]) fun t19 =>
 B5 PR X 184 [t0, t19] fun t20 =>
 A0 PR (Instr.extract t20 0) fun t21 =>
 A0 PR (Instr.extract t20 1) fun t22 =>
 jn (n := 2) (fun t8 t9 =>
 R (.tuple #[t21, (.int .i64 0)])) fun J1 =>
 A0 PR (Op.unary .not t22) fun t24 =>
 D4 t24 (
 R (.tuple #[t21, (.int .i64 12)])) (
 J1 (.slice none 0 0) (.int .i64 0))
theorem A4u : B0 PR 137 := A7 Tryz.func137 (by kernel_rfl) rfl
theorem B2C {X : Nat → Prop} {t0 t1 t2 t3 : Value} {R : Value → WP} {w : World} (h : A51 X t0 t1 t2 t3 R w) : Fn PR X 137 #[t0, t1, t2, t3] w R := C4 (args := [t0, t1, t2, t3]) mixed Tryz.func137 (by kernel_rfl) h
def A4s (X : Nat → Prop) (t0 : Value) (R : Value → WP) : WP :=
 B1 PR X (Instr.alloc 51 true (.tuple #[])) fun t3 =>
 jn (n := 0) (
 A6 PR (Instr.loadAt 51 t3) fun t15 =>
 V7 (R t15)) fun J1 =>
 B5 PR X 200 [t0] fun t7 =>
 rng (N := 2) PR X (fun t8 t9 K2 =>
 B1 PR (fun _ => False) (Instr.alloc 218 true (.tuple #[])) fun t5 =>
 C1 PR (fun _ => False) (Instr.storeAt 218 t5 t9) <|
 bgn <|
 A6 PR (Instr.loadAt 51 t3) fun t10 =>
 A0 PR (Instr.fieldAt 218 t5 1) fun t11 =>
 A6 PR (Instr.loadAt 9 t11) fun t12 =>
 B1 PR (fun _ => False) (Instr.buildSlice 51 1 #[(0, t12)]) fun t13 =>
 B1 PR (fun _ => False) (A8 .append #[51, 51] 51 [t10, t13]) fun t14 =>
 C1 PR (fun _ => False) (Instr.storeAt 51 t3 t14) <|
 K2 none) t7 (fun j => match j with | none => (J1) | some (.exit i) => (match Nat.beq i 0 with | true => (J1) | false => (F5)) | some .ret => (V7 (R (.slice none 0 0))) | some _ => F5)
theorem A9p : B0 PR 147 := A7 Tryz.func147 (by kernel_rfl) rfl
theorem B0n {X : Nat → Prop} {t0 : Value} {R : Value → WP} {w : World} (h : A4s X t0 R w) : Fn PR X 147 #[t0] w R := C4 (args := [t0]) mixed Tryz.func147 (by kernel_rfl) h
def A1e (X : Nat → Prop) (t0 t1 : Value) (R : Value → WP) : WP :=
 B5 PR X 122 [t0] fun t8 =>
 jn (n := 2) (fun t4 t5 =>
 R (.tuple #[t8, (.bool true)])) fun J1 =>
 G8 PR X t1 [t8] fun t11 =>
 A0 PR (Op.unary .not t11) fun t12 =>
 D4 t12 (
 R (.tuple #[t0, (.bool false)])) (
 J1 (.slice none 0 0) (.bool false))
theorem A0n : B0 PR 184 := A7 Tryz.func184 (by kernel_rfl) rfl
theorem A7M {X : Nat → Prop} {t0 t1 : Value} {R : Value → WP} {w : World} (h : A1e X t0 t1 R w) : Fn PR X 184 #[t0, t1] w R := C4 (args := [t0, t1]) mixed Tryz.func184 (by kernel_rfl) h
def A0c (X : Nat → Prop) (t0 t1 : Value) (R : Value → WP) : WP :=
 A6 PR (Instr.loadAt 9 t1) fun t6 =>
 B5 PR X 133 [t0, t6] fun t7 =>
 jn (n := 1) (fun t3 =>
 A0 PR (Instr.build 218 #[(0, (.int .i64 2))]) fun t12 =>
 A0 PR (Instr.indexAt 324 t0 t7) fun t13 =>
 C1 PR X (Instr.storeAt 218 t13 t12) <|
 R (.bool true)) fun J1 =>
 A0 PR (binOp .lss 3 t7 (.int .i64 0)) fun t9 =>
 D4 t9 (
 R (.bool false)) (
 J1 (.bool false))
theorem A5D : B0 PR 185 := A7 Tryz.func185 (by kernel_rfl) rfl
theorem A5x {X : Nat → Prop} {t0 t1 : Value} {R : Value → WP} {w : World} (h : A0c X t0 t1 R w) : Fn PR X 185 #[t0, t1] w R := C4 (args := [t0, t1]) mixed Tryz.func185 (by kernel_rfl) h
def A4p (X : Nat → Prop) (t0 : Value) (R : Value → WP) : WP :=
 A0 PR (A8 .len #[84] 0 [t0]) fun t7 =>
 B5 PR X 73 [t7] fun t8 =>
 B1 PR X (Instr.alloc 324 true (.tuple #[])) fun t3 =>
 C1 PR X (Instr.storeAt 324 t3 t8) <|
 jn (n := 0) (
 A6 PR (Instr.loadAt 324 t3) fun t16 =>
 V7 (R t16)) fun J1 =>
 B5 PR X 200 [t0] fun t10 =>
 rng (N := 2) PR X (fun t11 t12 K2 =>
 B1 PR (fun _ => False) (Instr.alloc 218 true (.tuple #[])) fun t5 =>
 C1 PR (fun _ => False) (Instr.storeAt 218 t5 t12) <|
 bgn <|
 A6 PR (Instr.loadAt 324 t3) fun t13 =>
 A6 PR (Instr.loadAt 218 t5) fun t14 =>
 B5 PR (fun _ => False) 189 [t13, t14] fun t15 =>
 K2 none) t10 (fun j => match j with | none => (J1) | some (.exit i) => (match Nat.beq i 0 with | true => (J1) | false => (F5)) | some .ret => (V7 (R (.slice none 0 0))) | some _ => F5)
theorem A84 : B0 PR 187 := A7 Tryz.func187 (by kernel_rfl) rfl
theorem B0l {X : Nat → Prop} {t0 : Value} {R : Value → WP} {w : World} (h : A4p X t0 R w) : Fn PR X 187 #[t0] w R := C4 (args := [t0]) mixed Tryz.func187 (by kernel_rfl) h
def A11 (X : Nat → Prop) (t0 t1 : Value) (R : Value → WP) : WP :=
 A6 PR (Instr.loadAt 218 t1) fun t5 =>
 B5 PR X 189 [t0, t5] fun t6 =>
 R t6
theorem A7l : B0 PR 188 := A7 Tryz.func188 (by kernel_rfl) rfl
theorem A8d {X : Nat → Prop} {t0 t1 : Value} {R : Value → WP} {w : World} (h : A11 X t0 t1 R w) : Fn PR X 188 #[t0, t1] w R := C4 (args := [t0, t1]) mixed Tryz.func188 (by kernel_rfl) h
def A0b (X : Nat → Prop) (t0 t1 : Value) (R : Value → WP) : WP :=
 B1 PR X (Instr.box 218 t1) fun t3 =>
 A0 PR (Instr.fieldAt 218 t3 1) fun t7 =>
 A6 PR (Instr.loadAt 9 t7) fun t8 =>
 B5 PR X 133 [t0, t8] fun t9 =>
 jn (n := 1) (fun t5 =>
 jn (n := 1) (fun t4 =>
 A6 PR (Instr.loadAt 218 t3) fun t20 =>
 A0 PR (Instr.indexAt 324 t0 t5) fun t21 =>
 C1 PR X (Instr.storeAt 218 t21 t20) <|
 R (.bool true)) fun J1 =>
 A0 PR (binOp .lss 3 t5 (.int .i64 0)) fun t17 =>
 D4 t17 (
 R (.bool false)) (
 J1 (.bool false))) fun J2 =>
 A0 PR (binOp .lss 3 t9 (.int .i64 0)) fun t11 =>
 D4 t11 (
 A0 PR (Instr.fieldAt 218 t3 1) fun t13 =>
 A6 PR (Instr.loadAt 9 t13) fun t14 =>
 B5 PR X 242 [t0, t14] fun t15 =>
 J2 t15) (
 J2 t9)
theorem v6 : B0 PR 189 := A7 Tryz.func189 (by kernel_rfl) rfl
theorem A58 {X : Nat → Prop} {t0 t1 : Value} {R : Value → WP} {w : World} (h : A0b X t0 t1 R w) : Fn PR X 189 #[t0, t1] w R := C4 (args := [t0, t1]) mixed Tryz.func189 (by kernel_rfl) h
def x4 (X : Nat → Prop) (t0 : Value) (R : Value → WP) : WP :=
 B1 PR X (Instr.box 324 t0) fun t1 =>
 A0 PR (Instr.makeFunc (.func 244) #[] #[t1]) fun t3 =>
 R t3
theorem p5 : B0 PR 200 := A7 Tryz.func200 (by kernel_rfl) rfl
theorem A48 {X : Nat → Prop} {t0 : Value} {R : Value → WP} {w : World} (h : x4 X t0 R w) : Fn PR X 200 #[t0] w R := C4 (args := [t0]) mixed Tryz.func200 (by kernel_rfl) h
def g4 (X : Nat → Prop) (t0 t1 : Value) (R : Value → WP) : WP :=
 A6 PR (Instr.loadAt 324 t1) fun t5 =>
 A0 PR (A8 .len #[324] 0 [t5]) fun t6 =>
 lp (n := 1) (fun L1 t7 =>
 A0 PR (binOp .lss 3 t7 t6) fun t8 =>
 jn (n := 0) (
 jn (n := 0) (
 A0 PR (binOp .add 3 t7 (.int .i64 1)) fun t22 =>
 L1 t22) fun J2 =>
 A0 PR (Instr.indexAt 324 t5 t7) fun t10 =>
 A6 PR (Instr.loadAt 218 t10) fun t11 =>
 B1 PR X (Instr.alloc 218 true (.tuple #[])) fun t4 =>
 C1 PR X (Instr.storeAt 218 t4 t11) <|
 A0 PR (Instr.fieldAt 218 t4 0) fun t12 =>
 A6 PR (Instr.loadAt 3 t12) fun t13 =>
 A0 PR (binOp .eql 3 t13 (.int .i64 1)) fun t14 =>
 gj t14 true (fun J => J t0) fun t16 =>
 gj t14 true (fun J => J t7) fun t17 =>
 gj t14 true (fun J => A6 PR (Instr.loadAt 218 t4) J) fun t18 =>
 gj t14 true (fun J => G8 PR X t16 [t17, t18] J) fun t19 =>
 gj t14 true (fun J => A0 PR (Op.unary .not t19) J) fun t20 =>
 A0 PR (do pure (if ← asBool t14 then t20 else (.bool false))) fun t21 =>
 D4 t21 (
 R (.tuple #[])) (
 J2)) fun J3 =>
 D4 t8 (
 J3) (
 R (.tuple #[]))) (.int .i64 0)
theorem A1k : B0 PR 244 := A7 Tryz.func244 (by kernel_rfl) rfl
theorem A2e {X : Nat → Prop} {t0 t1 : Value} {R : Value → WP} {w : World} (h : g4 X t0 t1 R w) : Fn PR X 244 #[t0, t1] w R := C4 (args := [t0, t1]) mixed Tryz.func244 (by kernel_rfl) h
theorem A2a {X : Nat → Prop} {t0 t1 : Value} {K : Value → WP} {w : World} (h : Fn PR X 244 #[t0, t1] w K) : y6 PR X 244 [t0, t1] K w := ⟨A1k, h⟩
end Go.Proofs.YtjobgnabneddjaaGreat
namespace Go.Proofs.YtjobgnabneddjaaGreat
open Go
theorem B6H (l : List EnV) : (l.flatMap F7).all plain = true := by
 rw [List.all_eq_true]; intro v hv; rw [List.mem_flatMap] at hv
 obtain ⟨x, _, hx⟩ := hv
 simp only [F7, List.mem_cons, List.not_mem_nil, or_false] at hx
 rcases hx with rfl | rfl | rfl | rfl <;> rfl
theorem A9u {α : Type} {f : α → List Value} {k : Nat} (hk : ∀ x, (f x).length = k) (l : List α) (i : Nat) (y : α) (hi : i < l.length) : Z5 (l.flatMap f) (i * k) (f y) = (l.set i y).flatMap f := by
 have e1 := B6L hk l i
 have e2 := B0A hk l (i + 1)
 rw [Nat.add_mul, Nat.one_mul] at e2
 rw [Z5, hk, e1, e2, List.set_eq_take_append_cons_drop, if_pos hi, List.flatMap_append, List.flatMap_cons, List.append_assoc]
abbrev G3 (v : Value) (l : List EnV) : Res := .own 218 4 v l.length (l.flatMap F7)
def N9 (n : Nat) : List EnV := List.replicate (min n 64) noE
theorem C22 (n : Nat) : (Builtin.zeroCells (Value.agg #[.int .i64 0, .string H0, .int .i64 0, .int .i64 0]).cells n).toList = (List.replicate n noE).flatMap F7 := by
 have h4 : (Value.agg #[.int .i64 0, .string H0, .int .i64 0, .int .i64 0]).cells.size = 4 := rfl
 have hz : (Builtin.zeroCells (Value.agg #[.int .i64 0, .string H0, .int .i64 0, .int .i64 0]).cells n).toList.length = n * 4 := by simp [size_zeroCells]
 have hr : ((List.replicate n noE).flatMap F7).length = n * 4 := by rw [B1z (k := 4) fun _ => rfl]; simp
 apply List.ext_getElem (by rw [hz, hr])
 intro i h1 h2
 rw [hz] at h1
 have hf := A1W (f := F7) (k := 4) (fun _ => rfl) (List.replicate n noE) (i / 4) (i % 4) (by omega)
 rw [show i / 4 * 4 + i % 4 = i by omega, List.getElem?_eq_getElem h2, List.getElem?_replicate_of_lt (by omega)] at hf
 have e : (Builtin.zeroCells (Value.agg #[.int .i64 0, .string H0, .int .i64 0, .int .i64 0]).cells n).toList[i]'(by rw [hz]; exact h1) = (Value.agg #[.int .i64 0, .string H0, .int .i64 0, .int .i64 0]).cells[i % 4]! := by
  simp [Builtin.zeroCells]
 rw [e]
 have h3 : i % 4 = 0 ∨ i % 4 = 1 ∨ i % 4 = 2 ∨ i % 4 = 3 := by omega
 rcases h3 with h3 | h3 | h3 | h3 <;> (rw [h3] at hf ⊢; simp [F7, noE] at hf ⊢; exact hf.symm)
theorem A63 (w : World) (n : Nat) (hn : n ≤ 1000000) : Fn PR B7 73 #[.int .i64 (n : Int)] w (Rn [] w (fun r u => u = r) fun r => [G3 r (N9 n)]) := by
 refine B1F (TW.go (κ := false) (S := []) ?_)
 unfold A57
 have e : max 0 (min (n : Int) 64) = ((min n 64 : Nat) : Int) := by omega
 (have zz:=trivial;repeat((first|clear zz|with_reducible first|refine A3 ?_|refine A5 fun _=>?_|refine A4 fun _=>?_);try simp(disch:=first|omega|assumption|((repeat(first|exact A1|exact uH|apply A2|apply uT));first|done|fail)|(simp;first|done|omega|fail))[e]))
 refine A39 (by omega) (by omega) (by omega) (by omega) fun bs => ?_
 rw [Int.toNat_natCast]
 refine Z8 _ rfl ?_
 simp only [G3, N9, List.length_replicate, ← C22]
 exact List.Sublist.refl _
def N5 (l : List EnV) (x : EnV) : Option (List EnV) :=
 let at0 := H6 l x.key
 let at1 := if at0 < 0 then j1 l x.key else at0
 if at1 < 0 then none else some (l.set at1.toNat x)
theorem B8c {key : ByteArray} {n : Nat} : ∀ L : List (Nat × EnV), (∀ p ∈ L, p.1 < n) → 0 ≤ j5 key L → (j5 key L).toNat < n := by
 intro L
 induction L with
 | nil => intro _ h; simp [j5] at h
 | cons p L ih =>
  intro h h0
  simp only [j5] at h0 ⊢
  split
  ·rw [if_pos ‹_›] at h0; simp at h0
  ·rw [if_neg ‹_›] at h0
   split
   ·simpa using h p (by simp)
   ·rw [if_neg ‹_›] at h0; exact ih (fun q hq => h q (by simp [hq])) h0
theorem B67 {n : Nat} : ∀ L : List (Nat × EnV), (∀ p ∈ L, p.1 < n) → 0 ≤ q7 L → (q7 L).toNat < n := by
 intro L
 induction L with
 | nil => intro _ h; simp [q7] at h
 | cons p L ih =>
  intro h h0
  simp only [q7] at h0 ⊢
  split
  ·rw [if_pos ‹_›] at h0; exact ih (fun q hq => h q (by simp [hq])) h0
  ·simpa using h p (by simp)
theorem B3L (l : List EnV) (key : ByteArray) : ∀ p ∈ k5 l key, p.1 < l.length := by
 intro p hp
 obtain ⟨i, hi, rfl⟩ := List.mem_map.1 hp
 exact Nat.mod_lt _ (by simp at hi; omega)
theorem A7V {l : List EnV} {key : ByteArray} (h : 0 ≤ H6 l key) : (H6 l key).toNat < l.length := B8c _ (B3L l key) h
theorem B7K {l : List EnV} {key : ByteArray} (h : 0 ≤ j1 l key) : (j1 l key).toNat < l.length := by
 unfold j1 at h ⊢
 split
 ·rw [if_pos ‹_›] at h; simp at h
 ·rw [if_neg ‹_›] at h; exact B67 _ (B3L l key) h
theorem B2T {l m : List EnV} {x : EnV} (h : N5 l x = some m) : m.length = l.length := by
 unfold N5 at h
 simp only at h
 by_cases c : (if H6 l x.key < 0 then j1 l x.key else H6 l x.key) < 0
 ·rw [if_pos c] at h; cases h
 ·rw [if_neg c] at h; injection h with h; rw [← h]; simp
theorem B3r (w : World) (v : Value) (l : List EnV) (x : EnV) (hk : x.key.size < 2 ^ 60) (hn : l.length ≤ 1000000) (hw : LW false (B3 [G3 v l]) w [G3 v l] w) :
  Fn PR B7 189 #[v, .agg #[.int .i64 x.st, .string x.key, .int .i64 x.bk, .int .i64 x.dl]] w (Rn (B3 [G3 v l]) w (fun (_ : Unit) u => u = .bool (N5 l x).isSome) fun _ => [G3 v ((N5 l x).getD l)]) := by
 refine A58 (TW.goH (κ := false) (S := B3 [G3 v l]) ?_ hw)
 unfold A0b
 (have zz:=trivial;repeat((first|clear zz|with_reducible first|refine A3 ?_|refine A5 fun _=>?_|refine A4 fun _=>?_);try simp(disch:=first|omega|assumption|((repeat(first|exact A1|exact uH|apply A2|apply uT));first|done|fail)|(simp;first|done|omega|fail))[]))
 rename_i bx
 refine B9 a6 (fun w' hw' => p8 w' v l x.key hk hn (U6.own (by (repeat constructor)) w' hw')) ?_
 have Y5 : ∀ r : Int, 0 ≤ r → r.toNat < l.length → N5 l x = some (l.set r.toNat x) → TW false (B3 [G3 v l]) w [.pt bx (.cells #[.int .i64 x.st, .string x.key, .int .i64 x.bk, .int .i64 x.dl] 218), G3 v l]
   (A0 PR (Instr.indexAt 324 v (.int .i64 r)) fun t21 => C1 PR B7 (Instr.storeAt 218 t21 (.agg #[.int .i64 x.st, .string x.key, .int .i64 x.bk, .int .i64 x.dl])) <|
    Rn (B3 [G3 v l]) w (fun (_ : Unit) u => u = .bool (N5 l x).isSome) (fun _ => [G3 v ((N5 l x).getD l)]) (.bool true)) := by
  intro r h0 hi hp
  obtain ⟨i, rfl⟩ : ∃ i : Nat, r = i := ⟨r.toNat, by omega⟩
  rw [Int.toNat_natCast] at hi hp
  refine A30 (e := 218) (k := 4) (v := v) (q := l.length) (xs := l.flatMap F7) (by (repeat constructor)) (by omega) ?_
  rintro g c rfl
  (have zz:=trivial;repeat((first|clear zz|with_reducible first|refine A3 ?_|refine A5 fun _=>?_|refine A4 fun _=>?_);try simp(disch:=first|omega|assumption|((repeat(first|exact A1|exact uH|apply A2|apply uT));first|done|fail)|(simp;first|done|omega|fail))[hi]))
  refine k7 (by (repeat constructor)) (by simp) (by rw [l4]; omega) (by simp) ?_
  refine B4 () (by simp [hp]) ?_
  have := A9u (f := F7) (k := 4) (fun _ => rfl) l i x hi
  simp only [hp, Option.getD_some, G3, List.length_set, ← this]
  (repeat' constructor)
 by_cases c1 : H6 l x.key < 0
 ·(have zz:=trivial;repeat((first|clear zz|with_reducible first|refine A3 ?_|refine A5 fun _=>?_|refine A4 fun _=>?_);try simp(disch:=first|omega|assumption|((repeat(first|exact A1|exact uH|apply A2|apply uT));first|done|fail)|(simp;first|done|omega|fail))[c1]))
  refine B9 A9K (fun w' hw' => B2W w' v l x.key hk hn (U6.own (by (repeat constructor)) w' hw')) ?_
  by_cases c2 : j1 l x.key < 0
  ·have hp : N5 l x = none := by simp [N5, c1, c2]
   (have zz:=trivial;repeat((first|clear zz|with_reducible first|refine A3 ?_|refine A5 fun _=>?_|refine A4 fun _=>?_);try simp(disch:=first|omega|assumption|((repeat(first|exact A1|exact uH|apply A2|apply uT));first|done|fail)|(simp;first|done|omega|fail))[c2]))
   exact B4 () (by simp [hp]) (by simp only [hp, Option.getD_none]; (repeat' constructor))
  ·have hp : N5 l x = some (l.set (j1 l x.key).toNat x) := by simp [N5, c1, c2]
   have := Y5 _ (by omega) (B7K (by omega)) hp
   simp(disch:=first|omega|assumption|((repeat(first|exact A1|exact uH|apply A2|apply uT));first|done|fail)|(simp;first|done|omega|fail))[c2]
   exact this
 ·have hp : N5 l x = some (l.set (H6 l x.key).toNat x) := by simp [N5, c1]
  have := Y5 _ (by omega) (A7V (by omega)) hp
  simp(disch:=first|omega|assumption|((repeat(first|exact A1|exact uH|apply A2|apply uT));first|done|fail)|(simp;first|done|omega|fail))[c1]
  exact this
def P8 : Nat → List EnV → List (Nat × EnV)
 | _, [] => []
 | i, x :: r => if x.st = 1 then (i, x) :: P8 (i + 1) r else P8 (i + 1) r
def G6 (l : List EnV) : List (Nat × EnV) := P8 0 l
theorem A94 (i : Nat) (l m : List EnV) : P8 i (l ++ m) = P8 i l ++ P8 (i + l.length) m := by
 induction l generalizing i with
 | nil => simp [P8]
 | cons x l ih =>
  simp only [List.cons_append, P8, ih, List.length_cons]
  split
  ·simp only [List.cons_append]; congr 3; omega
  ·congr 2; omega
theorem B2G {l : List EnV} {i : Nat} {x : EnV} (hx : l[i]? = some x) : G6 (l.take (i + 1)) = G6 (l.take i) ++ (if x.st = 1 then [(i, x)] else []) := by
 obtain ⟨hi, _⟩ := List.getElem?_eq_some_iff.1 hx
 rw [List.take_add_one, hx, G6, A94, Option.toList_some, List.length_take, Nat.zero_add, Nat.min_eq_left (by omega)]
 simp only [P8, G6]
theorem B6S {l : List EnV} {i : Nat} {x : EnV} (hx : l[i]? = some x) (h : x.st = 1) : (G6 l)[(G6 (l.take i)).length]? = some (i, x) := by
 have e : l = l.take (i + 1) ++ l.drop (i + 1) := (List.take_append_drop _ _).symm
 conv => lhs; arg 1; rw [e]
 rw [G6, A94, ← G6, B2G hx, if_pos h, List.append_assoc, List.getElem?_append_right (by omega)]
 simp
abbrev B83 (b : Nat) : Value := .func (.func 244) #[] #[.pointer (some ⟨b, 0, none⟩)]
theorem B3j (w : World) (v : Value) (hv : ∃ a n c, v = .slice a n c) : Fn PR B7 200 #[v] w (Rn [] w (fun b u => u = B83 b) fun b => [.pt b (.cells #[v] 324)]) := by
 obtain ⟨a, n, c, rfl⟩ := hv
 refine A48 (TW.go (κ := false) (S := []) ?_)
 unfold x4
 (have zz:=trivial;repeat((first|clear zz|with_reducible first|refine A3 ?_|refine A5 fun _=>?_|refine A4 fun _=>?_);try simp(disch:=first|omega|assumption|((repeat(first|exact A1|exact uH|apply A2|apply uT));first|done|fail)|(simp;first|done|omega|fail))[]))
 rename_i b
 exact Z8 b rfl (by simp)
theorem B3Q (b : Nat) (v : Value) (l : List EnV) (hn : l.length ≤ 1000000) : A4B (B83 b) [.pt b (.cells #[v] 324)] (RqS v l.length (l.flatMap F7)) ((G6 l).map A2f) := by
 refine ⟨_, _, _, rfl, fun y J E hJ hE stJ stE hy w0 h0 => ?_⟩
 obtain ⟨a, c, hv, hr⟩ := (hJ _ _ _ h0).2
 subst hv
 refine A2a (A2e (TW.at (κ := true) ?_ (hJ _ _ _ h0).1))
 unfold g4
 (have zz:=trivial;repeat((first|clear zz|with_reducible first|refine A3 ?_|refine A5 fun _=>?_|refine A4 fun _=>?_);try simp(disch:=first|omega|assumption|((repeat(first|exact A1|exact uH|apply A2|apply uT));first|done|fail)|(simp;first|done|omega|fail))[]))
 refine A3e l.length (fun i => (G6 (l.take i)).length) (fun _ => _) hJ stJ (by simpa [G6, P8] using h0) fun i a' hi hJi hRi L hL => ?_
 by_cases hlt : i < l.length
 ·obtain ⟨_, _, hv, hr⟩ := hRi
  obtain ⟨b', o, hb, hrow, hnb⟩ := hr (by omega)
  cases hv
  subst hb
  obtain ⟨x, hx⟩ : ∃ x, l[i]? = some x := ⟨_, List.getElem?_eq_getElem hlt⟩
  have h1 := hrow.at (f := F7) (k := 4) (fun _ => rfl) hx
  rw [F7] at h1
  have hat := B2G hx
  by_cases c1 : x.st = 1
  ·have hg := B6S hx c1
   rw [if_pos c1] at hat
   obtain ⟨hgi, hg'⟩ := List.getElem?_eq_some_iff.1 hg
   have hlen : (G6 (l.take (i + 1))).length = (G6 (l.take i)).length + 1 := by rw [hat]; simp
   rw [hlen] at hL
   (have zz:=trivial;repeat((first|clear zz|with_reducible first|refine A3 ?_|refine A5 fun _=>?_|refine A4 fun _=>?_);try simp(disch:=first|omega|assumption|((repeat(first|exact A1|exact uH|apply A2|apply uT));first|done|fail)|(simp;first|done|omega|fail))[hlt, h1, c1]))
   refine A6l hJ hE stJ hy hJi (by simpa using hgi) (by rw [List.getElem_map, hg', A2f, c1]) (fun w3 h => ?_) (fun w3 h => ?_)
   ·(have zz:=trivial;repeat((first|clear zz|with_reducible first|refine A3 ?_|refine A5 fun _=>?_|refine A4 fun _=>?_);try simp(disch:=first|omega|assumption|((repeat(first|exact A1|exact uH|apply A2|apply uT));first|done|fail)|(simp;first|done|omega|fail))[]))
    exact fun w' hw' => hL hlt w' (stJ _ _ _ _ _ h (hw'.sub (by simp)))
   ·(have zz:=trivial;repeat((first|clear zz|with_reducible first|refine A3 ?_|refine A5 fun _=>?_|refine A4 fun _=>?_);try simp(disch:=first|omega|assumption|((repeat(first|exact A1|exact uH|apply A2|apply uT));first|done|fail)|(simp;first|done|omega|fail))[]))
    exact A28 stE h
  ·rw [if_neg c1, List.append_nil] at hat
   rw [hat] at hL
   (have zz:=trivial;repeat((first|clear zz|with_reducible first|refine A3 ?_|refine A5 fun _=>?_|refine A4 fun _=>?_);try simp(disch:=first|omega|assumption|((repeat(first|exact A1|exact uH|apply A2|apply uT));first|done|fail)|(simp;first|done|omega|fail))[hlt, h1, c1]))
   exact fun w' hw' => hL hlt w' (stJ _ _ _ _ _ hJi (hw'.sub (by simp)))
 ·obtain rfl : i = l.length := by omega
  rw [List.take_length] at hJi
  (have zz:=trivial;repeat((first|clear zz|with_reducible first|refine A3 ?_|refine A5 fun _=>?_|refine A4 fun _=>?_);try simp(disch:=first|omega|assumption|((repeat(first|exact A1|exact uH|apply A2|apply uT));first|done|fail)|(simp;first|done|omega|fail))[]))
  exact A3T stJ (by simpa using hJi)
end Go.Proofs.YtjobgnabneddjaaGreat
namespace Go.Proofs.YtjobgnabneddjaaGreat
open Go
theorem B49 {w : World} {b : Nat} {T : TypeId} {l : List Value} (h : bl w b = some (.cells l.toArray T (0, 0))) : V8 w b 0 l.length = some l := A3U fun i hi => by
 rw [D8 h]; simp
theorem A8x (w : World) (v : Value) (l : List EnV) (f : FuncId) (cap : List Value) (o : Option (List EnV)) (ho : ∀ m, o = some m → m.length = l.length) (hn : l.length ≤ 1000000) (hv : K4 w v l.length (l.flatMap F7)) (he : B0 PR f)
  (hf : ∀ w' r, KS false [] w w' → (∀ b ∈ B3 [G3 r l], sz w ≤ b) → LW false (B3 [G3 r l]) w' [G3 r l] w' → Fn PR B7 f (r :: cap).toArray w' (Rn (B3 [G3 r l]) w' (fun (_ : Unit) u => u = .bool o.isSome) fun _ => [G3 r (o.getD l)])) :
  Fn PR B7 184 #[v, .func (.func f) #[] cap.toArray] w (Rn [] w (fun r u => u = .tuple #[if o.isSome then r else v, .bool o.isSome]) fun r => [G3 r (o.getD l)]) := by
 refine A7M (TW.go (κ := false) (S := []) ?_)
 unfold A1e
 refine K3 Z7 (fun w' hw' => B51 w' v l.length (l.flatMap F7) hn (l4 l) (B6H l) (hv.ks hw'.ks (by simp))) ?_
 rintro _ r rfl
 (have zz:=trivial;repeat((first|clear zz|with_reducible first|refine A3 ?_|refine A5 fun _=>?_|refine A4 fun _=>?_);try simp(disch:=first|omega|assumption|((repeat(first|exact A1|exact uH|apply A2|apply uT));first|done|fail)|(simp;first|done|omega|fail))[]))
 refine C6 (Hc := [G3 r l]) he (fun w' hw hs => hf w' r hw.ks (fun b hb => by
  obtain ⟨s, hs1, hb1⟩ := T4.1 hb
  rcases (hw.own s (List.mem_append_left _ hs1) b hb1).1 with h | h
  ·simp at h
  ·exact h) hs) (by (repeat' constructor)) ?_
 rintro _ _ rfl
 cases o with
 | none =>
  (have zz:=trivial;repeat((first|clear zz|with_reducible first|refine A3 ?_|refine A5 fun _=>?_|refine A4 fun _=>?_);try simp(disch:=first|omega|assumption|((repeat(first|exact A1|exact uH|apply A2|apply uT));first|done|fail)|(simp;first|done|omega|fail))[]))
  exact B4 r rfl (by (repeat' constructor))
 | some m =>
  (have zz:=trivial;repeat((first|clear zz|with_reducible first|refine A3 ?_|refine A5 fun _=>?_|refine A4 fun _=>?_);try simp(disch:=first|omega|assumption|((repeat(first|exact A1|exact uH|apply A2|apply uT));first|done|fail)|(simp;first|done|omega|fail))[]))
  exact B4 r rfl (by (repeat' constructor))
theorem B79 (w : World) (v : Value) (l : List EnV) (x : EnV) (b : Nat) (hk : x.key.size < 2 ^ 60) (hn : l.length ≤ 1000000) (hx : V8 w b 0 4 = some (F7 x)) (hb : b ∉ B3 [G3 v l]) (hw : LW false (B3 [G3 v l]) w [G3 v l] w) :
  Fn PR B7 188 #[v, .pointer (some ⟨b, 0, none⟩)] w (Rn (B3 [G3 v l]) w (fun (_ : Unit) u => u = .bool (N5 l x).isSome) fun _ => [G3 v ((N5 l x).getD l)]) := by
 refine A8d (TW.goH (κ := false) (S := B3 [G3 v l]) ?_ hw)
 unfold A11
 rw [F7] at hx
 (have zz:=trivial;repeat((first|clear zz|with_reducible first|refine A3 ?_|refine A5 fun _=>?_|refine A4 fun _=>?_);try simp(disch:=first|omega|assumption|((repeat(first|exact A1|exact uH|apply A2|apply uT));first|done|fail)|(simp;first|done|omega|fail))[hx]))
 refine C6 (Hc := [G3 v l]) v6 (fun w' hw hs => B3r w' v l x hk hn hs) (by (repeat' constructor)) ?_
 rintro _ _ rfl
 exact B4 () rfl (by (repeat' constructor))
theorem A62 (w : World) (v : Value) (l : List EnV) (key : ByteArray) (bk dl : Int) (hk : key.size < 2 ^ 60) (hn : l.length ≤ 1000000) (hv : K4 w v l.length (l.flatMap F7)) :
  Fn PR B7 137 #[v, .string key, .int .i64 bk, .int .i64 dl] w (Rn [] w (fun r u => u = .tuple #[if (N5 l ⟨1, key, bk, dl⟩).isSome then r else v, .int .i64 (if (N5 l ⟨1, key, bk, dl⟩).isSome then 0 else 12)]) fun r => [G3 r ((N5 l ⟨1, key, bk, dl⟩).getD l)]) := by
 refine B2C (TW.go (κ := false) (S := []) ?_)
 unfold A51
 (have zz:=trivial;repeat((first|clear zz|with_reducible first|refine A3 ?_|refine A5 fun _=>?_|refine A4 fun _=>?_);try simp(disch:=first|omega|assumption|((repeat(first|exact A1|exact uH|apply A2|apply uT));first|done|fail)|(simp;first|done|omega|fail))[]))
 rename_i b
 refine K3 A0n (fun w' hw' => A8x w' v l 188 [.pointer (some ⟨b, 0, none⟩)] (N5 l ⟨1, key, bk, dl⟩) (fun m h => B2T h) hn (hv.ks hw'.ks (by simp)) A7l
  fun w2 r h hf hr => ?_) ?_
 ·have hp := hw'.pt (b := b) (by (repeat constructor))
  have hb : b < sz w' := G5 hp
  refine B79 w2 r l ⟨1, key, bk, dl⟩ b hk hn ?_ (fun hc => by have := hf b hc; omega) hr
  have hp2 := h.2.1 b _ (by simp) rfl hp
  exact B49 hp2
 ·rintro r _ rfl
  cases h : N5 l ⟨1, key, bk, dl⟩ with
  | none =>
   (have zz:=trivial;repeat((first|clear zz|with_reducible first|refine A3 ?_|refine A5 fun _=>?_|refine A4 fun _=>?_);try simp(disch:=first|omega|assumption|((repeat(first|exact A1|exact uH|apply A2|apply uT));first|done|fail)|(simp;first|done|omega|fail))[]))
   exact B4 r (by simp) (by (repeat' constructor))
  | some m =>
   (have zz:=trivial;repeat((first|clear zz|with_reducible first|refine A3 ?_|refine A5 fun _=>?_|refine A4 fun _=>?_);try simp(disch:=first|omega|assumption|((repeat(first|exact A1|exact uH|apply A2|apply uT));first|done|fail)|(simp;first|done|omega|fail))[]))
   exact B4 r (by simp) (by (repeat' constructor))
def A8B : EnV := ⟨2, H0, 0, 0⟩
def A3V (l : List EnV) : Prop := ∀ x ∈ l, x.key.size < 2 ^ 60
def A2u (acc : List EnV) (x : EnV) : List EnV := (N5 acc x).getD acc
theorem B62 (acc : List EnV) (x : EnV) : (A2u acc x).length = acc.length := by
 unfold A2u
 cases h : N5 acc x with
 | none => rfl
 | some m => exact B2T h
def B01 (l : List EnV) : List EnV := (G6 l).foldl (fun acc p => A2u acc p.2) (N9 l.length)
theorem B8g (L : List (Nat × EnV)) (a : List EnV) : (L.foldl (fun acc p => A2u acc p.2) a).length = a.length := by
 induction L generalizing a with
 | nil => rfl
 | cons p L ih => rw [List.foldl_cons, ih, B62]
theorem B8A (n : Nat) : (N9 n).length = min n 64 := by simp [N9]
theorem B5f {i : Nat} {l : List EnV} : ∀ p ∈ P8 i l, p.2 ∈ l ∧ p.2.st = 1 := by
 induction l generalizing i with
 | nil => intro p hp; cases hp
 | cons x l ih =>
  intro p hp
  simp only [P8] at hp
  split at hp
  ·rcases List.mem_cons.1 hp with rfl | hp
   ·exact ⟨by simp, ‹_›⟩
   ·obtain ⟨h1, h2⟩ := ih p hp; exact ⟨by simp [h1], h2⟩
  ·obtain ⟨h1, h2⟩ := ih p hp; exact ⟨by simp [h1], h2⟩
theorem A5y {κ : Bool} {S : List Nat} {w0 : World} {H : List Res} {K0 : WP} {e : TypeId} {k : Nat} {v : Value} {q : Nat} {xs : List Value} (hm : Res.own e k v q xs ∈ H) (h : v.cells = #[v] → v.cells.size = 1 → v.cells.toList.all plain = true → TW κ S w0 H K0) : TW κ S w0 H K0 := fun w hw => by
 obtain ⟨a, c, rfl⟩ := L7.form (hw.hold _ hm); exact h rfl rfl rfl w hw
theorem A1y {κ : Bool} {S : List Nat} {w0 : World} {H : List Res} {K0 : WP} {e : TypeId} {k : Nat} {v : Value} {q : Nat} {xs : List Value} (hm : Res.own e k v q xs ∈ H) (h : ∀ a c, v = .slice a q c → TW κ S w0 H K0) : TW κ S w0 H K0 := fun w hw => by
 obtain ⟨a, c, rfl⟩ := L7.form (hw.hold _ hm); exact h a c rfl w hw
theorem B9w (w : World) (v : Value) (l : List EnV) (hks : A3V l) (hn : l.length ≤ 1000000) (hv : K4 w v l.length (l.flatMap F7)) :
  Fn PR B7 187 #[v] w (Rn [] w (fun r u => u = r) fun r => [G3 r (B01 l)]) := by
 refine B0l (TW.go (κ := false) (S := []) ?_)
 unfold A4p
 obtain ⟨a, c, rfl, _⟩ := hv.form
 (have zz:=trivial;repeat((first|clear zz|with_reducible first|refine A3 ?_|refine A5 fun _=>?_|refine A4 fun _=>?_);try simp(disch:=first|omega|assumption|((repeat(first|exact A1|exact uH|apply A2|apply uT));first|done|fail)|(simp;first|done|omega|fail))[]))
 refine K3 A4k (fun w' _ => A63 w' l.length hn) ?_
 rintro _ r rfl
 refine A5y (e := 218) (k := 4) (v := r) (q := (N9 l.length).length) (xs := (N9 l.length).flatMap F7) (by (repeat constructor)) fun hr1 hr2 hr3 => ?_
 (have zz:=trivial;repeat((first|clear zz|with_reducible first|refine A3 ?_|refine A5 fun _=>?_|refine A4 fun _=>?_);try simp(disch:=first|omega|assumption|((repeat(first|exact A1|exact uH|apply A2|apply uT));first|done|fail)|(simp;first|done|omega|fail))[hr1]))
 rename_i bt
 refine K3 p5 (fun w' _ => B3j w' (.slice a l.length c) ⟨_, _, _, rfl⟩) ?_
 rintro b _ rfl
 refine A03 (B3Q b (.slice a l.length c) l hn) (A4C _) (fun i (acc : List EnV) => acc = ((G6 l).take i).foldl (fun acc p => A2u acc p.2) (N9 l.length)) (fun _ acc => [.pt bt (.cells #[r] 324), G3 r acc])
  (fun c (y : Unit) => False) (fun y => []) (N9 l.length) (by simp) ?_ ?_ ?_ ?_ (by simp)
 ·intro i _ F w1 _ hw
  exact RqS.of hv (fun h => by rw [l4]; omega) hw
 ·rintro i hi acc F hψ K' hK _
  have hi' : i < (G6 l).length := by simpa using hi
  have hm : (G6 l)[i] ∈ G6 l := List.getElem_mem hi'
  have hst : ((G6 l).take (i + 1)).foldl (fun acc p => A2u acc p.2) (N9 l.length) = A2u acc (G6 l)[i].2 := by
   rw [List.take_add_one, List.getElem?_eq_getElem hi', Option.toList_some, List.foldl_append, ← hψ]; rfl
  have hlen : acc.length ≤ 64 := by rw [hψ, B8g, B8A]; omega
  simp only [List.getElem_map]
  generalize (G6 l)[i] = p at *
  have hkp := hks p.2 (B5f p hm).1
  simp only [A2f, VF.app]
  (have zz:=trivial;repeat((first|clear zz|with_reducible first|refine A3 ?_|refine A5 fun _=>?_|refine A4 fun _=>?_);try simp(disch:=first|omega|assumption|((repeat(first|exact A1|exact uH|apply A2|apply uT));first|done|fail)|(simp;first|done|omega|fail))[]))
  refine C6 (Hc := [G3 r acc]) v6 (fun w' hw hs => B3r w' r acc p.2 hkp (by omega) hs) (by (repeat' constructor)) ?_
  rintro _ _ rfl
  refine TW.sub (TW.perm (hK (A2u acc p.2) hst.symm) ?_) (H' := G3 r (A2u acc p.2) :: .pt bt (.cells #[r] 324) :: F) ?_
  ·exact List.Perm.swap ..
  ·simp only [A2u]; ((try simp only [List.cons_append, List.nil_append, List.append_assoc]); (repeat (first | exact List.Sublist.refl _ | exact List.nil_sublist _ | with_reducible apply List.Sublist.cons_cons | apply List.Sublist.cons)); first | done | fail)
 ·intro acc hψ
  simp only [List.length_map, List.take_length] at hψ
  subst hψ
  (have zz:=trivial;repeat((first|clear zz|with_reducible first|refine A3 ?_|refine A5 fun _=>?_|refine A4 fun _=>?_);try simp(disch:=first|omega|assumption|((repeat(first|exact A1|exact uH|apply A2|apply uT));first|done|fail)|(simp;first|done|omega|fail))[]))
  exact B4 r rfl (by simp only [B01]; (repeat' constructor))
 ·rintro _ _ h; exact h.elim
def V9 (l : List EnV) (key : ByteArray) : Option (List EnV) := if H6 l key < 0 then none else some (l.set (H6 l key).toNat A8B)
theorem B1K {l m : List EnV} {key : ByteArray} (h : V9 l key = some m) : m.length = l.length := by
 unfold V9 at h
 by_cases c : H6 l key < 0
 ·rw [if_pos c] at h; cases h
 ·rw [if_neg c] at h; injection h with h; rw [← h]; simp
def A3W (u : List EnV) : List EnV := if u.length < 2 * A1F u 2 then B01 u else u
def S5 (l : List EnV) (key : ByteArray) : List EnV := match V9 l key with | some u => A3W u | none => l
theorem B3H (w : World) (v : Value) (l : List EnV) (key : ByteArray) (b : Nat) (hk : key.size < 2 ^ 60) (hn : l.length ≤ 1000000) (hx : w.cell? ⟨b, 0, none⟩ = some (.string key)) (hb : b ∉ B3 [G3 v l]) (hw : LW false (B3 [G3 v l]) w [G3 v l] w) :
  Fn PR B7 185 #[v, .pointer (some ⟨b, 0, none⟩)] w (Rn (B3 [G3 v l]) w (fun (_ : Unit) u => u = .bool (V9 l key).isSome) fun _ => [G3 v ((V9 l key).getD l)]) := by
 refine A5x (TW.goH (κ := false) (S := B3 [G3 v l]) ?_ hw)
 unfold A0c
 (have zz:=trivial;repeat((first|clear zz|with_reducible first|refine A3 ?_|refine A5 fun _=>?_|refine A4 fun _=>?_);try simp(disch:=first|omega|assumption|((repeat(first|exact A1|exact uH|apply A2|apply uT));first|done|fail)|(simp;first|done|omega|fail))[hx]))
 refine B9 a6 (fun w' hw' => p8 w' v l key hk hn (U6.own (by (repeat constructor)) w' hw')) ?_
 by_cases c1 : H6 l key < 0
 ·have hd : V9 l key = none := if_pos c1
  (have zz:=trivial;repeat((first|clear zz|with_reducible first|refine A3 ?_|refine A5 fun _=>?_|refine A4 fun _=>?_);try simp(disch:=first|omega|assumption|((repeat(first|exact A1|exact uH|apply A2|apply uT));first|done|fail)|(simp;first|done|omega|fail))[c1]))
  exact B4 () (by simp [hd]) (by simp only [hd, Option.getD_none]; (repeat' constructor))
 ·have hd : V9 l key = some (l.set (H6 l key).toNat A8B) := if_neg c1
  have hlt := A7V (l := l) (key := key) (by omega)
  have h0 : 0 ≤ H6 l key := by omega
  obtain ⟨i, hi⟩ : ∃ i : Nat, H6 l key = i := ⟨(H6 l key).toNat, by omega⟩
  rw [hi] at hd hlt c1 ⊢
  rw [Int.toNat_natCast] at hd hlt
  refine A30 (e := 218) (k := 4) (v := v) (q := l.length) (xs := l.flatMap F7) (by (repeat constructor)) (by omega) ?_
  rintro g c rfl
  (have zz:=trivial;repeat((first|clear zz|with_reducible first|refine A3 ?_|refine A5 fun _=>?_|refine A4 fun _=>?_);try simp(disch:=first|omega|assumption|((repeat(first|exact A1|exact uH|apply A2|apply uT));first|done|fail)|(simp;first|done|omega|fail))[c1, hlt]))
  refine k7 (by (repeat constructor)) (by simp) (by rw [l4]; omega) (by simp) ?_
  refine B4 () (by simp [hd]) ?_
  have := A9u (f := F7) (k := 4) (fun _ => rfl) l i A8B hlt
  simp only [hd, Option.getD_some, G3, List.length_set, ← this]
  (repeat' constructor)
theorem A3n (w : World) (v : Value) (l : List EnV) (key : ByteArray) (hk : key.size < 2 ^ 60) (hks : A3V l) (hn : l.length ≤ 1000000) (hv : K4 w v l.length (l.flatMap F7)) :
  Fn PR B7 136 #[v, .string key] w (Rn [] w (fun r u => u = .tuple #[if (V9 l key).isSome then r else v, .bool (V9 l key).isSome]) fun r => [G3 r (S5 l key)]) := by
 refine A8g (TW.go (κ := false) (S := []) ?_)
 unfold A2Q
 (have zz:=trivial;repeat((first|clear zz|with_reducible first|refine A3 ?_|refine A5 fun _=>?_|refine A4 fun _=>?_);try simp(disch:=first|omega|assumption|((repeat(first|exact A1|exact uH|apply A2|apply uT));first|done|fail)|(simp;first|done|omega|fail))[]))
 rename_i b
 refine K3 A0n (fun w' hw' => A8x w' v l 185 [.pointer (some ⟨b, 0, none⟩)] (V9 l key) (fun m h => B1K h) hn (hv.ks hw'.ks (by simp)) A5D
  fun w2 r h hf hr => ?_) ?_
 ·have hp := hw'.pt (b := b) (by (repeat constructor))
  have hb : b < sz w' := G5 hp
  exact B3H w2 r l key b hk hn (h.cell (by simp) (hw'.cell1 (by (repeat constructor)))) (fun hc => by have := hf b hc; omega) hr
 ·rintro r _ rfl
  cases h : V9 l key with
  | none =>
   have e : S5 l key = l := by simp [S5, h]
   (have zz:=trivial;repeat((first|clear zz|with_reducible first|refine A3 ?_|refine A5 fun _=>?_|refine A4 fun _=>?_);try simp(disch:=first|omega|assumption|((repeat(first|exact A1|exact uH|apply A2|apply uT));first|done|fail)|(simp;first|done|omega|fail))[]))
   exact B4 r (by simp) (by rw [e]; (repeat' constructor))
  | some m =>
   have e : S5 l key = A3W m := by simp [S5, h]
   have hml := B1K h
   have hmk : A3V m := by
    unfold V9 at h
    by_cases c : H6 l key < 0
    ·rw [if_pos c] at h; cases h
    ·rw [if_neg c] at h; injection h with h; rw [← h]
     intro x hx
     rcases List.mem_or_eq_of_mem_set hx with hx | rfl
     ·exact hks x hx
     ·simp [A8B]
   simp only [Option.isSome_some, if_true, Option.getD_some]
   refine A1y (e := 218) (k := 4) (v := r) (q := m.length) (xs := m.flatMap F7) (by (repeat constructor)) ?_
   rintro ra rc rfl
   (have zz:=trivial;repeat((first|clear zz|with_reducible first|refine A3 ?_|refine A5 fun _=>?_|refine A4 fun _=>?_);try simp(disch:=first|omega|assumption|((repeat(first|exact A1|exact uH|apply A2|apply uT));first|done|fail)|(simp;first|done|omega|fail))[]))
   refine B9 A8T (fun w' hw' => B66 w' _ m 2 (by omega) (U6.own (by (repeat constructor)) w' hw')) ?_
   have hcl : A1F m 2 ≤ m.length := List.countP_le_length
   by_cases c1 : m.length < 2 * A1F m 2
   ·have c1' : (m.length : Int) < 2 * (A1F m 2 : Nat) := by omega
    have e2 : S5 l key = B01 m := by rw [e, A3W, if_pos c1]
    (have zz:=trivial;repeat((first|clear zz|with_reducible first|refine A3 ?_|refine A5 fun _=>?_|refine A4 fun _=>?_);try simp(disch:=first|omega|assumption|((repeat(first|exact A1|exact uH|apply A2|apply uT));first|done|fail)|(simp;first|done|omega|fail))[c1']))
    refine K3 A84 (fun w' hw' => B9w w' _ m hmk (by omega) (U6.own (by (repeat constructor)) w' hw')) ?_
    rintro _ r rfl
    exact B4 r rfl (by rw [e2]; (repeat' constructor))
   ·have c1' : ¬ (m.length : Int) < 2 * (A1F m 2 : Nat) := by omega
    have e2 : S5 l key = m := by rw [e, A3W, if_neg c1]
    (have zz:=trivial;repeat((first|clear zz|with_reducible first|refine A3 ?_|refine A5 fun _=>?_|refine A4 fun _=>?_);try simp(disch:=first|omega|assumption|((repeat(first|exact A1|exact uH|apply A2|apply uT));first|done|fail)|(simp;first|done|omega|fail))[c1']))
    exact B4 (.slice ra m.length rc) rfl (by rw [e2]; (repeat' constructor))
def M5 (l : List EnV) : List ByteArray := (G6 l).map (·.2.key)
theorem B96 (w : World) (v : Value) (l : List EnV) (hn : l.length ≤ 1000000) (hv : K4 w v l.length (l.flatMap F7)) :
  Fn PR B7 147 #[v] w (Rn [] w (fun r u => u = r) fun r => [.own 9 1 r (M5 l).length ((M5 l).map Value.string)]) := by
 refine B0n (TW.go (κ := false) (S := []) ?_)
 unfold A4s
 obtain ⟨a, c, rfl, _⟩ := hv.form
 (have zz:=trivial;repeat((first|clear zz|with_reducible first|refine A3 ?_|refine A5 fun _=>?_|refine A4 fun _=>?_);try simp(disch:=first|omega|assumption|((repeat(first|exact A1|exact uH|apply A2|apply uT));first|done|fail)|(simp;first|done|omega|fail))[]))
 rename_i bt
 refine K3 p5 (fun w' _ => B3j w' (.slice a l.length c) ⟨_, _, _, rfl⟩) ?_
 rintro b _ rfl
 refine A0D 9 1 ?_
 have hll : (G6 l).length ≤ l.length := by
  have : ∀ (m : List EnV) (i : Nat), (P8 i m).length ≤ m.length := by
   intro m
   induction m with
   | nil => intro i; simp [P8]
   | cons x m ih => intro i; have := ih (i + 1); simp only [P8]; split <;> simp <;> omega
  exact this l 0
 refine TW.eqH (H' := [.own 9 1 (.slice none 0 0) 0 [], .pt b (.cells #[.slice a l.length c] 324), .pt bt (.cells #[.slice none 0 0] 51)]) (by simp) ?_
 refine TW.perm ?_ (H' := [.pt b (.cells #[.slice a l.length c] 324), .own 9 1 (.slice none 0 0) 0 [], .pt bt (.cells #[.slice none 0 0] 51)]) (List.Perm.swap ..)
 refine A03 (B3Q b (.slice a l.length c) l hn) (A4C _) (fun i (x : Option Addr × Nat) => True) (fun i x => [.own 9 1 (.slice x.1 i x.2) i (((G6 l).map fun p => Value.string p.2.key).take i), .pt bt (.cells #[.slice x.1 i x.2] 51)])
  (fun c (y : Unit) => False) (fun y => []) (none, 0) trivial ?_ ?_ ?_ ?_ (by simp)
 ·intro i _ F w1 _ hw
  exact RqS.of hv (fun h => by rw [l4]; omega) hw
 ·rintro i hi ⟨xa, xc⟩ F _ K' hK _
  have hi' : i < (G6 l).length := by simpa using hi
  have hst : ((G6 l).map fun p => Value.string p.2.key).take (i + 1) = ((G6 l).map fun p => Value.string p.2.key).take i ++ [Value.string (G6 l)[i].2.key] := by
   rw [List.take_add_one, List.getElem?_map, List.getElem?_eq_getElem hi']; rfl
  simp only [hst] at hK
  simp only [List.getElem_map]
  generalize (G6 l)[i] = p at *
  simp only [A2f, VF.app]
  (have zz:=trivial;repeat((first|clear zz|with_reducible first|refine A3 ?_|refine A5 fun _=>?_|refine A4 fun _=>?_|refine C8 fun _=>?_|refine C7 (hK:=fun _=>?_)|refine C9 (hK:=fun _=>?_)|refine D0 (hK:=fun _=>?_)|refine D1 (hK:=fun _=>?_)|refine D2 (hK:=fun _=>?_));try simp(disch:=first|omega|assumption|((repeat(first|exact A1|exact uH|apply A2|apply uT));first|done|fail)|(simp;first|done|omega|fail))[]))
  refine A3q (e := 9) (k := 1) (q := i) (r := 1) (xs := ((G6 l).map fun p => Value.string p.2.key).take i) (news := [Value.string p.2.key]) (by (repeat constructor)) (U6.own (by (repeat constructor))) (by decide) (by simp) (by simp) (by simp only [maxLen]; omega) (by omega) fun a' c' => ?_
  (have zz:=trivial;repeat((first|clear zz|with_reducible first|refine A3 ?_|refine A5 fun _=>?_|refine A4 fun _=>?_);try simp(disch:=first|omega|assumption|((repeat(first|exact A1|exact uH|apply A2|apply uT));first|done|fail)|(simp;first|done|omega|fail))[]))
  refine TW.sub (TW.perm (hK (a', c') trivial) ?_) (H' := .own 9 1 (.slice a' (i + 1) c') (i + 1) (((G6 l).map fun p => Value.string p.2.key).take i ++ [Value.string p.2.key]) :: .pt bt (.cells #[.slice a' (i + 1) c'] 51) :: F) ?_
  ·exact List.Perm.refl _
  ·((try simp only [List.cons_append, List.nil_append, List.append_assoc]); (repeat (first | exact List.Sublist.refl _ | exact List.nil_sublist _ | with_reducible apply List.Sublist.cons_cons | apply List.Sublist.cons)); first | done | fail)
 ·rintro ⟨xa, xc⟩ _
  (have zz:=trivial;repeat((first|clear zz|with_reducible first|refine A3 ?_|refine A5 fun _=>?_|refine A4 fun _=>?_);try simp(disch:=first|omega|assumption|((repeat(first|exact A1|exact uH|apply A2|apply uT));first|done|fail)|(simp;first|done|omega|fail))[]))
  refine B4 (.slice xa (G6 l).length xc) rfl ?_
  rw [List.take_of_length_le (by simp)]
  simp only [M5, List.length_map, List.map_map]
  exact Sels.cons Sel.here Sels.nil
 ·rintro _ _ h; exact h.elim
end Go.Proofs.YtjobgnabneddjaaGreat
namespace Go.Proofs.YtjobgnabneddjaaGreat
open Go
def C5q (x : EnV) (now : Int) : Bool := decide (x.st = 1) && decide (x.dl < now)
def C0D (f n m : Nat) : List Nat := (List.range n).map fun i => (f + i) % m
def C2V (now : Int) (s : List EnV × Nat) (j : Nat) : List EnV × Nat := if C5q (s.1.getD j noE) now then (s.1.set j A8B, s.2 + 1) else s
def C0n (l : List EnV) (f n : Nat) (now : Int) : List EnV × Nat := (C0D f n l.length).foldl (C2V now) (l, 0)
def B3z (l : List EnV) (f : Int) : Nat := if f < 0 ∨ (l.length : Int) ≤ f then 0 else f.toNat
def B9A (l : List EnV) (n : Int) : Nat := min n.toNat l.length
def C1V (l : List EnV) (f n now : Int) : List EnV × Nat × Nat :=
 let s := C0n l (B3z l f) (B9A l n) now
 (if 0 < s.2 then A3W s.1 else s.1, if 0 < l.length then (B3z l f + B9A l n) % l.length else B3z l f, s.2)
end Go.Proofs.YtjobgnabneddjaaGreat
namespace Go.Proofs.YtjobgnabneddjaaGreat
open Go
theorem B7T {κ : Bool} {S : List Nat} {w0 : World} {H : List Res} {K0 : WP} {t : TypeId} {n : Nat} {z : Value} [h : TG t n z] {b o : Nat} {c : Array Value} {T : TypeId} {f : Nat × Nat} {xs : Array Value} {l : List Rd} (hm : Res.pt b (.cells c T f) ∈ H) (hl : Y2 c.toList o n = some xs.toList) :
  TW κ S w0 H (watch PR ((none, Instr.loadAt t (.pointer (some ⟨b, o, none⟩)), .agg xs) :: l) K0) = TW κ S w0 H (watch PR l K0) := by
 obtain ⟨_, _, h, hd⟩ := h.ti
 refine A9G fun w hw => ?_
 have hr := A06 hl (L5.bl (hw.pt hm))
 have h2 := x8 hr
 have := A2U h hd h2.1 h2.2
 simpa using this
theorem L5.sub {w : World} {b o : Nat} {l : List Value} (h : L5 w b o l) (j n : Nat) (hn : j + n ≤ l.length) : V8 w b (o + j) n = some ((l.drop j).take n) := by
 have hl : ((l.drop j).take n).length = n := by simp; omega
 have h1 : L5 w b (o + j) ((l.drop j).take n) := fun q hq => by
  rw [hl] at hq
  rw [Nat.add_assoc, h (j + q) (by omega), List.getElem?_take_of_lt hq, List.getElem?_drop]
 have := A3U h1
 rwa [hl] at this
end Go.Proofs.YtjobgnabneddjaaGreat
namespace Go.Proofs.YtjobgnabneddjaaGreat
open Go
def A27 (X : Nat → Prop) (t0 : Value) (R : Value → WP) : WP :=
 B1 PR X (Instr.box 23 t0) fun t1 =>
 B1 PR X (Instr.alloc 27 true (.tuple #[])) fun t3 =>
 C1 PR X (Instr.storeAt 27 t3 (.int .i64 0)) <|
 A0 PR (Instr.makeFunc (.func 127) #[] #[t3]) fun t5 =>
 A0 PR (Instr.fieldAt 23 t1 0) fun t7 =>
 A6 PR (Instr.loadAt 3 t7) fun t8 =>
 G8 PR X t5 [t8, (.int .i64 1), (.int .i64 64)] fun t9 =>
 A0 PR (Instr.fieldAt 23 t1 1) fun t11 =>
 A6 PR (Instr.loadAt 3 t11) fun t12 =>
 G8 PR X t5 [t12, (.int .i64 1), (.int .i64 16)] fun t13 =>
 A0 PR (Instr.fieldAt 23 t1 2) fun t15 =>
 A6 PR (Instr.loadAt 3 t15) fun t16 =>
 G8 PR X t5 [t16, (.int .i64 1), (.int .i64 64)] fun t17 =>
 A0 PR (Instr.fieldAt 23 t1 3) fun t19 =>
 A6 PR (Instr.loadAt 3 t19) fun t20 =>
 G8 PR X t5 [t20, (.int .i64 0), (.int .i64 1000000)] fun t21 =>
 A0 PR (Instr.fieldAt 23 t1 4) fun t23 =>
 A6 PR (Instr.loadAt 3 t23) fun t24 =>
 G8 PR X t5 [t24, (.int .i64 2), (.int .i64 8)] fun t25 =>
 A6 PR (Instr.loadAt 27 t3) fun t26 =>
 R t26
theorem A8s : B0 PR 65 := A7 Tryz.func65 (by kernel_rfl) rfl
theorem A85 {X : Nat → Prop} {t0 : Value} {R : Value → WP} {w : World} (h : A27 X t0 R w) : Fn PR X 65 #[t0] w R := C4 (args := [t0]) mixed Tryz.func65 (by kernel_rfl) h
def A0q (X : Nat → Prop) (t0 t1 t2 t3 : Value) (R : Value → WP) : WP :=
 A0 PR (binOp .lss 3 t0 t1) fun t9 =>
 gj t9 false (fun J => J t0) fun t11 =>
 gj t9 false (fun J => J t2) fun t12 =>
 gj t9 false (fun J => A0 PR (binOp .gtr 3 t11 t12) J) fun t13 =>
 A0 PR (do pure (if ← asBool t9 then (.bool true) else t13)) fun t14 =>
 D4 t14 (
 C1 PR X (Instr.storeAt 27 t3 (.int .i64 1)) <|
 R (.tuple #[])) (
 R (.tuple #[]))
theorem P3 : B0 PR 127 := A7 Tryz.func127 (by kernel_rfl) rfl
theorem A60 {X : Nat → Prop} {t0 t1 t2 t3 : Value} {R : Value → WP} {w : World} (h : A0q X t0 t1 t2 t3 R w) : Fn PR X 127 #[t0, t1, t2, t3] w R := C4 (args := [t0, t1, t2, t3]) mixed Tryz.func127 (by kernel_rfl) h
def A3A (X : Nat → Prop) (t0 t1 : Value) (R : Value → WP) : WP :=
 jn (n := 1) (fun t4 =>
 B5 PR X 135 [t0] fun t8 =>
 A0 PR (binOp .shr 89 t8 (.int .u64 32)) fun t9 =>
 A0 PR (convert 3 89 t1) fun t11 =>
 A0 PR (binOp .rem 89 t9 t11) fun t12 =>
 A0 PR (convert 89 3 t12) fun t13 =>
 R t13) fun J1 =>
 A0 PR (binOp .lss 3 t1 (.int .i64 1)) fun t6 =>
 D4 t6 (
 R (.int .i64 0)) (
 J1 (.int .i64 0))
theorem A8P : B0 PR 167 := A7 Tryz.func167 (by kernel_rfl) rfl
theorem A9W {X : Nat → Prop} {t0 t1 : Value} {R : Value → WP} {w : World} (h : A3A X t0 t1 R w) : Fn PR X 167 #[t0, t1] w R := C4 (args := [t0, t1]) mixed Tryz.func167 (by kernel_rfl) h
end Go.Proofs.YtjobgnabneddjaaGreat
