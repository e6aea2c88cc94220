/- The proof of a given statement, a part of it (Args Join ShR17 Few ArgsC ShL20ControlSame ShL20ControlBusy ShL20 ShControl ShWorld ShCells). No condition but what each lemma says. -/
import Derived.WalkKit
import Derived.ProofKit
import Derived.OpenShut
import Derived.Carry
import Derived.Deep.Slices
import Derived.Test.YtjobgnabneddjaaGreatRows
import Derived.Test.YtjobgnabneddjaaGreatZ12
set_option linter.unusedVariables false
set_option linter.unusedSimpArgs false
namespace Go.Proofs.YtjobgnabneddjaaGreat
open Go Go.ChangeShapes Go.WideShapes Go.ChangeAt Go.RowKit
theorem B3r {w w' : World} (h : C3 [] w w') (hk : Sk B7 w w') (may : MemPlace → Prop) : w.keptBut w' may := by
 refine ⟨hk.2.2.2.1, hk.2.2.2.2, fun i hi => ?_⟩
 have h1 : w.heap[i]? = some w.heap[i] := Array.getElem?_eq_getElem hi
 have h2 : w'.heap[i]? = some w.heap[i] := h.2 i _ (by simp) h1
 rw [h1, h2]
 cases w.heap[i] <;> simp
theorem A98 {f : FuncId} {args : Array Value} {w : World} (h : Fn PR B7 f args w (fun v w' => v = .bool true ∧ C3 [] w w')) :
  Calls PR f args w fun e w' => e = .returned (.bool true) ∧ (∀ may, w.keptBut w' may) ∧ C3 [] w w' :=
 Calls.mono h fun _ w' ⟨v, he, ⟨hv, hb⟩, hs⟩ => ⟨by rw [he, hv], B3r hb hs, hb⟩
theorem own : ownKnob PR.godebug = none := by kernel_rfl
theorem B4w : laidOutB PR = true := by kernel_rfl
theorem A9H {H : Type} {enc : TypeId × Value → H} {P : Program} {f : Func} {s : ChangeSpec} {apart fresh handsOn : Bool} {W W' : World} {args : Array Value} {v : Value} {ds gs : List (DataW H)} {before pa pv : List MemPlace}
  (hW : DataW.Whole enc P f.params.toList s.vars apart W args.toList ds gs before)
  (hres : ∀ (b : Nat) (sp : Nat → Bool) (hd : Bool), DataW.TrodAll enc P W' b sp hd f.resultTypes.toList (v.resultList f.resultTypes.size) (s.fn H (ds ++ gs)).results [])
  (hargs : ∀ sp : Nat → Bool, (∀ p ∈ before, sp p.block = true) → DataW.TrodAll enc P W' 0 sp true f.params.toList args.toList (s.fn H (ds ++ gs)).args pa)
  (hvars : ∀ sp : Nat → Bool, (∀ p ∈ before, sp p.block = true) → DataW.TrodVars enc P W' sp s.vars (s.fn H (ds ++ gs)).vars pv)
  (hk : ∀ may, W.keptBut W' may) : s.post enc P f apart fresh handsOn false W args v W' := by
 have hold : ∀ p ∈ before, (fun b => decide (b < W.heap.size)) p.block = true := fun p hp => by simpa using hW.lt p hp
 exact ⟨ds, gs, before, [], pa, pv, hW, hres _ _ _, hargs _ hold, hvars _ hold, hk _, fun h => by cases h⟩
theorem A6q {v x : Value} (h : v.cells.toList = [x]) (hv : plain v = true) : v = x := by
 cases v <;> first | (simp [Value.cells] at h; exact h) | (simp [plain] at hv)
section
variable {H : Type} {enc : TypeId × Value → H} {P : Program} {w : World} {base : Nat} {spare : Nat → Bool} {held : Bool}
theorem B3V {α : Type} {f : α → List Value} {k : Nat} (hk : ∀ x, (f x).length = k) (hkp : 0 < k) {Q : α → Prop} {t e : TypeId} {fuel : Nat} {cs : List Value} {x : DataW H × List MemPlace}
  (ht : P.underlying t = some (.slice e)) (hc : P.cellsOf e = k) (h : DataW.trod enc P w base spare held fuel t cs = some x)
  (he : ∀ n cs' y, DataW.trod enc P w base spare held n e cs' = some y → ∃ a, cs' = f a ∧ Q a) :
  ∃ (v : Value) (l : List α), cs = [v] ∧ G1 w v l.length (l.flatMap f) ∧ (∀ a ∈ l, Q a) ∧ l.length ≤ maxLen := by
 rcases Go.Deep.open_slice ht h with ⟨rfl, _⟩ | ⟨a, len, cap, m, n, D, Pl, rfl, hb, hl, hm, hmm, _, hx⟩
 ·exact ⟨_, [], rfl, Or.inl ⟨rfl, rfl, none, 0, rfl⟩, by simp, by simp⟩
 have hlm : len ≤ m := by rw [hmm]; split <;> omega
 have hch : ∀ i : Fin len, ∃ a' : α, Q a' ∧ w.cells? base (a.add (i.1 * k)) k = some (f a') := by
  intro i
  obtain ⟨cs', h1, h2⟩ := hx i.1 (by omega)
  obtain ⟨a', rfl, hq⟩ := he _ _ _ h2
  rw [hc] at h1
  exact ⟨a', hq, h1⟩
 let g : Fin len → α := fun i => Classical.choose (hch i)
 have hg : ∀ i, Q (g i) ∧ w.cells? base (a.add (i.1 * k)) k = some (f (g i)) := fun i => Classical.choose_spec (hch i)
 refine ⟨_, List.ofFn g, rfl, ?_, ?_, by simp; omega⟩
 ·by_cases h0 : len = 0
  ·subst h0; exact Or.inl ⟨by simp, by simp, _, _, rfl⟩
  obtain ⟨b, o, spot⟩ := a
  have h1 := (World.cells?_some (hg ⟨0, by omega⟩).2).2.2 0 hkp
  have hfl := hk (g ⟨0, by omega⟩)
  rw [List.getElem?_eq_getElem (by omega)] at h1
  have hspot : spot = none := by simpa [Addr.add] using World.cell?_spot h1
  subst hspot
  refine Or.inr ⟨b, o, cap, by simp, fun i hi => ?_⟩
  rw [K6 hk] at hi
  simp only [List.length_ofFn] at hi
  have hd : i / k * k + i % k = i := by rw [Nat.mul_comm]; exact Nat.div_add_mod i k
  have hj : i % k < k := Nat.mod_lt _ hkp
  have hi' : i / k < len := by rw [Nat.div_lt_iff_lt_mul hkp]; exact hi
  have h2 := (World.cells?_some (hg ⟨i / k, hi'⟩).2).2.2 (i % k) hj
  rw [← hd, b8 hk _ _ _ hj, List.getElem?_ofFn, dif_pos hi']
  simp only [Option.bind_some]
  rw [← h2, U7, U7]
  simp only [Nat.add_assoc]
 ·intro a' ha'
  rw [List.mem_ofFn] at ha'
  obtain ⟨i, rfl⟩ := ha'
  exact (hg i).1
theorem U9 {t : TypeId} {k : IntKind} {fuel : Nat} {cs : List Value} {x : DataW H × List MemPlace} (ht : P.underlying t = some (.int k)) (h : DataW.trod enc P w base spare held fuel t cs = some x) :
  ∃ a : Int, cs = [.int k a] ∧ (Lit.int k a).wf = true := by
 obtain ⟨n, h1, _, h2⟩ := DataW.trod_int ht h
 exact ⟨n, h1, h2⟩
theorem A9G {α : Type} {f : α → List Value} {t e : TypeId} {Q : List α → Prop} {r : Reach} {b0 : Nat} {v : Value} {d : DataW H} {ps : List MemPlace} (ht : P.underlying t = some (.slice e)) (hval : Value.okWide P w r b0 t v) (hd : DataW.Trod enc P w base spare held t v d ps)
  (h : ∀ fuel cs x, DataW.trod enc P w base spare held fuel t cs = some x → ∃ (v : Value) (l : List α), cs = [v] ∧ G1 w v l.length (l.flatMap f) ∧ Q l) : ∃ l : List α, G1 w v l.length (l.flatMap f) ∧ Q l := by
 obtain ⟨a, len, cap, rfl⟩ := okWide_slice ht hval
 obtain ⟨fuel, hf⟩ := hd
 obtain ⟨v', l, h1, h2⟩ := h _ _ _ hf
 have : Value.slice a len cap = v' := A6q h1 rfl
 subst this
 exact ⟨l, h2⟩
end
theorem A6Q {H : Type} {enc : TypeId × Value → H} {P : Program} (hl : laidOutB P = true) {W W' : World} (hb : C3 [] W W') {sp : Nat → Bool} :
  ∀ {ts : List TypeId} {vs : List Value} {ds : List (DataW H)} {ps : List MemPlace}, (ts.all fun t => P.readableRec t && decide (t < P.types.size)) = true → DataW.TrodAll enc P W 0 (fun _ => true) true ts vs ds ps →
   (∀ p ∈ ps, p.block < W.heap.size) → (∀ p ∈ ps, sp p.block = true) → DataW.TrodAll enc P W' 0 sp true ts vs ds ps := by
 intro ts
 induction ts with
 | nil => intro vs ds ps _ h _ _; cases vs <;> cases ds <;> exact h
 | cons t ts ih =>
  intro vs ds ps ht h hlt hsp
  simp only [List.all_cons, Bool.and_eq_true, decide_eq_true_eq] at ht
  obtain ⟨v, vs', d, ds', p, q, rfl, rfl, rfl, h0, hr⟩ := trodAll_cons h
  refine ⟨p, q, WideElems.Trod_stays hl ht.1.1 ht.1.2 h0 (fun x hx => ?_) (fun x hx => hsp x (List.mem_append_left _ hx)),
   ih ht.2 hr (fun x hx => hlt x (List.mem_append_right _ hx)) (fun x hx => hsp x (List.mem_append_right _ hx)), rfl⟩
  have hlt' := hlt x (List.mem_append_left _ hx)
  have e1 : W.heap[x.block]? = some W.heap[x.block] := Array.getElem?_eq_getElem hlt'
  have e2 : W'.heap[x.block]? = some W.heap[x.block] := hb.2 _ _ (by simp) e1
  cases x with
  | cell b o => show W'.cell? _ = W.cell? _; unfold World.cell?; rw [show W'.heap[b]? = W.heap[b]? from e2.trans e1.symm]
  | map b => exact e2.trans e1.symm
set_option maxRecDepth 10000
section
variable {H : Type} {enc : TypeId × Value → H} {w : World} {base : Nat} {spare : Nat → Bool} {held : Bool} {fuel : Nat} {cs : List Value} {x : DataW H × List MemPlace}
theorem B3J (h : DataW.trod enc PR w base spare held fuel 155 cs = some x) : ∃ a : E8, cs = G2 a ∧ True := by
 obtain ⟨xs, n, _, rfl, hl, hxl, hf⟩ := DataW.trod_struct A1c.und h
 have hl4 : cs.length = 2 := hl.trans (by kernel_rfl)
 have hx4 : xs.length = 2 := hxl.trans (by kernel_rfl)
 match cs, hl4 with
 | [c0, c1], _ =>
  have f0 := hf 0 _ rfl
  have f1 := hf 1 _ rfl
  rw [List.getElem?_eq_getElem (by omega)] at f0 f1
  obtain ⟨a0, e0, _⟩ := U9 Tryz.underlying3 f0
  obtain ⟨a1, e1, _⟩ := U9 Tryz.underlying3 f1
  have e0 : [c0] = [.int .i64 a0] := e0
  have e1 : [c1] = [.int .i64 a1] := e1
  cases e0; cases e1
  exact ⟨(a0, a1), rfl, trivial⟩
theorem B1g (h : DataW.trod enc PR w base spare held fuel 58 cs = some x) : ∃ (v : Value) (l : List E8), cs = [v] ∧ G1 w v l.length (l.flatMap G2) ∧ l.length ≤ maxLen := by
 obtain ⟨v, l, h1, h2, _, h3⟩ := B3V (f := G2) (k := 2) (Q := fun _ => True) (fun _ => rfl) (by omega) Tryz.underlying58 (by kernel_rfl) h (fun n cs' y hy => B3J hy)
 exact ⟨v, l, h1, h2, h3⟩
theorem A6v {r : Reach} {b0 : Nat} {v : Value} {d : DataW H} {ps : List MemPlace} (hval : Value.okWide PR w r b0 58 v) (hd : DataW.Trod enc PR w base spare held 58 v d ps) : ∃ l : List E8, G1 w v l.length (l.flatMap G2) ∧ l.length ≤ maxLen :=
 A9G Tryz.underlying58 hval hd fun _ _ _ h => B1g h
end
end Go.Proofs.YtjobgnabneddjaaGreat
namespace Go.Proofs.YtjobgnabneddjaaGreat
open Go
set_option maxRecDepth 100000
theorem jf2 : mapsRowed Tryz.prog = true := by kernel_rfl
theorem jf6 : (Program.stops Tryz.prog == []) = true := by kernel_rfl
theorem jf8 : (Program.stopKnobs Tryz.prog == []) = true := by kernel_rfl
theorem B74 : Program.stopsHeard Tryz.prog = true := by kernel_rfl
theorem B8Y : Program.mayEnter Tryz.prog = true := by kernel_rfl
end Go.Proofs.YtjobgnabneddjaaGreat
namespace Go.Proofs.YtjobgnabneddjaaGreat
open Go
def W2 (X : Nat → Prop) (t0 : Value) (R : Value → WP) : WP :=
 B5 PR X (Instr.box 23 t0) fun t1 =>
 A0 PR (Instr.fieldAt 23 t1 0) fun t3 =>
 A6 PR (Instr.loadAt 3 t3) fun t4 =>
 A0 PR (binOp .leq 3 t4 (.int .i64 6)) fun t5 =>
 gj t5 true (fun J => A0 PR (Instr.fieldAt 23 t1 1) J) fun t7 =>
 gj t5 true (fun J => A6 PR (Instr.loadAt 3 t7) J) fun t8 =>
 gj t5 true (fun J => A0 PR (binOp .leq 3 t8 (.int .i64 6)) J) fun t9 =>
 A0 PR (do pure (if ← asBool t5 then t9 else (.bool false))) fun t10 =>
 gj t10 true (fun J => A0 PR (Instr.fieldAt 23 t1 2) J) fun t12 =>
 gj t10 true (fun J => A6 PR (Instr.loadAt 3 t12) J) fun t13 =>
 gj t10 true (fun J => A0 PR (binOp .leq 3 t13 (.int .i64 12)) J) fun t14 =>
 A0 PR (do pure (if ← asBool t10 then t14 else (.bool false))) fun t15 =>
 R t15
theorem x4 : A8 PR 15 := A7 Tryz.func15 (by kernel_rfl) rfl
theorem A0D {X : Nat → Prop} {t0 : Value} {R : Value → WP} {w : World} (h : W2 X t0 R w) : Fn PR X 15 #[t0] w R := D1 (args := [t0]) mixed Tryz.func15 (by kernel_rfl) h
end Go.Proofs.YtjobgnabneddjaaGreat
namespace Go.Proofs.YtjobgnabneddjaaGreat
open Go
def A04 (c : CfgV) : Bool := decide (c.wk ≤ 6) && decide (c.sh ≤ 6) && decide (c.cp ≤ 12)
theorem B1v (w : World) (c : CfgV) : Fn PR B7 15 #[c.val] w (fun r w' => r = .bool (A04 c) ∧ C3 [] w w') := by
 refine Fn.pure (A0D (TW.go (κ := false) (S := []) ?_))
 unfold W2
 simp only [CfgV.val]
 by_cases c1 : c.wk ≤ 6
 ·by_cases c2 : c.sh ≤ 6
  ·(have zz:=trivial;repeat((first|clear zz|with_reducible first|refine A3 ?_|refine A5 fun _=>?_|refine A4 fun _=>?_);try simp(disch:=first|omega|assumption|((repeat(first|exact A1|exact uH|apply A2|apply uT));first|done|fail)|(simp;first|done|omega|fail))[c1, c2]))
   exact C1 (by simp [A04, c1, c2])
  ·(have zz:=trivial;repeat((first|clear zz|with_reducible first|refine A3 ?_|refine A5 fun _=>?_|refine A4 fun _=>?_);try simp(disch:=first|omega|assumption|((repeat(first|exact A1|exact uH|apply A2|apply uT));first|done|fail)|(simp;first|done|omega|fail))[c1, c2]))
   exact C1 (by simp [A04, c1, c2])
 ·(have zz:=trivial;repeat((first|clear zz|with_reducible first|refine A3 ?_|refine A5 fun _=>?_|refine A4 fun _=>?_);try simp(disch:=first|omega|assumption|((repeat(first|exact A1|exact uH|apply A2|apply uT));first|done|fail)|(simp;first|done|omega|fail))[c1]))
  exact C1 (by simp [A04, c1])
end Go.Proofs.YtjobgnabneddjaaGreat
namespace Go.Proofs.YtjobgnabneddjaaGreat
open Go Go.ChangeShapes Go.WideShapes Go.ChangeAt Go.RowKit
set_option maxRecDepth 10000
section
variable {H : Type} {enc : TypeId × Value → H} {w : World} {base : Nat} {spare : Nat → Bool} {held : Bool} {fuel : Nat} {cs : List Value} {x : DataW H × List MemPlace}
theorem B1G (h : DataW.trod enc PR w base spare held fuel 23 cs = some x) : ∃ c : CfgV, cs = [.int .i64 c.wk, .int .i64 c.sh, .int .i64 c.cp, .int .i64 c.idle, .int .i64 c.sl] ∧ True := by
 obtain ⟨xs, n, _, rfl, hl, hxl, hf⟩ := DataW.trod_struct A0k.und h
 have hl4 : cs.length = 5 := hl.trans (by kernel_rfl)
 have hx4 : xs.length = 5 := hxl.trans (by kernel_rfl)
 match cs, hl4 with
 | [c0, c1, c2, c3, c4], _ =>
  have f0 := hf 0 _ rfl
  have f1 := hf 1 _ rfl
  have f2 := hf 2 _ rfl
  have f3 := hf 3 _ rfl
  have f4 := hf 4 _ rfl
  rw [List.getElem?_eq_getElem (by omega)] at f0 f1 f2 f3 f4
  obtain ⟨a0, e0, _⟩ := U9 Tryz.underlying3 f0
  obtain ⟨a1, e1, _⟩ := U9 Tryz.underlying3 f1
  obtain ⟨a2, e2, _⟩ := U9 Tryz.underlying3 f2
  obtain ⟨a3, e3, _⟩ := U9 Tryz.underlying3 f3
  obtain ⟨a4, e4, _⟩ := U9 Tryz.underlying3 f4
  have e0 : [c0] = [.int .i64 a0] := e0
  have e1 : [c1] = [.int .i64 a1] := e1
  have e2 : [c2] = [.int .i64 a2] := e2
  have e3 : [c3] = [.int .i64 a3] := e3
  have e4 : [c4] = [.int .i64 a4] := e4
  cases e0; cases e1; cases e2; cases e3; cases e4
  exact ⟨⟨a0, a1, a2, a3, a4⟩, rfl, trivial⟩
theorem B4z {v : Value} {cs : Array Value} {l : List Value} (hv : v = .agg cs) (h : v.cells.toList = l) : v = .agg l.toArray := by
 subst hv
 have : cs.toList = l := h
 rw [← this]
theorem A6m {r : Reach} {b0 : Nat} {v : Value} {d : DataW H} {ps : List MemPlace} (hval : Value.okWide PR w r b0 23 v) (hd : DataW.Trod enc PR w base spare held 23 v d ps) : ∃ c : CfgV, v = c.val := by
 obtain ⟨cs, e, _⟩ := okWide_struct A0k.und hval
 obtain ⟨fuel, hf⟩ := hd
 obtain ⟨c, h, _⟩ := B1G hf
 exact ⟨c, B4z e h⟩
end
end Go.Proofs.YtjobgnabneddjaaGreat
namespace Go.Proofs.YtjobgnabneddjaaGreat
open Go
def Q7 (X : Nat → Prop) (t0 t1 t2 t3 : Value) (R : Value → WP) : WP :=
 B5 PR X (Instr.box 23 t0) fun t4 =>
 B6 PR X 28 [] fun t17 =>
 jn (n := 1) (fun t8 =>
 A6 PR (Instr.loadAt 23 t4) fun t20 =>
 B6 PR X 15 [t20] fun t21 =>
 jn (n := 1) (fun t8_1 =>
 A6 PR (Instr.loadAt 23 t4) fun t44 =>
 B6 PR X 16 [t44] fun t45 =>
 A0 PR (Instr.extract t45 0) fun t46 =>
 A0 PR (Instr.extract t45 1) fun t47 =>
 jn (n := 1) (fun t8_2 =>
 jn (n := 1) (fun t8_3 =>
 jn (n := 2) (fun t8_4 t13 =>
 R t17) fun J1 =>
 lp (n := 2) (fun L2 t8_5 t13_1 =>
 jn (n := 0) (
 jn (n := 1) (fun t8_6 =>
 A0 PR (binOp .add 3 t13_1 (.int .i64 1)) fun t62 =>
 L2 t8_6 t62) fun J3 =>
 A0 PR (Instr.build 64 #[(0, (.int .i64 1)), (2, t1)]) fun t64 =>
 B6 PR X 32 [(.int .i64 0), t64] fun t65 =>
 jn (n := 1) (fun t8_7 =>
 B6 PR X 33 [t65, t46] fun t70 =>
 drw <|
 A0 PR (B3 t46) fun t73 =>
 A0 PR (Instr.fieldAt 39 t73 2) fun t74 =>
 A6 PR (Instr.loadAt 34 t74) fun t75 =>
 A0 PR (B3 t46) fun t77 =>
 A0 PR (Instr.fieldAt 39 t77 1) fun t78 =>
 A6 PR (Instr.loadAt 33 t78) fun t79 =>
 B6 PR X 35 [t79, (.int .i64 1)] fun t80 =>
 watch PR [(none, (Instr.loadAt 34 t74), t75)] <|
 A0 PR (binOp .sub 3 t80 (.int .i64 1)) fun t81 =>
 B6 PR X 48 [t75, t81, t3] fun t83 =>
 A0 PR (Instr.extract t83 0) fun t84 =>
 A0 PR (Instr.extract t83 1) fun t85 =>
 A0 PR (Op.unary .not t85) fun t87 =>
 gj t87 false (fun J => J t84) fun t89 =>
 gj t87 false (fun J => J t1) fun t90 =>
 gj t87 false (fun J => J t3) fun t91 =>
 gj t87 false (fun J => B6 PR X 49 [t90, t91] J) fun t92 =>
 gj t87 false (fun J => A0 PR (binOp .neq 3 t89 t92) J) fun t93 =>
 A0 PR (do pure (if ← asBool t87 then (.bool true) else t93)) fun t94 =>
 gj t94 false (fun J => J t65) fun t96 =>
 gj t94 false (fun J => B6 PR X 34 [t96] J) fun t97 =>
 gj t94 false (fun J => A0 PR (Instr.build 55 #[]) J) fun t98 =>
 gj t94 false (fun J => A6 PR (F4 .neq 55 (.tmp 97) (.tmp 98) t97 t98) J) fun t99 =>
 A0 PR (do pure (if ← asBool t94 then (.bool true) else t99)) fun t100 =>
 gj t100 false (fun J => J t46) fun t102 =>
 gj t100 false (fun J => A0 PR (B3 t102) J) fun t103 =>
 gj t100 false (fun J => A0 PR (Instr.fieldAt 39 t103 1) J) fun t104 =>
 gj t100 false (fun J => A6 PR (Instr.loadAt 33 t104) J) fun t105 =>
 gj t100 false (fun J => B6 PR X 35 [t105, (.int .i64 0)] J) fun t106 =>
 gj t100 false (fun J => J t13_1) fun t107 =>
 gj t100 false (fun J => A0 PR (binOp .add 3 t107 (.int .i64 1)) J) fun t108 =>
 gj t100 false (fun J => A0 PR (binOp .neq 3 t106 t108) J) fun t109 =>
 A0 PR (do pure (if ← asBool t100 then (.bool true) else t109)) fun t110 =>
 C8 t110 (
 R (.bool false)) (
 J3 t8_7)) fun J4 =>
 A6 PR (F4 .eql 61 (.tmp 66) (.const (.pointer none)) t65 (.pointer none)) fun t67 =>
 C8 t67 (
 R (.bool false)) (
 J4 t8_5)) fun J5 =>
 A0 PR (binOp .lss 3 t13_1 t2) fun t60 =>
 C8 t60 (
 J5) (
 J1 t8_5 t13_1)) t8_3 (.int .i64 0)) fun J6 =>
 B6 PR X 30 [t46] fun t56 =>
 A0 PR (Op.unary .not t56) fun t57 =>
 C8 t57 (
 R (.bool false)) (
 J6 t8_2)) fun J7 =>
 A0 PR (binOp .neq 27 t47 (.int .i64 0)) fun t49 =>
 C8 t49 (
 gj t17 true (fun J => J t46) fun t52 =>
 gj t17 true (fun J => A6 PR (F4 .eql 26 (.tmp 52) (.const (.pointer none)) t52 (.pointer none)) J) fun t53 =>
 A0 PR (do pure (if ← asBool t17 then t53 else (.bool false))) fun t54 =>
 R t54) (
 J7 t8_1)) fun J8 =>
 A0 PR (Op.unary .not t21) fun t23 =>
 gj t23 false (fun J => J t1) fun t25 =>
 gj t23 false (fun J => A0 PR (A9 .len #[58] 0 [t25]) J) fun t26 =>
 gj t23 false (fun J => A0 PR (binOp .gtr 3 t26 (.int .i64 8)) J) fun t27 =>
 A0 PR (do pure (if ← asBool t23 then (.bool true) else t27)) fun t28 =>
 gj t28 false (fun J => J t1) fun t30 =>
 gj t28 false (fun J => B6 PR X 29 [t30] J) fun t31 =>
 gj t28 false (fun J => A0 PR (binOp .neq 27 t31 (.int .i64 0)) J) fun t32 =>
 A0 PR (do pure (if ← asBool t28 then (.bool true) else t32)) fun t33 =>
 gj t33 false (fun J => J t2) fun t35 =>
 gj t33 false (fun J => A0 PR (binOp .lss 3 t35 (.int .i64 1)) J) fun t36 =>
 A0 PR (do pure (if ← asBool t33 then (.bool true) else t36)) fun t37 =>
 gj t37 false (fun J => J t2) fun t39 =>
 gj t37 false (fun J => A0 PR (binOp .gtr 3 t39 (.int .i64 12)) J) fun t40 =>
 A0 PR (do pure (if ← asBool t37 then (.bool true) else t40)) fun t41 =>
 C8 t41 (
 R t17) (
 J8 t8)) fun J9 =>
 A0 PR (Op.unary .not t17) fun t19 =>
 C8 t19 (
 R (.bool false)) (
 J9 (.bool false))
theorem l2 {X : Nat → Prop} {t0 t1 t2 t3 : Value} {R : Value → WP} {w : World} (h : Q7 X t0 t1 t2 t3 R w) : Fn PR X 7 #[t0, t1, t2, t3] w R := D1 (args := [t0, t1, t2, t3]) mixed Tryz.func7 (by kernel_rfl) h
end Go.Proofs.YtjobgnabneddjaaGreat
namespace Go.Proofs.YtjobgnabneddjaaGreat
open Go
end Go.Proofs.YtjobgnabneddjaaGreat
namespace Go.Proofs.YtjobgnabneddjaaGreat
open Go
def W0 (X : Nat → Prop) (R : Value → WP) : WP :=
 A0 PR (Instr.build 23 #[(0, (.int .i64 1)), (1, (.int .i64 1)), (2, (.int .i64 1)), (3, (.int .i64 5)), (4, (.int .i64 2))]) fun t8 =>
 B6 PR X 16 [t8] fun t9 =>
 A0 PR (Instr.extract t9 0) fun t10 =>
 A0 PR (Instr.extract t9 1) fun t11 =>
 A0 PR (Instr.build 155 #[(0, (.int .i64 7)), (1, (.int .i64 1))]) fun t12 =>
 B5 PR X (Instr.buildSlice 58 1 #[(0, t12)]) fun t13 =>
 A0 PR (Instr.build 64 #[(0, (.int .i64 1)), (2, t13)]) fun t14 =>
 B6 PR X 32 [(.int .i64 0), t14] fun t15 =>
 A0 PR (Instr.build 64 #[(0, (.int .i64 1))]) fun t16 =>
 B6 PR X 32 [(.int .i64 1), t16] fun t17 =>
 jn (n := 1) (fun t0 =>
 jn (n := 1) (fun t5 =>
 B6 PR X 36 [t17, t10] fun t42 =>
 B5 PR X (Instr.alloc 42 true (.tuple #[])) fun t6 =>
 D9 PR X (Instr.storeAt 42 t6 t42) <|
 A0 PR (binOp .eql 3 t5 (.int .i64 6)) fun t44 =>
 gj t44 true (fun J => J t15) fun t46 =>
 gj t44 true (fun J => B6 PR X 34 [t46] J) fun t47 =>
 gj t44 true (fun J => A0 PR (Instr.build 55 #[]) J) fun t48 =>
 gj t44 true (fun J => A6 PR (F4 .eql 55 (.tmp 47) (.tmp 48) t47 t48) J) fun t49 =>
 A0 PR (do pure (if ← asBool t44 then t49 else (.bool false))) fun t50 =>
 gj t50 true (fun J => J t15) fun t52 =>
 gj t50 true (fun J => B6 PR X 38 [t52] J) fun t53 =>
 gj t50 true (fun J => A0 PR (binOp .eql 3 t53 (.int .i64 (-1))) J) fun t54 =>
 A0 PR (do pure (if ← asBool t50 then t54 else (.bool false))) fun t55 =>
 gj t55 true (fun J => A6 PR (Instr.loadAt 42 t6) J) fun t57 =>
 gj t55 true (fun J => A0 PR (Instr.build 42 #[(0, (.bool true)), (1, (.bool true))]) J) fun t58 =>
 gj t55 true (fun J => A6 PR (F4 .eql 42 (.tmp 57) (.tmp 58) t57 t58) J) fun t59 =>
 A0 PR (do pure (if ← asBool t55 then t59 else (.bool false))) fun t60 =>
 gj t60 true (fun J => J t17) fun t62 =>
 gj t60 true (fun J => B6 PR X 34 [t62] J) fun t63 =>
 gj t60 true (fun J => A0 PR (Instr.build 55 #[(0, (.int .i64 1))]) J) fun t64 =>
 gj t60 true (fun J => A6 PR (F4 .eql 55 (.tmp 63) (.tmp 64) t63 t64) J) fun t65 =>
 A0 PR (do pure (if ← asBool t60 then t65 else (.bool false))) fun t66 =>
 gj t66 true (fun J => J t17) fun t68 =>
 gj t66 true (fun J => J t10) fun t69 =>
 gj t66 true (fun J => B6 PR X 39 [t68, t69] J) fun t70 =>
 gj t66 true (fun J => A0 PR (Op.unary .not t70) J) fun t71 =>
 A0 PR (do pure (if ← asBool t66 then t71 else (.bool false))) fun t72 =>
 R t72) fun J1 =>
 lp (n := 1) (fun L2 t5_1 =>
 jn (n := 0) (
 B6 PR X 36 [t15, t10] fun t37 =>
 A0 PR (binOp .add 3 t5_1 (.int .i64 1)) fun t39 =>
 L2 t39) fun J3 =>
 A0 PR (binOp .lss 3 t5_1 (.int .i64 20)) fun t29 =>
 gj t29 true (fun J => J t15) fun t31 =>
 gj t29 true (fun J => J t10) fun t32 =>
 gj t29 true (fun J => B6 PR X 39 [t31, t32] J) fun t33 =>
 A0 PR (do pure (if ← asBool t29 then t33 else (.bool false))) fun t34 =>
 C8 t34 (
 J3) (
 J1 t5_1)) (.int .i64 0)) fun J4 =>
 A6 PR (F4 .eql 26 (.tmp 18) (.const (.pointer none)) t10 (.pointer none)) fun t19 =>
 gj t19 false (fun J => J t15) fun t21 =>
 gj t19 false (fun J => A6 PR (F4 .eql 61 (.tmp 21) (.const (.pointer none)) t21 (.pointer none)) J) fun t22 =>
 A0 PR (do pure (if ← asBool t19 then (.bool true) else t22)) fun t23 =>
 gj t23 false (fun J => J t17) fun t25 =>
 gj t23 false (fun J => A6 PR (F4 .eql 61 (.tmp 25) (.const (.pointer none)) t25 (.pointer none)) J) fun t26 =>
 A0 PR (do pure (if ← asBool t23 then (.bool true) else t26)) fun t27 =>
 C8 t27 (
 R (.bool false)) (
 J4 (.bool false))
theorem x9 : A8 PR 28 := A7 Tryz.func28 (by kernel_rfl) rfl
theorem A0C {X : Nat → Prop} {R : Value → WP} {w : World} (h : W0 X R w) : Fn PR X 28 #[] w R := D1 (args := []) mixed Tryz.func28 (by kernel_rfl) h
def W4 (X : Nat → Prop) (t0 : Value) (R : Value → WP) : WP :=
 A6 PR (F4 .neq 26 (.tmp 3) (.const (.pointer none)) t0 (.pointer none)) fun t4 =>
 gj t4 true (fun J => J t0) fun t6 =>
 gj t4 true (fun J => A0 PR (B3 t6) J) fun t7 =>
 gj t4 true (fun J => A0 PR (Instr.fieldAt 39 t7 1) J) fun t8 =>
 gj t4 true (fun J => A6 PR (Instr.loadAt 33 t8) J) fun t9 =>
 gj t4 true (fun J => A6 PR (F4 .neq 33 (.tmp 9) (.const (.pointer none)) t9 (.pointer none)) J) fun t10 =>
 A0 PR (do pure (if ← asBool t4 then t10 else (.bool false))) fun t11 =>
 gj t11 true (fun J => J t0) fun t13 =>
 gj t11 true (fun J => A0 PR (B3 t13) J) fun t14 =>
 gj t11 true (fun J => A0 PR (Instr.fieldAt 39 t14 2) J) fun t15 =>
 gj t11 true (fun J => A6 PR (Instr.loadAt 34 t15) J) fun t16 =>
 gj t11 true (fun J => A6 PR (F4 .neq 34 (.tmp 16) (.const (.pointer none)) t16 (.pointer none)) J) fun t17 =>
 A0 PR (do pure (if ← asBool t11 then t17 else (.bool false))) fun t18 =>
 gj t18 true (fun J => J t0) fun t20 =>
 gj t18 true (fun J => A0 PR (B3 t20) J) fun t21 =>
 gj t18 true (fun J => A0 PR (Instr.fieldAt 39 t21 3) J) fun t22 =>
 gj t18 true (fun J => A6 PR (Instr.loadAt 35 t22) J) fun t23 =>
 gj t18 true (fun J => A6 PR (F4 .neq 35 (.tmp 23) (.const (.pointer none)) t23 (.pointer none)) J) fun t24 =>
 A0 PR (do pure (if ← asBool t18 then t24 else (.bool false))) fun t25 =>
 R t25
theorem w7 : A8 PR 30 := A7 Tryz.func30 (by kernel_rfl) rfl
theorem A0A {X : Nat → Prop} {t0 : Value} {R : Value → WP} {w : World} (h : W4 X t0 R w) : Fn PR X 30 #[t0] w R := D1 (args := [t0]) mixed Tryz.func30 (by kernel_rfl) h
def d8 (X : Nat → Prop) (t0 t1 : Value) (R : Value → WP) : WP :=
 jn (n := 3) (fun t7 t8 t9 =>
 R (.tuple #[t7, t8, t9])) fun J1 =>
 lp (n := 3) (fun L2 t7_1 t8_1 t9_1 =>
 jn (n := 0) (
 B6 PR X 36 [t0, t1] fun t20 =>
 B5 PR X (Instr.alloc 42 true (.tuple #[])) fun t10 =>
 D9 PR X (Instr.storeAt 42 t10 t20) <|
 A0 PR (binOp .add 3 t7_1 (.int .i64 1)) fun t22 =>
 jn (n := 1) (fun t8_2 =>
 A0 PR (Instr.fieldAt 42 t10 2) fun t27 =>
 A6 PR (Instr.loadAt 4 t27) fun t28 =>
 C8 t28 (
 A0 PR (binOp .add 3 t9_1 (.int .i64 1)) fun t30 =>
 L2 t22 t8_2 t30) (
 L2 t22 t8_2 t9_1)) fun J3 =>
 A0 PR (Instr.fieldAt 42 t10 0) fun t23 =>
 A6 PR (Instr.loadAt 4 t23) fun t24 =>
 C8 t24 (
 A0 PR (binOp .add 3 t8_1 (.int .i64 1)) fun t26 =>
 J3 t26) (
 J3 t8_1)) fun J4 =>
 A0 PR (binOp .lss 3 t7_1 (.int .i64 200)) fun t12 =>
 gj t12 true (fun J => J t0) fun t14 =>
 gj t12 true (fun J => J t1) fun t15 =>
 gj t12 true (fun J => B6 PR X 39 [t14, t15] J) fun t16 =>
 A0 PR (do pure (if ← asBool t12 then t16 else (.bool false))) fun t17 =>
 C8 t17 (
 J4) (
 J1 t7_1 t8_1 t9_1)) (.int .i64 0) (.int .i64 0) (.int .i64 0)
theorem A0s : A8 PR 33 := A7 Tryz.func33 (by kernel_rfl) rfl
theorem A1D {X : Nat → Prop} {t0 t1 : Value} {R : Value → WP} {w : World} (h : d8 X t0 t1 R w) : Fn PR X 33 #[t0, t1] w R := D1 (args := [t0, t1]) mixed Tryz.func33 (by kernel_rfl) h
end Go.Proofs.YtjobgnabneddjaaGreat
namespace Go.Proofs.YtjobgnabneddjaaGreat
open Go
def A1H (X : Nat → Prop) (t0 t1 : Value) (R : Value → WP) : WP :=
 B5 PR X (Instr.box 64 t1) fun t3 =>
 A0 PR (Instr.build 160 #[(0, t0)]) fun t7 =>
 B5 PR X (Instr.alloc 160 true (.tuple #[])) fun t5 =>
 D9 PR X (Instr.storeAt 160 t5 t7) <|
 jn (n := 1) (fun t4 =>
 A6 PR (Instr.loadAt 160 t5) fun t38 =>
 A0 PR (Instr.build 175 #[(0, t38)]) fun t39 =>
 B5 PR X (Instr.box 175 t39) fun t40 =>
 A0 PR (Instr.makeInterface 174 t40) fun t41 =>
 A0 PR (Instr.build 167 #[(0, t41)]) fun t42 =>
 B5 PR X (Instr.box 167 t42) fun t43 =>
 R t43) fun J1 =>
 A0 PR (Instr.fieldAt 64 t3 0) fun t8 =>
 A6 PR (Instr.loadAt 3 t8) fun t9 =>
 A0 PR (binOp .eql 3 t9 (.int .i64 1)) fun t11 =>
 C8 t11 (
 A6 PR (Instr.loadAt 160 t5) fun t12 =>
 A0 PR (Instr.fieldAt 64 t3 2) fun t13 =>
 A6 PR (Instr.loadAt 58 t13) fun t14 =>
 A0 PR (Instr.build 163 #[(0, t12), (1, t14)]) fun t15 =>
 B5 PR X (Instr.box 163 t15) fun t16 =>
 A0 PR (Instr.makeInterface 161 t16) fun t17 =>
 A0 PR (Instr.build 167 #[(0, t17)]) fun t18 =>
 B5 PR X (Instr.box 167 t18) fun t19 =>
 R t19) (
 A0 PR (binOp .eql 3 t9 (.int .i64 2)) fun t21 =>
 C8 t21 (
 A6 PR (Instr.loadAt 160 t5) fun t22 =>
 A0 PR (Instr.fieldAt 64 t3 3) fun t23 =>
 A6 PR (Instr.loadAt 3 t23) fun t24 =>
 A0 PR (Instr.build 170 #[(0, t22), (1, t24)]) fun t25 =>
 B5 PR X (Instr.box 170 t25) fun t26 =>
 A0 PR (Instr.makeInterface 168 t26) fun t27 =>
 A0 PR (Instr.build 167 #[(0, t27)]) fun t28 =>
 B5 PR X (Instr.box 167 t28) fun t29 =>
 R t29) (
 A0 PR (binOp .eql 3 t9 (.int .i64 3)) fun t31 =>
 C8 t31 (
 A6 PR (Instr.loadAt 160 t5) fun t32 =>
 A0 PR (Instr.build 173 #[(0, t32)]) fun t33 =>
 B5 PR X (Instr.box 173 t33) fun t34 =>
 A0 PR (Instr.makeInterface 171 t34) fun t35 =>
 A0 PR (Instr.build 167 #[(0, t35)]) fun t36 =>
 B5 PR X (Instr.box 167 t36) fun t37 =>
 R t37) (
 J1 (.pointer none))))
theorem j0 : A8 PR 32 := A7 Tryz.func32 (by kernel_rfl) rfl
theorem A5k {X : Nat → Prop} {t0 t1 : Value} {R : Value → WP} {w : World} (h : A1H X t0 t1 R w) : Fn PR X 32 #[t0, t1] w R := D1 (args := [t0, t1]) mixed Tryz.func32 (by kernel_rfl) h
def c6 (X : Nat → Prop) (t0 : Value) (R : Value → WP) : WP :=
 B5 PR X (Instr.alloc 55 true (.tuple #[])) fun t2 =>
 A0 PR (B3 t0) fun t4 =>
 A0 PR (Instr.fieldAt 167 t4 0) fun t5 =>
 A6 PR (Instr.loadAt 165 t5) fun t6 =>
 inv PR X t6 "gangplank/control.common" [] fun t7 =>
 A0 PR (B3 t7) fun t8 =>
 A0 PR (Instr.fieldAt 160 t8 2) fun t9 =>
 A6 PR (Instr.loadAt 55 t9) fun t10 =>
 D9 PR X (Instr.storeAt 55 t2 t10) <|
 A6 PR (G7 [.c 55 t2]) R
theorem Q5 : A8 PR 34 := A7 Tryz.func34 (by kernel_rfl) rfl
theorem A1L {X : Nat → Prop} {t0 : Value} {R : Value → WP} {w : World} (h : c6 X t0 R w) : Fn PR X 34 #[t0] w R := D1 (args := [t0]) mixed Tryz.func34 (by kernel_rfl) h
def l7 (X : Nat → Prop) (t0 t1 : Value) (R : Value → WP) : WP :=
 B5 PR X (Instr.alloc 42 true (.tuple #[])) fun t4 =>
 jn (n := 0) (
 A0 PR (B3 t0) fun t11 =>
 A0 PR (Instr.fieldAt 167 t11 0) fun t12 =>
 A6 PR (Instr.loadAt 165 t12) fun t13 =>
 inv PR X t13 "gangplank/control.step" [t1] fun t15 =>
 D9 PR X (Instr.storeAt 42 t4 t15) <|
 A6 PR (G7 [.c 42 t4]) R) fun J1 =>
 B6 PR X 39 [t0, t1] fun t7 =>
 A0 PR (Op.unary .not t7) fun t8 =>
 C8 t8 (
 A0 PR (Instr.build 42 #[]) fun t9 =>
 D9 PR X (Instr.storeAt 42 t4 t9) <|
 A6 PR (G7 [.c 42 t4]) R) (
 J1)
theorem T0 : A8 PR 36 := A7 Tryz.func36 (by kernel_rfl) rfl
theorem A2Q {X : Nat → Prop} {t0 t1 : Value} {R : Value → WP} {w : World} (h : l7 X t0 t1 R w) : Fn PR X 36 #[t0, t1] w R := D1 (args := [t0, t1]) mixed Tryz.func36 (by kernel_rfl) h
def e9 (X : Nat → Prop) (t0 : Value) (R : Value → WP) : WP :=
 A0 PR (B3 t0) fun t4 =>
 A0 PR (Instr.fieldAt 167 t4 0) fun t5 =>
 A6 PR (Instr.loadAt 165 t5) fun t6 =>
 inv PR X t6 "gangplank/control.common" [] fun t7 =>
 A0 PR (B3 t7) fun t8 =>
 A0 PR (Instr.fieldAt 160 t8 1) fun t9 =>
 A6 PR (Instr.loadAt 3 t9) fun t10 =>
 R t10
theorem d4 : A8 PR 38 := A7 Tryz.func38 (by kernel_rfl) rfl
theorem A19 {X : Nat → Prop} {t0 : Value} {R : Value → WP} {w : World} (h : e9 X t0 R w) : Fn PR X 38 #[t0] w R := D1 (args := [t0]) mixed Tryz.func38 (by kernel_rfl) h
def j3 (X : Nat → Prop) (t0 t1 : Value) (R : Value → WP) : WP :=
 B6 PR X 38 [t0] fun t6 =>
 A0 PR (binOp .neq 3 t6 (.int .i64 (-1))) fun t7 =>
 gj t7 true (fun J => J t0) fun t9 =>
 gj t7 true (fun J => A0 PR (B3 t9) J) fun t10 =>
 gj t7 true (fun J => A0 PR (Instr.fieldAt 167 t10 0) J) fun t11 =>
 gj t7 true (fun J => A6 PR (Instr.loadAt 165 t11) J) fun t12 =>
 gj t7 true (fun J => J t1) fun t13 =>
 gj t7 true (fun J => inv PR X t12 "gangplank/control.waits" [t13] J) fun t14 =>
 gj t7 true (fun J => A0 PR (Op.unary .not t14) J) fun t15 =>
 A0 PR (do pure (if ← asBool t7 then t15 else (.bool false))) fun t16 =>
 R t16
theorem H9 : A8 PR 39 := A7 Tryz.func39 (by kernel_rfl) rfl
theorem A1d {X : Nat → Prop} {t0 t1 : Value} {R : Value → WP} {w : World} (h : j3 X t0 t1 R w) : Fn PR X 39 #[t0, t1] w R := D1 (args := [t0, t1]) mixed Tryz.func39 (by kernel_rfl) h
def V9 (X : Nat → Prop) (t0 : Value) (R : Value → WP) : WP :=
 jn (n := 1) (fun t2 =>
 A0 PR (B3 t0) fun t10 =>
 A0 PR (Instr.fieldAt 163 t10 1) fun t11 =>
 A6 PR (Instr.loadAt 58 t11) fun t12 =>
 B6 PR X 29 [t12] fun t13 =>
 R t13) fun J1 =>
 A0 PR (B3 t0) fun t4 =>
 A0 PR (Instr.fieldAt 163 t4 0) fun t5 =>
 A0 PR (Instr.fieldAt 160 t5 0) fun t6 =>
 A6 PR (Instr.loadAt 3 t6) fun t7 =>
 A0 PR (binOp .neq 3 t7 (.int .i64 0)) fun t8 =>
 C8 t8 (
 R (.int .i64 1)) (
 J1 (.int .i64 0))
theorem V0 : A8 PR 316 := A7 Tryz.func316 (by kernel_rfl) rfl
theorem A0F {X : Nat → Prop} {t0 : Value} {R : Value → WP} {w : World} (h : V9 X t0 R w) : Fn PR X 316 #[t0] w R := D1 (args := [t0]) mixed Tryz.func316 (by kernel_rfl) h
def Z4 (X : Nat → Prop) (t0 : Value) (R : Value → WP) : WP :=
 R t0
theorem A0n {X : Nat → Prop} {t0 : Value} {R : Value → WP} {w : World} (h : Z4 X t0 R w) : Fn PR X 317 #[t0] w R := D1 (args := [t0]) mixed Tryz.func317 (by kernel_rfl) h
def Y6 (X : Nat → Prop) (t0 t1 : Value) (R : Value → WP) : WP :=
 B5 PR X (Instr.alloc 42 true (.tuple #[])) fun t4 =>
 drw <|
 A0 PR (B3 t0) fun t9 =>
 A0 PR (Instr.fieldAt 163 t9 0) fun t10 =>
 A0 PR (Instr.fieldAt 160 t10 1) fun t11 =>
 A6 PR (Instr.loadAt 3 t11) fun t12 =>
 A0 PR (B3 t1) fun t14 =>
 A0 PR (Instr.fieldAt 39 t14 0) fun t15 =>
 A0 PR (Instr.fieldAt 23 t15 0) fun t16 =>
 A6 PR (Instr.loadAt 3 t16) fun t17 =>
 A0 PR (binOp .sub 3 t12 t17) fun t18 =>
 jn (n := 0) (
 A0 PR (B3 t0) fun t76 =>
 A0 PR (Instr.fieldAt 163 t76 0) fun t77 =>
 A0 PR (Instr.fieldAt 160 t77 1) fun t78 =>
 A6 PR (Instr.loadAt 3 t78) fun t79 =>
 A0 PR (binOp .add 3 t79 (.int .i64 1)) fun t80 =>
 A0 PR (B3 t0) fun t81 =>
 A0 PR (Instr.fieldAt 163 t81 0) fun t82 =>
 A0 PR (Instr.fieldAt 160 t82 1) fun t83 =>
 D9 PR X (Instr.storeAt 3 t83 t80) <|
 jn (n := 0) (
 A0 PR (Instr.build 42 #[]) fun t148 =>
 D9 PR X (Instr.storeAt 42 t4 t148) <|
 A6 PR (G7 [.c 42 t4]) R) fun J1 =>
 A0 PR (binOp .eql 3 t18 (.int .i64 1)) fun t111 =>
 C8 t111 (
 drw <|
 A0 PR (B3 t1) fun t113 =>
 A0 PR (Instr.fieldAt 39 t113 2) fun t114 =>
 A6 PR (Instr.loadAt 34 t114) fun t115 =>
 A0 PR (B3 t0) fun t117 =>
 A0 PR (Instr.fieldAt 163 t117 3) fun t118 =>
 A6 PR (Instr.loadAt 3 t118) fun t119 =>
 A0 PR (B3 t0) fun t121 =>
 A0 PR (Instr.fieldAt 163 t121 1) fun t122 =>
 A6 PR (Instr.loadAt 58 t122) fun t123 =>
 B6 PR X 95 [t115, t119, t123] fun t124 =>
 J1) (
 A0 PR (binOp .eql 3 t18 (.int .i64 2)) fun t126 =>
 C8 t126 (
 A0 PR (B3 t1) fun t129 =>
 A0 PR (Instr.fieldAt 39 t129 1) fun t130 =>
 A6 PR (Instr.loadAt 33 t130) fun t131 =>
 B6 PR X 35 [t131, (.int .i64 1)] fun t132 =>
 A0 PR (B3 t0) fun t133 =>
 A0 PR (Instr.fieldAt 163 t133 4) fun t134 =>
 D9 PR X (Instr.storeAt 3 t134 t132) <|
 J1) (
 A0 PR (binOp .eql 3 t18 (.int .i64 3)) fun t136 =>
 C8 t136 (
 drw <|
 A0 PR (B3 t1) fun t138 =>
 A0 PR (Instr.fieldAt 39 t138 1) fun t139 =>
 A6 PR (Instr.loadAt 33 t139) fun t140 =>
 A0 PR (B3 t0) fun t142 =>
 A0 PR (Instr.fieldAt 163 t142 3) fun t143 =>
 A6 PR (Instr.loadAt 3 t143) fun t144 =>
 A0 PR (binOp .add 3 t144 (.int .i64 1)) fun t145 =>
 B6 PR X 31 [t140, (.int .i64 1), t145] fun t146 =>
 A0 PR (Instr.build 42 #[(0, (.bool true))]) fun t147 =>
 D9 PR X (Instr.storeAt 42 t4 t147) <|
 A6 PR (G7 [.c 42 t4]) R) (
 jn (n := 0) (
 A0 PR (B3 t0) fun t107 =>
 A0 PR (Instr.fieldAt 163 t107 0) fun t108 =>
 B6 PR X 323 [t108] fun t109 =>
 D9 PR X (Instr.storeAt 42 t4 t109) <|
 A6 PR (G7 [.c 42 t4]) R) fun J2 =>
 A0 PR (B3 t1) fun t86 =>
 A0 PR (Instr.fieldAt 39 t86 1) fun t87 =>
 A6 PR (Instr.loadAt 33 t87) fun t88 =>
 B6 PR X 93 [t88, (.int .i64 0), (.int .i64 1)] fun t89 =>
 A0 PR (B3 t0) fun t91 =>
 A0 PR (Instr.fieldAt 163 t91 4) fun t92 =>
 A6 PR (Instr.loadAt 3 t92) fun t93 =>
 A0 PR (binOp .gtr 3 t93 (.int .i64 0)) fun t94 =>
 C8 t94 (
 drw <|
 A0 PR (B3 t1) fun t96 =>
 A0 PR (Instr.fieldAt 39 t96 3) fun t97 =>
 A6 PR (Instr.loadAt 35 t97) fun t98 =>
 A0 PR (B3 t0) fun t100 =>
 A0 PR (Instr.fieldAt 163 t100 4) fun t101 =>
 A6 PR (Instr.loadAt 3 t101) fun t102 =>
 A0 PR (binOp .sub 3 t102 (.int .i64 1)) fun t103 =>
 B6 PR X 322 [t98, t103, t89] fun t105 =>
 J2) (
 J2))))) fun J3 =>
 jn (n := 0) (
 jn (n := 0) (
 J3) fun J4 =>
 B6 PR X 321 [t0, t1] fun t74 =>
 D9 PR X (Instr.storeAt 42 t4 t74) <|
 A6 PR (G7 [.c 42 t4]) R) fun J5 =>
 jn (n := 0) (
 jn (n := 0) (
 J3) fun J6 =>
 A0 PR (B3 t0) fun t42 =>
 A0 PR (Instr.fieldAt 163 t42 0) fun t43 =>
 A0 PR (Instr.fieldAt 160 t43 1) fun t44 =>
 A6 PR (Instr.loadAt 3 t44) fun t45 =>
 A0 PR (binOp .add 3 t45 (.int .i64 1)) fun t46 =>
 A0 PR (B3 t0) fun t47 =>
 A0 PR (Instr.fieldAt 163 t47 0) fun t48 =>
 A0 PR (Instr.fieldAt 160 t48 1) fun t49 =>
 D9 PR X (Instr.storeAt 3 t49 t46) <|
 drw <|
 A0 PR (B3 t0) fun t52 =>
 A0 PR (Instr.fieldAt 163 t52 2) fun t53 =>
 A6 PR (Instr.loadAt 37 t53) fun t54 =>
 A0 PR (B3 t1) fun t56 =>
 A0 PR (Instr.fieldAt 39 t56 1) fun t57 =>
 A6 PR (Instr.loadAt 33 t57) fun t58 =>
 A0 PR (B3 t0) fun t61 =>
 A0 PR (Instr.fieldAt 163 t61 0) fun t62 =>
 A0 PR (Instr.fieldAt 160 t62 1) fun t63 =>
 A6 PR (Instr.loadAt 3 t63) fun t64 =>
 B6 PR X 57 [t1, t64] fun t65 =>
 watch PR [(none, (Instr.loadAt 33 t57), t58), (none, (Instr.loadAt 37 t53), t54)] <|
 B6 PR X 35 [t58, t65] fun t66 =>
 watch PR [(none, (Instr.loadAt 37 t53), t54)] <|
 B5 PR X (Instr.buildSlice 37 1 #[(0, t66)]) fun t67 =>
 watch PR [(none, (Instr.loadAt 37 t53), t54)] <|
 B5 PR X (A9 .append #[37, 37] 37 [t54, t67]) fun t68 =>
 A0 PR (B3 t0) fun t69 =>
 A0 PR (Instr.fieldAt 163 t69 2) fun t70 =>
 D9 PR X (Instr.storeAt 37 t70 t68) <|
 A0 PR (Instr.build 42 #[]) fun t71 =>
 D9 PR X (Instr.storeAt 42 t4 t71) <|
 A6 PR (G7 [.c 42 t4]) R) fun J7 =>
 jn (n := 0) (
 B6 PR X 316 [t0] fun t33 =>
 A0 PR (binOp .neq 27 t33 (.int .i64 0)) fun t35 =>
 C8 t35 (
 A0 PR (B3 t0) fun t37 =>
 A0 PR (Instr.fieldAt 163 t37 0) fun t38 =>
 B6 PR X 320 [t38, t33] fun t40 =>
 D9 PR X (Instr.storeAt 42 t4 t40) <|
 A6 PR (G7 [.c 42 t4]) R) (
 J7)) fun J8 =>
 jn (n := 0) (
 J3) fun J9 =>
 jn (n := 0) (
 jn (n := 0) (
 A0 PR (binOp .eql 3 t18 (.int .i64 0)) fun t31 =>
 C8 t31 (
 J5) (
 J9)) fun J10 =>
 A0 PR (binOp .lss 3 t18 (.int .i64 0)) fun t28 =>
 C8 t28 (
 J7) (
 J10)) fun J11 =>
 A0 PR (B3 t0) fun t21 =>
 A0 PR (Instr.fieldAt 163 t21 0) fun t22 =>
 A0 PR (Instr.fieldAt 160 t22 1) fun t23 =>
 A6 PR (Instr.loadAt 3 t23) fun t24 =>
 A0 PR (binOp .eql 3 t24 (.int .i64 0)) fun t25 =>
 C8 t25 (
 J8) (
 J11)
theorem A0e {X : Nat → Prop} {t0 t1 : Value} {R : Value → WP} {w : World} (h : Y6 X t0 t1 R w) : Fn PR X 318 #[t0, t1] w R := D1 (args := [t0, t1]) mixed Tryz.func318 (by kernel_rfl) h
def W3 (X : Nat → Prop) (t0 t1 : Value) (R : Value → WP) : WP :=
 R (.bool false)
theorem A0H {X : Nat → Prop} {t0 t1 : Value} {R : Value → WP} {w : World} (h : W3 X t0 t1 R w) : Fn PR X 319 #[t0, t1] w R := D1 (args := [t0, t1]) mixed Tryz.func319 (by kernel_rfl) h
def Y9 (X : Nat → Prop) (t0 t1 : Value) (R : Value → WP) : WP :=
 B5 PR X (Instr.alloc 42 true (.tuple #[])) fun t4 =>
 A0 PR (Instr.build 55 #[(0, t1)]) fun t8 =>
 A0 PR (B3 t0) fun t9 =>
 A0 PR (Instr.fieldAt 160 t9 1) fun t10 =>
 D9 PR X (Instr.storeAt 3 t10 (.int .i64 (-1))) <|
 A0 PR (B3 t0) fun t11 =>
 A0 PR (Instr.fieldAt 160 t11 2) fun t12 =>
 D9 PR X (Instr.storeAt 55 t12 t8) <|
 A0 PR (Instr.build 42 #[(0, (.bool true)), (1, (.bool true))]) fun t13 =>
 D9 PR X (Instr.storeAt 42 t4 t13) <|
 A6 PR (G7 [.c 42 t4]) R
theorem W7 : A8 PR 320 := A7 Tryz.func320 (by kernel_rfl) rfl
theorem A0u {X : Nat → Prop} {t0 t1 : Value} {R : Value → WP} {w : World} (h : Y9 X t0 t1 R w) : Fn PR X 320 #[t0, t1] w R := D1 (args := [t0, t1]) mixed Tryz.func320 (by kernel_rfl) h
def Z6 (X : Nat → Prop) (t0 t1 : Value) (R : Value → WP) : WP :=
 B5 PR X (Instr.alloc 42 true (.tuple #[])) fun t4 =>
 jn (n := 0) (
 A0 PR (B3 t1) fun t32 =>
 A0 PR (Instr.fieldAt 39 t32 3) fun t33 =>
 A6 PR (Instr.loadAt 35 t33) fun t34 =>
 B6 PR X 314 [t34] fun t35 =>
 A0 PR (B3 t0) fun t36 =>
 A0 PR (Instr.fieldAt 163 t36 3) fun t37 =>
 D9 PR X (Instr.storeAt 3 t37 t35) <|
 jn (n := 0) (
 drw <|
 A0 PR (B3 t1) fun t48 =>
 A0 PR (Instr.fieldAt 39 t48 2) fun t49 =>
 A6 PR (Instr.loadAt 34 t49) fun t50 =>
 A0 PR (B3 t0) fun t52 =>
 A0 PR (Instr.fieldAt 163 t52 3) fun t53 =>
 A6 PR (Instr.loadAt 3 t53) fun t54 =>
 B6 PR X 94 [t50, t54] fun t55 =>
 A0 PR (B3 t0) fun t57 =>
 A0 PR (Instr.fieldAt 163 t57 0) fun t58 =>
 A0 PR (Instr.fieldAt 160 t58 1) fun t59 =>
 A6 PR (Instr.loadAt 3 t59) fun t60 =>
 A0 PR (binOp .add 3 t60 (.int .i64 1)) fun t61 =>
 A0 PR (B3 t0) fun t62 =>
 A0 PR (Instr.fieldAt 163 t62 0) fun t63 =>
 A0 PR (Instr.fieldAt 160 t63 1) fun t64 =>
 D9 PR X (Instr.storeAt 3 t64 t61) <|
 A0 PR (Instr.build 42 #[]) fun t65 =>
 D9 PR X (Instr.storeAt 42 t4 t65) <|
 A6 PR (G7 [.c 42 t4]) R) fun J1 =>
 A0 PR (B3 t0) fun t39 =>
 A0 PR (Instr.fieldAt 163 t39 3) fun t40 =>
 A6 PR (Instr.loadAt 3 t40) fun t41 =>
 A0 PR (binOp .lss 3 t41 (.int .i64 0)) fun t42 =>
 C8 t42 (
 A0 PR (B3 t0) fun t44 =>
 A0 PR (Instr.fieldAt 163 t44 0) fun t45 =>
 B6 PR X 320 [t45, (.int .i64 13)] fun t46 =>
 D9 PR X (Instr.storeAt 42 t4 t46) <|
 A6 PR (G7 [.c 42 t4]) R) (
 J1)) fun J2 =>
 drw <|
 A0 PR (B3 t1) fun t7 =>
 A0 PR (Instr.fieldAt 39 t7 3) fun t8 =>
 A6 PR (Instr.loadAt 35 t8) fun t9 =>
 A0 PR (B3 t0) fun t11 =>
 A0 PR (Instr.fieldAt 163 t11 2) fun t12 =>
 A6 PR (Instr.loadAt 37 t12) fun t13 =>
 B6 PR X 324 [t9, t13] fun t14 =>
 A0 PR (binOp .geq 3 t14 (.int .i64 0)) fun t16 =>
 C8 t16 (
 A0 PR (B3 t1) fun t18 =>
 A0 PR (Instr.fieldAt 39 t18 2) fun t19 =>
 A6 PR (Instr.loadAt 34 t19) fun t20 =>
 B6 PR X 98 [t20, t14] fun t22 =>
 A0 PR (B3 t1) fun t24 =>
 A0 PR (Instr.fieldAt 39 t24 3) fun t25 =>
 A6 PR (Instr.loadAt 35 t25) fun t26 =>
 B6 PR X 325 [t26, t14] fun t28 =>
 A0 PR (Instr.build 42 #[]) fun t29 =>
 D9 PR X (Instr.storeAt 42 t4 t29) <|
 A6 PR (G7 [.c 42 t4]) R) (
 J2)
theorem A0E : A8 PR 321 := A7 Tryz.func321 (by kernel_rfl) rfl
theorem A0j {X : Nat → Prop} {t0 t1 : Value} {R : Value → WP} {w : World} (h : Z6 X t0 t1 R w) : Fn PR X 321 #[t0, t1] w R := D1 (args := [t0, t1]) mixed Tryz.func321 (by kernel_rfl) h
def Z5 (X : Nat → Prop) (t0 : Value) (R : Value → WP) : WP :=
 B5 PR X (Instr.alloc 42 true (.tuple #[])) fun t2 =>
 A0 PR (B3 t0) fun t4 =>
 A0 PR (Instr.fieldAt 160 t4 1) fun t5 =>
 D9 PR X (Instr.storeAt 3 t5 (.int .i64 (-1))) <|
 A0 PR (Instr.build 42 #[(1, (.bool true))]) fun t6 =>
 D9 PR X (Instr.storeAt 42 t2 t6) <|
 A6 PR (G7 [.c 42 t2]) R
theorem W5 : A8 PR 323 := A7 Tryz.func323 (by kernel_rfl) rfl
theorem A0l {X : Nat → Prop} {t0 : Value} {R : Value → WP} {w : World} (h : Z5 X t0 R w) : Fn PR X 323 #[t0] w R := D1 (args := [t0]) mixed Tryz.func323 (by kernel_rfl) h
end Go.Proofs.YtjobgnabneddjaaGreat
namespace Go.Proofs.YtjobgnabneddjaaGreat
open Go
def A3N (X : Nat → Prop) (t0 : Value) (R : Value → WP) : WP :=
 B5 PR X (Instr.box 23 t0) fun t1 =>
 jn (n := 2) (fun t2 t3 =>
 A6 PR (Instr.loadAt 23 t1) fun t10 =>
 A0 PR (Instr.makeFunc (.func 67) #[] #[t1]) fun t11 =>
 A0 PR (Instr.makeFunc (.func 69) #[] #[t1]) fun t12 =>
 A0 PR (Instr.makeFunc (.func 72) #[] #[t1]) fun t13 =>
 B5 PR X (Instr.buildSlice 228 3 #[(0, t11), (1, t12), (2, t13)]) fun t14 =>
 B6 PR X 66 [t10, t14] fun t15 =>
 R (.tuple #[t15, (.int .i64 0)])) fun J1 =>
 A6 PR (Instr.loadAt 23 t1) fun t5 =>
 B6 PR X 65 [t5] fun t6 =>
 A0 PR (binOp .neq 27 t6 (.int .i64 0)) fun t8 =>
 C8 t8 (
 R (.tuple #[(.pointer none), t6])) (
 J1 (.pointer none) (.int .i64 0))
theorem A2L : A8 PR 16 := A7 Tryz.func16 (by kernel_rfl) rfl
theorem A69 {X : Nat → Prop} {t0 : Value} {R : Value → WP} {w : World} (h : A3N X t0 R w) : Fn PR X 16 #[t0] w R := D1 (args := [t0]) mixed Tryz.func16 (by kernel_rfl) h
def q9 (X : Nat → Prop) (t0 t1 : Value) (R : Value → WP) : WP :=
 jn (n := 1) (fun t4 =>
 A0 PR (binOp .add 3 (.int .i64 2) t1) fun t17 =>
 A0 PR (binOp .sub 3 t17 (.int .i64 1)) fun t18 =>
 R t18) fun J1 =>
 A0 PR (binOp .lss 3 t1 (.int .i64 1)) fun t6 =>
 gj t6 false (fun J => J t1) fun t8 =>
 gj t6 false (fun J => J t0) fun t9 =>
 gj t6 false (fun J => A0 PR (B3 t9) J) fun t10 =>
 gj t6 false (fun J => A0 PR (Instr.fieldAt 39 t10 0) J) fun t11 =>
 gj t6 false (fun J => A0 PR (Instr.fieldAt 23 t11 0) J) fun t12 =>
 gj t6 false (fun J => A6 PR (Instr.loadAt 3 t12) J) fun t13 =>
 gj t6 false (fun J => A0 PR (binOp .gtr 3 t8 t13) J) fun t14 =>
 A0 PR (do pure (if ← asBool t6 then (.bool true) else t14)) fun t15 =>
 C8 t15 (
 R (.int .i64 (-1))) (
 J1 (.int .i64 0))
theorem m5 : A8 PR 57 := A7 Tryz.func57 (by kernel_rfl) rfl
theorem A26 {X : Nat → Prop} {t0 t1 : Value} {R : Value → WP} {w : World} (h : q9 X t0 t1 R w) : Fn PR X 57 #[t0, t1] w R := D1 (args := [t0, t1]) mixed Tryz.func57 (by kernel_rfl) h
def A2K (X : Nat → Prop) (t0 t1 : Value) (R : Value → WP) : WP :=
 B5 PR X (Instr.box 23 t0) fun t2 =>
 A6 PR (Instr.loadAt 23 t2) fun t8 =>
 A0 PR (Instr.build 39 #[(0, t8)]) fun t9 =>
 B5 PR X (Instr.box 39 t9) fun t10 =>
 jn (n := 1) (fun t13 =>
 R t10) fun J1 =>
 A0 PR (A9 .len #[228] 0 [t1]) fun t12 =>
 lp (n := 1) (fun L2 t13_1 =>
 A0 PR (binOp .lss 3 t13_1 t12) fun t14 =>
 jn (n := 0) (
 jn (n := 0) (
 A0 PR (binOp .add 3 t13_1 (.int .i64 1)) fun t20 =>
 L2 t20) fun J3 =>
 A0 PR (Instr.indexAt 228 t1 t13_1) fun t15 =>
 A6 PR (Instr.loadAt 124 t15) fun t16 =>
 V8 PR X t16 [t10] fun t19 =>
 J3) fun J4 =>
 C8 t14 (
 J4) (
 J1 t13_1)) (.int .i64 0)
theorem A5J : A8 PR 66 := A7 Tryz.func66 (by kernel_rfl) rfl
theorem A6Y {X : Nat → Prop} {t0 t1 : Value} {R : Value → WP} {w : World} (h : A2K X t0 t1 R w) : Fn PR X 66 #[t0, t1] w R := D1 (args := [t0, t1]) mixed Tryz.func66 (by kernel_rfl) h
def A0Y (X : Nat → Prop) (t0 t1 : Value) (R : Value → WP) : WP :=
 A0 PR (Instr.fieldAt 23 t1 0) fun t4 =>
 A6 PR (Instr.loadAt 3 t4) fun t5 =>
 A0 PR (binOp .add 3 (.int .i64 2) t5) fun t6 =>
 A0 PR (Instr.fieldAt 23 t1 1) fun t7 =>
 A6 PR (Instr.loadAt 3 t7) fun t8 =>
 B6 PR X 68 [t6, t8] fun t9 =>
 A0 PR (B3 t0) fun t10 =>
 A0 PR (Instr.fieldAt 39 t10 1) fun t11 =>
 D9 PR X (Instr.storeAt 33 t11 t9) <|
 R (.tuple #[])
theorem A36 : A8 PR 67 := A7 Tryz.func67 (by kernel_rfl) rfl
theorem A42 {X : Nat → Prop} {t0 t1 : Value} {R : Value → WP} {w : World} (h : A0Y X t0 t1 R w) : Fn PR X 67 #[t0, t1] w R := D1 (args := [t0, t1]) mixed Tryz.func67 (by kernel_rfl) h
def A0Q (X : Nat → Prop) (t0 t1 : Value) (R : Value → WP) : WP :=
 drw <|
 A0 PR (Instr.fieldAt 23 t1 4) fun t5 =>
 A6 PR (Instr.loadAt 3 t5) fun t6 =>
 A0 PR (Instr.fieldAt 23 t1 4) fun t8 =>
 A6 PR (Instr.loadAt 3 t8) fun t9 =>
 B6 PR X 70 [t6] fun t7 =>
 watch PR [(none, (Instr.loadAt 3 t8), t9)] <|
 B6 PR X 71 [t9] fun t10 =>
 A0 PR (B3 t0) fun t11 =>
 A0 PR (Instr.fieldAt 39 t11 2) fun t12 =>
 D9 PR X (Instr.storeAt 34 t12 t7) <|
 A0 PR (B3 t0) fun t13 =>
 A0 PR (Instr.fieldAt 39 t13 3) fun t14 =>
 D9 PR X (Instr.storeAt 35 t14 t10) <|
 R (.tuple #[])
theorem A4P : A8 PR 69 := A7 Tryz.func69 (by kernel_rfl) rfl
theorem A4y {X : Nat → Prop} {t0 t1 : Value} {R : Value → WP} {w : World} (h : A0Q X t0 t1 R w) : Fn PR X 69 #[t0, t1] w R := D1 (args := [t0, t1]) mixed Tryz.func69 (by kernel_rfl) h
def A0S (X : Nat → Prop) (t0 t1 : Value) (R : Value → WP) : WP :=
 A0 PR (Instr.fieldAt 23 t1 1) fun t3 =>
 A6 PR (Instr.loadAt 3 t3) fun t4 =>
 lp (n := 1) (fun L1 t5 =>
 A0 PR (binOp .lss 3 t5 t4) fun t6 =>
 jn (n := 0) (
 jn (n := 0) (
 A0 PR (binOp .add 3 t5 (.int .i64 1)) fun t28 =>
 L1 t28) fun J2 =>
 drw <|
 A0 PR (B3 t0) fun t9 =>
 A0 PR (Instr.fieldAt 39 t9 4) fun t10 =>
 A6 PR (Instr.loadAt 36 t10) fun t11 =>
 A0 PR (Instr.fieldAt 23 t1 2) fun t12 =>
 A6 PR (Instr.loadAt 3 t12) fun t13 =>
 B6 PR X 73 [t13] fun t14 =>
 watch PR [(none, (Instr.loadAt 36 t10), t11)] <|
 B5 PR X (Instr.buildSlice 36 1 #[(0, t14)]) fun t15 =>
 watch PR [(none, (Instr.loadAt 36 t10), t11)] <|
 B5 PR X (A9 .append #[36, 36] 36 [t11, t15]) fun t16 =>
 A0 PR (B3 t0) fun t17 =>
 A0 PR (Instr.fieldAt 39 t17 4) fun t18 =>
 D9 PR X (Instr.storeAt 36 t18 t16) <|
 A0 PR (B3 t0) fun t21 =>
 A0 PR (Instr.fieldAt 39 t21 5) fun t22 =>
 A6 PR (Instr.loadAt 37 t22) fun t23 =>
 B5 PR X (Instr.buildSlice 37 1 #[(0, (.int .i64 0))]) fun t24 =>
 B5 PR X (A9 .append #[37, 37] 37 [t23, t24]) fun t25 =>
 A0 PR (B3 t0) fun t26 =>
 A0 PR (Instr.fieldAt 39 t26 5) fun t27 =>
 D9 PR X (Instr.storeAt 37 t27 t25) <|
 J2) fun J3 =>
 C8 t6 (
 J3) (
 R (.tuple #[]))) (.int .i64 0)
theorem A4L : A8 PR 72 := A7 Tryz.func72 (by kernel_rfl) rfl
theorem A41 {X : Nat → Prop} {t0 t1 : Value} {R : Value → WP} {w : World} (h : A0S X t0 t1 R w) : Fn PR X 72 #[t0, t1] w R := D1 (args := [t0, t1]) mixed Tryz.func72 (by kernel_rfl) h
end Go.Proofs.YtjobgnabneddjaaGreat
namespace Go.Proofs.YtjobgnabneddjaaGreat
open Go
def g0 (X : Nat → Prop) (t0 t1 t2 : Value) (R : Value → WP) : WP :=
 A0 PR (B3 t0) fun t9 =>
 A0 PR (Instr.fieldAt 141 t9 1) fun t10 =>
 A6 PR (Instr.loadAt 37 t10) fun t11 =>
 B6 PR X 74 [t0, t11, t1] fun t13 =>
 A6 PR (F4 .neq 131 (.tmp 14) (.const (.pointer none)) t13 (.pointer none)) fun t15 =>
 C8 t15 (
 A0 PR (B3 t13) fun t18 =>
 D9 PR X (Instr.storeAt 3 t18 t2) <|
 R (.tuple #[])) (
 R (.tuple #[]))
theorem A1C : A8 PR 31 := A7 Tryz.func31 (by kernel_rfl) rfl
theorem A1e {X : Nat → Prop} {t0 t1 t2 : Value} {R : Value → WP} {w : World} (h : g0 X t0 t1 t2 R w) : Fn PR X 31 #[t0, t1, t2] w R := D1 (args := [t0, t1, t2]) mixed Tryz.func31 (by kernel_rfl) h
def l3 (X : Nat → Prop) (t0 t1 : Value) (R : Value → WP) : WP :=
 jn (n := 1) (fun t4 =>
 R (.int .i64 0)) fun J1 =>
 A0 PR (B3 t0) fun t8 =>
 A0 PR (Instr.fieldAt 141 t8 1) fun t9 =>
 A6 PR (Instr.loadAt 37 t9) fun t10 =>
 B6 PR X 74 [t0, t10, t1] fun t12 =>
 A6 PR (F4 .neq 131 (.tmp 13) (.const (.pointer none)) t12 (.pointer none)) fun t14 =>
 C8 t14 (
 A0 PR (B3 t12) fun t16 =>
 A6 PR (Instr.loadAt 3 t16) fun t17 =>
 R t17) (
 J1 (.int .i64 0))
theorem K9 : A8 PR 35 := A7 Tryz.func35 (by kernel_rfl) rfl
theorem A2Y {X : Nat → Prop} {t0 t1 : Value} {R : Value → WP} {w : World} (h : l3 X t0 t1 R w) : Fn PR X 35 #[t0, t1] w R := D1 (args := [t0, t1]) mixed Tryz.func35 (by kernel_rfl) h
def A3B (X : Nat → Prop) (t0 t1 : Value) (R : Value → WP) : WP :=
 drw <|
 kt (n := 1) (fun t5 =>
 jn (n := 1) (fun t20 =>
 R t5) fun J1 =>
 A0 PR (B3 t5) fun t16 =>
 A0 PR (Instr.fieldAt 141 t16 2) fun t17 =>
 A6 PR (Instr.loadAt 37 t17) fun t18 =>
 A0 PR (A9 .len #[37] 0 [t18]) fun t19 =>
 lp (n := 1) (fun L2 t20_1 =>
 A0 PR (binOp .lss 3 t20_1 t19) fun t21 =>
 jn (n := 0) (
 jn (n := 0) (
 A0 PR (binOp .add 3 t20_1 (.int .i64 1)) fun t29 =>
 L2 t29) fun J3 =>
 A0 PR (B3 t5) fun t24 =>
 A0 PR (Instr.fieldAt 141 t24 2) fun t25 =>
 A6 PR (Instr.loadAt 37 t25) fun t26 =>
 A0 PR (Instr.indexAt 37 t26 t20_1) fun t28 =>
 D9 PR X (Instr.storeAt 3 t28 (.int .i64 (-1))) <|
 J3) fun J4 =>
 C8 t21 (
 J4) (
 J1 t20_1)) (.int .i64 0)) fun C5 =>
 B6 PR X 128 [t0] fun t8_1 =>
 both (B5 PR X (Instr.makeSlice 37 t8_1 t8_1) fun t9_3 =>
 B6 PR X 128 [t1] fun t11_2 =>
 B5 PR X (Instr.makeSlice 37 t11_2 t11_2) fun t12_3 =>
 A0 PR (Instr.build 141 #[(1, t9_3), (2, t12_3)]) fun t13_3 =>
 B5 PR X (Instr.box 141 t13_3) fun t14_3 =>
 C5 t14_3) (both (B6 PR X 128 [t1] fun t11_1 =>
 both (B5 PR X (Instr.makeSlice 37 t8_1 t8_1) fun t9_2 =>
 B5 PR X (Instr.makeSlice 37 t11_1 t11_1) fun t12_2 =>
 A0 PR (Instr.build 141 #[(1, t9_2), (2, t12_2)]) fun t13_2 =>
 B5 PR X (Instr.box 141 t13_2) fun t14_2 =>
 C5 t14_2) (both (B5 PR X (Instr.makeSlice 37 t11_1 t11_1) fun t12_1 =>
 B5 PR X (Instr.makeSlice 37 t8_1 t8_1) fun t9_1 =>
 A0 PR (Instr.build 141 #[(1, t9_1), (2, t12_1)]) fun t13_1 =>
 B5 PR X (Instr.box 141 t13_1) fun t14_1 =>
 C5 t14_1) ((fun _ => True)))) ((fun _ => True)))
theorem A6U : A8 PR 68 := A7 Tryz.func68 (by kernel_rfl) rfl
theorem A7l {X : Nat → Prop} {t0 t1 : Value} {R : Value → WP} {w : World} (h : A3B X t0 t1 R w) : Fn PR X 68 #[t0, t1] w R := D1 (args := [t0, t1]) mixed Tryz.func68 (by kernel_rfl) h
def m0 (X : Nat → Prop) (t0 t1 t2 : Value) (R : Value → WP) : WP :=
 jn (n := 1) (fun t6 =>
 A0 PR (B3 t0) fun t16 =>
 A0 PR (Instr.fieldAt 141 t16 0) fun t17 =>
 B6 PR X 129 [t17] fun t18 =>
 A0 PR (Instr.indexAt 37 t1 t2) fun t21 =>
 R t21) fun J1 =>
 A0 PR (binOp .lss 3 t2 (.int .i64 0)) fun t8 =>
 gj t8 false (fun J => J t2) fun t10 =>
 gj t8 false (fun J => J t1) fun t11 =>
 gj t8 false (fun J => A0 PR (A9 .len #[37] 0 [t11]) J) fun t12 =>
 gj t8 false (fun J => A0 PR (binOp .geq 3 t10 t12) J) fun t13 =>
 A0 PR (do pure (if ← asBool t8 then (.bool true) else t13)) fun t14 =>
 C8 t14 (
 R (.pointer none)) (
 J1 (.pointer none))
theorem S4 : A8 PR 74 := A7 Tryz.func74 (by kernel_rfl) rfl
theorem A2U {X : Nat → Prop} {t0 t1 t2 : Value} {R : Value → WP} {w : World} (h : m0 X t0 t1 t2 R w) : Fn PR X 74 #[t0, t1, t2] w R := D1 (args := [t0, t1, t2]) mixed Tryz.func74 (by kernel_rfl) h
def r4 (X : Nat → Prop) (t0 t1 t2 : Value) (R : Value → WP) : WP :=
 A0 PR (B3 t0) fun t10 =>
 A0 PR (Instr.fieldAt 141 t10 1) fun t11 =>
 A6 PR (Instr.loadAt 37 t11) fun t12 =>
 B6 PR X 74 [t0, t12, t1] fun t14 =>
 jn (n := 1) (fun t6 =>
 A0 PR (B3 t14) fun t18 =>
 A6 PR (Instr.loadAt 3 t18) fun t19 =>
 A0 PR (binOp .add 3 t19 t2) fun t21 =>
 A0 PR (B3 t14) fun t22 =>
 D9 PR X (Instr.storeAt 3 t22 t21) <|
 A0 PR (B3 t14) fun t24 =>
 A6 PR (Instr.loadAt 3 t24) fun t25 =>
 R t25) fun J1 =>
 A6 PR (F4 .eql 131 (.tmp 15) (.const (.pointer none)) t14 (.pointer none)) fun t16 =>
 C8 t16 (
 R (.int .i64 0)) (
 J1 (.int .i64 0))
theorem l4 : A8 PR 93 := A7 Tryz.func93 (by kernel_rfl) rfl
theorem A20 {X : Nat → Prop} {t0 t1 t2 : Value} {R : Value → WP} {w : World} (h : r4 X t0 t1 t2 R w) : Fn PR X 93 #[t0, t1, t2] w R := D1 (args := [t0, t1, t2]) mixed Tryz.func93 (by kernel_rfl) h
def A0K (X : Nat → Prop) (t0 : Value) (R : Value → WP) : WP :=
 A0 PR (A9 .max #[3, 3] 0 [t0, (.int .i64 0)]) fun t4 =>
 A0 PR (A9 .min #[3, 3] 0 [t4, (.int .i64 1024)]) fun t5 =>
 R t5
theorem a7 : A8 PR 128 := A7 Tryz.func128 (by kernel_rfl) rfl
theorem A5B {X : Nat → Prop} {t0 : Value} {R : Value → WP} {w : World} (h : A0K X t0 R w) : Fn PR X 128 #[t0] w R := D1 (args := [t0]) mixed Tryz.func128 (by kernel_rfl) h
def Y7 (X : Nat → Prop) (t0 : Value) (R : Value → WP) : WP :=
 A0 PR (B3 t0) fun t3 =>
 A0 PR (Instr.fieldAt 139 t3 0) fun t4 =>
 B6 PR X 178 [t4, (.int .i64 1)] fun t5 =>
 R (.tuple #[])
theorem z7 : A8 PR 129 := A7 Tryz.func129 (by kernel_rfl) rfl
theorem A0r {X : Nat → Prop} {t0 : Value} {R : Value → WP} {w : World} (h : Y7 X t0 R w) : Fn PR X 129 #[t0] w R := D1 (args := [t0]) mixed Tryz.func129 (by kernel_rfl) h
end Go.Proofs.YtjobgnabneddjaaGreat
