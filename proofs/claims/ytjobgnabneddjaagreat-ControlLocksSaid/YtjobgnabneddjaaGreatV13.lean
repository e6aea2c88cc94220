/- The proof of a given statement, a part of it (Args Join ShR17 Few ArgsC ArgsO ShL20ControlLocks ShL20 ShControl ShWorld ShCells). No condition but what each lemma says. -/
import Derived.WalkKit
import Derived.ProofKit
import Derived.OpenShut
import Derived.Carry
import Derived.Deep.Slices
import Derived.Test.YtjobgnabneddjaaGreatRows
import Derived.Test.YtjobgnabneddjaaGreatV12
set_option linter.unusedVariables false
set_option linter.unusedSimpArgs false
namespace Go.Proofs.YtjobgnabneddjaaGreat
open Go Go.ChangeShapes Go.WideShapes Go.ChangeAt Go.RowKit
theorem B6H {w w' : World} (h : D0 [] w w') (hk : Sk B8 w w') (may : MemPlace → Prop) : w.keptBut w' may := by
 refine ⟨hk.2.2.2.1, hk.2.2.2.2, fun i hi => ?_⟩
 have h1 : w.heap[i]? = some w.heap[i] := Array.getElem?_eq_getElem hi
 have h2 : w'.heap[i]? = some w.heap[i] := h.2 i _ (by simp) h1
 rw [h1, h2]
 cases w.heap[i] <;> simp
theorem B2c {f : FuncId} {args : Array Value} {w : World} (h : Fn PR B8 f args w (fun v w' => v = .bool true ∧ D0 [] w w')) :
  Calls PR f args w fun e w' => e = .returned (.bool true) ∧ (∀ may, w.keptBut w' may) ∧ D0 [] w w' :=
 Calls.mono h fun _ w' ⟨v, he, ⟨hv, hb⟩, hs⟩ => ⟨by rw [he, hv], B6H hb hs, hb⟩
theorem own : ownKnob PR.godebug = none := by kernel_rfl
theorem B7B : laidOutB PR = true := by kernel_rfl
theorem B1z {H : Type} {enc : TypeId × Value → H} {P : Program} {f : Func} {s : ChangeSpec} {apart fresh handsOn : Bool} {W W' : World} {args : Array Value} {v : Value} {ds gs : List (DataW H)} {before pa pv : List MemPlace}
  (hW : DataW.Whole enc P f.params.toList s.vars apart W args.toList ds gs before)
  (hres : ∀ (b : Nat) (sp : Nat → Bool) (hd : Bool), DataW.TrodAll enc P W' b sp hd f.resultTypes.toList (v.resultList f.resultTypes.size) (s.fn H (ds ++ gs)).results [])
  (hargs : ∀ sp : Nat → Bool, (∀ p ∈ before, sp p.block = true) → DataW.TrodAll enc P W' 0 sp true f.params.toList args.toList (s.fn H (ds ++ gs)).args pa)
  (hvars : ∀ sp : Nat → Bool, (∀ p ∈ before, sp p.block = true) → DataW.TrodVars enc P W' sp s.vars (s.fn H (ds ++ gs)).vars pv)
  (hk : ∀ may, W.keptBut W' may) : s.post enc P f apart fresh handsOn false W args v W' := by
 have hold : ∀ p ∈ before, (fun b => decide (b < W.heap.size)) p.block = true := fun p hp => by simpa using hW.lt p hp
 exact ⟨ds, gs, before, [], pa, pv, hW, hres _ _ _, hargs _ hold, hvars _ hold, hk _, fun h => by cases h⟩
section
variable {H : Type} {enc : TypeId × Value → H} {P : Program} {w : World} {base : Nat} {spare : Nat → Bool} {held : Bool}
theorem B6J {α : Type} {f : α → List Value} {k : Nat} (hk : ∀ x, (f x).length = k) (hkp : 0 < k) {Q : α → Prop} {t e : TypeId} {fuel : Nat} {cs : List Value} {x : DataW H × List MemPlace}
  (ht : P.underlying t = some (.slice e)) (hc : P.cellsOf e = k) (h : DataW.trod enc P w base spare held fuel t cs = some x)
  (he : ∀ n cs' y, DataW.trod enc P w base spare held n e cs' = some y → ∃ a, cs' = f a ∧ Q a) :
  ∃ (v : Value) (l : List α), cs = [v] ∧ G3 w v l.length (l.flatMap f) ∧ (∀ a ∈ l, Q a) ∧ l.length ≤ maxLen := by
 rcases Go.Deep.open_slice ht h with ⟨rfl, _⟩ | ⟨a, len, cap, m, n, D, Pl, rfl, hb, hl, hm, hmm, _, hx⟩
 ·exact ⟨_, [], rfl, Or.inl ⟨rfl, rfl, none, 0, rfl⟩, by simp, by simp⟩
 have hlm : len ≤ m := by rw [hmm]; split <;> omega
 have hch : ∀ i : Fin len, ∃ a' : α, Q a' ∧ w.cells? base (a.add (i.1 * k)) k = some (f a') := by
  intro i
  obtain ⟨cs', h1, h2⟩ := hx i.1 (by omega)
  obtain ⟨a', rfl, hq⟩ := he _ _ _ h2
  rw [hc] at h1
  exact ⟨a', hq, h1⟩
 let g : Fin len → α := fun i => Classical.choose (hch i)
 have hg : ∀ i, Q (g i) ∧ w.cells? base (a.add (i.1 * k)) k = some (f (g i)) := fun i => Classical.choose_spec (hch i)
 refine ⟨_, List.ofFn g, rfl, ?_, ?_, by simp; omega⟩
 ·by_cases h0 : len = 0
  ·subst h0; exact Or.inl ⟨by simp, by simp, _, _, rfl⟩
  obtain ⟨b, o, spot⟩ := a
  have h1 := (World.cells?_some (hg ⟨0, by omega⟩).2).2.2 0 hkp
  have hfl := hk (g ⟨0, by omega⟩)
  rw [List.getElem?_eq_getElem (by omega)] at h1
  have hspot : spot = none := by simpa [Addr.add] using World.cell?_spot h1
  subst hspot
  refine Or.inr ⟨b, o, cap, by simp, fun i hi => ?_⟩
  rw [K7 hk] at hi
  simp only [List.length_ofFn] at hi
  have hd : i / k * k + i % k = i := by rw [Nat.mul_comm]; exact Nat.div_add_mod i k
  have hj : i % k < k := Nat.mod_lt _ hkp
  have hi' : i / k < len := by rw [Nat.div_lt_iff_lt_mul hkp]; exact hi
  have h2 := (World.cells?_some (hg ⟨i / k, hi'⟩).2).2.2 (i % k) hj
  rw [← hd, y8 hk _ _ _ hj, List.getElem?_ofFn, dif_pos hi']
  simp only [Option.bind_some]
  rw [← h2, Y4, Y4]
  simp only [Nat.add_assoc]
 ·intro a' ha'
  rw [List.mem_ofFn] at ha'
  obtain ⟨i, rfl⟩ := ha'
  exact (hg i).1
theorem T8 {t : TypeId} {k : IntKind} {fuel : Nat} {cs : List Value} {x : DataW H × List MemPlace} (ht : P.underlying t = some (.int k)) (h : DataW.trod enc P w base spare held fuel t cs = some x) :
  ∃ a : Int, cs = [.int k a] ∧ (Lit.int k a).wf = true := by
 obtain ⟨n, h1, _, h2⟩ := DataW.trod_int ht h
 exact ⟨n, h1, h2⟩
theorem B29 {t : TypeId} {fuel : Nat} {cs : List Value} {x : DataW H × List MemPlace} (ht : P.underlying t = some .string) (h : DataW.trod enc P w base spare held fuel t cs = some x) :
  ∃ s : ByteArray, cs = [.string s] ∧ s.size ≤ maxLen := by
 obtain ⟨s, h1, _, h2⟩ := DataW.trod_string ht h
 exact ⟨s, h1, h2⟩
end
theorem A8p {H : Type} {enc : TypeId × Value → H} {P : Program} (hl : laidOutB P = true) {W W' : World} (hb : D0 [] W W') {sp : Nat → Bool} :
  ∀ {ts : List TypeId} {vs : List Value} {ds : List (DataW H)} {ps : List MemPlace}, (ts.all fun t => P.readableRec t && decide (t < P.types.size)) = true → DataW.TrodAll enc P W 0 (fun _ => true) true ts vs ds ps →
   (∀ p ∈ ps, p.block < W.heap.size) → (∀ p ∈ ps, sp p.block = true) → DataW.TrodAll enc P W' 0 sp true ts vs ds ps := by
 intro ts
 induction ts with
 | nil => intro vs ds ps _ h _ _; cases vs <;> cases ds <;> exact h
 | cons t ts ih =>
  intro vs ds ps ht h hlt hsp
  simp only [List.all_cons, Bool.and_eq_true, decide_eq_true_eq] at ht
  obtain ⟨v, vs', d, ds', p, q, rfl, rfl, rfl, h0, hr⟩ := trodAll_cons h
  refine ⟨p, q, WideElems.Trod_stays hl ht.1.1 ht.1.2 h0 (fun x hx => ?_) (fun x hx => hsp x (List.mem_append_left _ hx)),
   ih ht.2 hr (fun x hx => hlt x (List.mem_append_right _ hx)) (fun x hx => hsp x (List.mem_append_right _ hx)), rfl⟩
  have hlt' := hlt x (List.mem_append_left _ hx)
  have e1 : W.heap[x.block]? = some W.heap[x.block] := Array.getElem?_eq_getElem hlt'
  have e2 : W'.heap[x.block]? = some W.heap[x.block] := hb.2 _ _ (by simp) e1
  cases x with
  | cell b o => show W'.cell? _ = W.cell? _; unfold World.cell?; rw [show W'.heap[b]? = W.heap[b]? from e2.trans e1.symm]
  | map b => exact e2.trans e1.symm
set_option maxRecDepth 10000
section
variable {H : Type} {enc : TypeId × Value → H} {w : World} {base : Nat} {spare : Nat → Bool} {held : Bool} {fuel : Nat} {cs : List Value} {x : DataW H × List MemPlace}
theorem B51 (h : DataW.trod enc PR w base spare held fuel 155 cs = some x) : ∃ a : H8, cs = G8 a ∧ True := by
 obtain ⟨xs, n, _, rfl, hl, hxl, hf⟩ := DataW.trod_struct A32.und h
 have hl4 : cs.length = 2 := hl.trans (by kernel_rfl)
 have hx4 : xs.length = 2 := hxl.trans (by kernel_rfl)
 match cs, hl4 with
 | [c0, c1], _ =>
  have f0 := hf 0 _ rfl
  have f1 := hf 1 _ rfl
  rw [List.getElem?_eq_getElem (by omega)] at f0 f1
  obtain ⟨a0, e0, _⟩ := T8 Tryz.underlying3 f0
  obtain ⟨a1, e1, _⟩ := T8 Tryz.underlying3 f1
  have e0 : [c0] = [.int .i64 a0] := e0
  have e1 : [c1] = [.int .i64 a1] := e1
  cases e0; cases e1
  exact ⟨(a0, a1), rfl, trivial⟩
theorem B3r (h : DataW.trod enc PR w base spare held fuel 58 cs = some x) : ∃ (v : Value) (l : List H8), cs = [v] ∧ G3 w v l.length (l.flatMap G8) ∧ l.length ≤ maxLen := by
 obtain ⟨v, l, h1, h2, _, h3⟩ := B6J (f := G8) (k := 2) (Q := fun _ => True) (fun _ => rfl) (by omega) Tryz.underlying58 (by kernel_rfl) h (fun n cs' y hy => B51 hy)
 exact ⟨v, l, h1, h2, h3⟩
end
end Go.Proofs.YtjobgnabneddjaaGreat
namespace Go.Proofs.YtjobgnabneddjaaGreat
open Go
set_option maxRecDepth 100000
theorem jf2 : mapsRowed Tryz.prog = true := by kernel_rfl
theorem jf6 : (Program.stops Tryz.prog == []) = true := by kernel_rfl
theorem jf8 : (Program.stopKnobs Tryz.prog == []) = true := by kernel_rfl
theorem C1A : Program.stopsHeard Tryz.prog = true := by kernel_rfl
theorem C0w : Program.mayEnter Tryz.prog = true := by kernel_rfl
end Go.Proofs.YtjobgnabneddjaaGreat
namespace Go.Proofs.YtjobgnabneddjaaGreat
open Go
def d5 (X : Nat → Prop) (t0 : Value) (R : Value → WP) : WP :=
 B7 PR X (Instr.box 23 t0) fun t1 =>
 A0 PR (Instr.fieldAt 23 t1 0) fun t3 =>
 A6 PR (Instr.loadAt 3 t3) fun t4 =>
 A0 PR (binOp .leq 3 t4 (.int .i64 6)) fun t5 =>
 gj t5 true (fun J => A0 PR (Instr.fieldAt 23 t1 1) J) fun t7 =>
 gj t5 true (fun J => A6 PR (Instr.loadAt 3 t7) J) fun t8 =>
 gj t5 true (fun J => A0 PR (binOp .leq 3 t8 (.int .i64 6)) J) fun t9 =>
 A0 PR (do pure (if ← asBool t5 then t9 else (.bool false))) fun t10 =>
 gj t10 true (fun J => A0 PR (Instr.fieldAt 23 t1 2) J) fun t12 =>
 gj t10 true (fun J => A6 PR (Instr.loadAt 3 t12) J) fun t13 =>
 gj t10 true (fun J => A0 PR (binOp .leq 3 t13 (.int .i64 12)) J) fun t14 =>
 A0 PR (do pure (if ← asBool t10 then t14 else (.bool false))) fun t15 =>
 R t15
theorem A1P : A9 PR 15 := A7 Tryz.func15 (by kernel_rfl) rfl
theorem A1k {X : Nat → Prop} {t0 : Value} {R : Value → WP} {w : World} (h : d5 X t0 R w) : Fn PR X 15 #[t0] w R := C9 (args := [t0]) mixed Tryz.func15 (by kernel_rfl) h
end Go.Proofs.YtjobgnabneddjaaGreat
namespace Go.Proofs.YtjobgnabneddjaaGreat
open Go
def B13 (o : OpV × Value) : List Value := [.int .i64 o.1.kind, .string o.1.packet, o.2, .int .i64 o.1.shard]
def A2p (c : CfgV) : Bool := decide (c.wk ≤ 6) && decide (c.sh ≤ 6) && decide (c.cp ≤ 12)
theorem B3s (w : World) (c : CfgV) : Fn PR B8 15 #[c.val] w (fun r w' => r = .bool (A2p c) ∧ D0 [] w w') := by
 refine Fn.pure (A1k (TW.go (κ := false) (S := []) ?_))
 unfold d5
 simp only [CfgV.val]
 by_cases c1 : c.wk ≤ 6
 ·by_cases c2 : c.sh ≤ 6
  ·(have zz:=trivial;repeat((first|clear zz|with_reducible first|refine A3 ?_|refine A5 fun _=>?_|refine A4 fun _=>?_);try simp(disch:=first|omega|assumption|((repeat(first|exact A1|exact uH|apply A2|apply uT));first|done|fail)|(simp;first|done|omega|fail))[c1, c2]))
   exact B9 (by simp [A2p, c1, c2])
  ·(have zz:=trivial;repeat((first|clear zz|with_reducible first|refine A3 ?_|refine A5 fun _=>?_|refine A4 fun _=>?_);try simp(disch:=first|omega|assumption|((repeat(first|exact A1|exact uH|apply A2|apply uT));first|done|fail)|(simp;first|done|omega|fail))[c1, c2]))
   exact B9 (by simp [A2p, c1, c2])
 ·(have zz:=trivial;repeat((first|clear zz|with_reducible first|refine A3 ?_|refine A5 fun _=>?_|refine A4 fun _=>?_);try simp(disch:=first|omega|assumption|((repeat(first|exact A1|exact uH|apply A2|apply uT));first|done|fail)|(simp;first|done|omega|fail))[c1]))
  exact B9 (by simp [A2p, c1])
end Go.Proofs.YtjobgnabneddjaaGreat
namespace Go.Proofs.YtjobgnabneddjaaGreat
open Go Go.ChangeShapes Go.WideShapes Go.ChangeAt Go.RowKit
set_option maxRecDepth 10000
section
variable {H : Type} {enc : TypeId × Value → H} {w : World} {base : Nat} {spare : Nat → Bool} {held : Bool} {fuel : Nat} {cs : List Value} {x : DataW H × List MemPlace}
theorem B3b (h : DataW.trod enc PR w base spare held fuel 23 cs = some x) : ∃ c : CfgV, cs = [.int .i64 c.wk, .int .i64 c.sh, .int .i64 c.cp, .int .i64 c.idle, .int .i64 c.sl] ∧ True := by
 obtain ⟨xs, n, _, rfl, hl, hxl, hf⟩ := DataW.trod_struct A2a.und h
 have hl4 : cs.length = 5 := hl.trans (by kernel_rfl)
 have hx4 : xs.length = 5 := hxl.trans (by kernel_rfl)
 match cs, hl4 with
 | [c0, c1, c2, c3, c4], _ =>
  have f0 := hf 0 _ rfl
  have f1 := hf 1 _ rfl
  have f2 := hf 2 _ rfl
  have f3 := hf 3 _ rfl
  have f4 := hf 4 _ rfl
  rw [List.getElem?_eq_getElem (by omega)] at f0 f1 f2 f3 f4
  obtain ⟨a0, e0, _⟩ := T8 Tryz.underlying3 f0
  obtain ⟨a1, e1, _⟩ := T8 Tryz.underlying3 f1
  obtain ⟨a2, e2, _⟩ := T8 Tryz.underlying3 f2
  obtain ⟨a3, e3, _⟩ := T8 Tryz.underlying3 f3
  obtain ⟨a4, e4, _⟩ := T8 Tryz.underlying3 f4
  have e0 : [c0] = [.int .i64 a0] := e0
  have e1 : [c1] = [.int .i64 a1] := e1
  have e2 : [c2] = [.int .i64 a2] := e2
  have e3 : [c3] = [.int .i64 a3] := e3
  have e4 : [c4] = [.int .i64 a4] := e4
  cases e0; cases e1; cases e2; cases e3; cases e4
  exact ⟨⟨a0, a1, a2, a3, a4⟩, rfl, trivial⟩
theorem B5v (h : DataW.trod enc PR w base spare held fuel 64 cs = some x) : ∃ o : OpV × Value, cs = B13 o ∧ G3 w o.2 o.1.pool.length (o.1.pool.flatMap G8) := by
 obtain ⟨xs, n, _, rfl, hl, hxl, hf⟩ := DataW.trod_struct A4y.und h
 have hl4 : cs.length = 4 := hl.trans (by kernel_rfl)
 have hx4 : xs.length = 4 := hxl.trans (by kernel_rfl)
 match cs, hl4 with
 | [c0, c1, c2, c3], _ =>
  have f0 := hf 0 _ rfl
  have f1 := hf 1 _ rfl
  have f2 := hf 2 _ rfl
  have f3 := hf 3 _ rfl
  rw [List.getElem?_eq_getElem (by omega)] at f0 f1 f2 f3
  obtain ⟨a0, e0, _⟩ := T8 Tryz.underlying3 f0
  obtain ⟨a1, e1, _⟩ := B29 Tryz.underlying9 f1
  obtain ⟨v, l, e2, hv, _⟩ := B3r f2
  obtain ⟨a3, e3, _⟩ := T8 Tryz.underlying3 f3
  have e0 : [c0] = [.int .i64 a0] := e0
  have e1 : [c1] = [.string a1] := e1
  have e2 : [c2] = [v] := e2
  have e3 : [c3] = [.int .i64 a3] := e3
  cases e0; cases e1; cases e2; cases e3
  exact ⟨(⟨a0, a1, l, a3⟩, c2), rfl, hv⟩
theorem B19 {v : Value} {cs : Array Value} {l : List Value} (hv : v = .agg cs) (h : v.cells.toList = l) : v = .agg l.toArray := by
 subst hv
 have : cs.toList = l := h
 rw [← this]
theorem A9W {r : Reach} {b0 : Nat} {v : Value} {d : DataW H} {ps : List MemPlace} (hval : Value.okWide PR w r b0 23 v) (hd : DataW.Trod enc PR w base spare held 23 v d ps) : ∃ c : CfgV, v = c.val := by
 obtain ⟨cs, e, _⟩ := okWide_struct A2a.und hval
 obtain ⟨fuel, hf⟩ := hd
 obtain ⟨c, h, _⟩ := B3b hf
 exact ⟨c, B19 e h⟩
end
end Go.Proofs.YtjobgnabneddjaaGreat
namespace Go.Proofs.YtjobgnabneddjaaGreat
open Go Go.ChangeShapes Go.WideShapes Go.ChangeAt Go.RowKit
set_option maxRecDepth 10000
section
variable {H : Type} {enc : TypeId × Value → H} {w : World} {base : Nat} {spare : Nat → Bool} {held : Bool} {fuel : Nat} {cs : List Value} {x : DataW H × List MemPlace}
theorem B0S {r : Reach} {b0 : Nat} {v : Value} {d : DataW H} {ps : List MemPlace} (hval : Value.okWide PR w r b0 64 v) (hd : DataW.Trod enc PR w base spare held 64 v d ps) : ∃ o : OpV × Value, v = .agg (B13 o).toArray ∧ G3 w o.2 o.1.pool.length (o.1.pool.flatMap G8) := by
 obtain ⟨cs, e, _⟩ := okWide_struct A4y.und hval
 obtain ⟨fuel, hf⟩ := hd
 obtain ⟨o, h, ho⟩ := B5v hf
 exact ⟨o, B19 e h, ho⟩
end
end Go.Proofs.YtjobgnabneddjaaGreat
namespace Go.Proofs.YtjobgnabneddjaaGreat
open Go
def T4 (X : Nat → Prop) (t0 t1 t2 t3 t4 : Value) (R : Value → WP) : WP :=
 B7 PR X (Instr.box 23 t0) fun t5 =>
 B7 PR X (Instr.box 64 t2) fun t7 =>
 B6 PR X 28 [] fun t20 =>
 jn (n := 1) (fun t10 =>
 A6 PR (Instr.loadAt 23 t5) fun t23 =>
 B6 PR X 15 [t23] fun t24 =>
 jn (n := 1) (fun t10_1 =>
 A6 PR (Instr.loadAt 23 t5) fun t55 =>
 B6 PR X 16 [t55] fun t56 =>
 A0 PR (Instr.extract t56 0) fun t57 =>
 A0 PR (Instr.extract t56 1) fun t58 =>
 jn (n := 1) (fun t10_2 =>
 A6 PR (Instr.loadAt 64 t7) fun t67 =>
 B6 PR X 32 [t1, t67] fun t68 =>
 jn (n := 1) (fun t10_3 =>
 A0 PR (B1 t57) fun t96 =>
 A0 PR (Instr.fieldAt 39 t96 1) fun t97 =>
 A6 PR (Instr.loadAt 33 t97) fun t98 =>
 B6 PR X 19 [t98, t3, (.int .i64 99)] fun t100 =>
 jn (n := 1) (fun t16 =>
 jn (n := 2) (fun t17 t18 =>
 jn (n := 1) (fun t10_4 =>
 jn (n := 1) (fun t10_5 =>
 A0 PR (B1 t57) fun t172 =>
 A0 PR (Instr.fieldAt 39 t172 1) fun t173 =>
 A6 PR (Instr.loadAt 33 t173) fun t174 =>
 B6 PR X 25 [t174, t3, (.int .i64 99)] fun t176 =>
 B6 PR X 33 [t68, t57] fun t179 =>
 jn (n := 2) (fun t10_6 t19 =>
 gj t20 true (fun J => J t68) fun t195 =>
 gj t20 true (fun J => B6 PR X 38 [t195] J) fun t196 =>
 gj t20 true (fun J => A0 PR (binOp .eql 3 t196 (.int .i64 (-1))) J) fun t197 =>
 A0 PR (do pure (if ← asBool t20 then t197 else (.bool false))) fun t198 =>
 R t198) fun J1 =>
 lp (n := 2) (fun L2 t10_7 t19_1 =>
 jn (n := 0) (
 jn (n := 1) (fun t10_8 =>
 A0 PR (binOp .add 3 t19_1 (.int .i64 1)) fun t185 =>
 L2 t10_8 t185) fun J3 =>
 A0 PR (B1 t57) fun t187 =>
 A0 PR (Instr.fieldAt 39 t187 1) fun t188 =>
 A6 PR (Instr.loadAt 33 t188) fun t189 =>
 B6 PR X 37 [t189, t19_1] fun t191 =>
 A0 PR (binOp .neq 3 t191 (.int .i64 (-1))) fun t192 =>
 C2 t192 (
 R (.bool false)) (
 J3 t10_7)) fun J4 =>
 A0 PR (Instr.fieldAt 23 t5 1) fun t181 =>
 A6 PR (Instr.loadAt 3 t181) fun t182 =>
 A0 PR (binOp .lss 3 t19_1 t182) fun t183 =>
 C2 t183 (
 J4) (
 J1 t10_7 t19_1)) t10_5 (.int .i64 0)) fun J5 =>
 A0 PR (Instr.fieldAt 64 t7 0) fun t144 =>
 A6 PR (Instr.loadAt 3 t144) fun t145 =>
 A0 PR (binOp .eql 3 t145 (.int .i64 3)) fun t146 =>
 gj t146 true (fun J => J t17) fun t148 =>
 gj t146 true (fun J => J t4) fun t149 =>
 gj t146 true (fun J => J t3) fun t150 =>
 gj t146 true (fun J => A0 PR (A8 .min #[3, 3] 0 [t149, t150]) J) fun t151 =>
 gj t146 true (fun J => A0 PR (binOp .neq 3 t148 t151) J) fun t152 =>
 gj t146 true (fun J => J t152) fun t153 =>
 gj t153 false (fun J => J t68) fun t154 =>
 gj t153 false (fun J => B6 PR X 38 [t154] J) fun t155 =>
 gj t153 false (fun J => J t4) fun t156 =>
 gj t153 false (fun J => J t3) fun t157 =>
 gj t153 false (fun J => A0 PR (A8 .min #[3, 3] 0 [t156, t157]) J) fun t158 =>
 gj t153 false (fun J => A0 PR (binOp .neq 3 t155 t158) J) fun t159 =>
 gj t146 true (fun J => A0 PR (do pure (if ← asBool t153 then (.bool true) else t159)) J) fun t160 =>
 gj t146 true (fun J => J t160) fun t161 =>
 gj t161 false (fun J => J t68) fun t162 =>
 gj t161 false (fun J => J t57) fun t163 =>
 gj t161 false (fun J => B6 PR X 39 [t162, t163] J) fun t164 =>
 gj t161 false (fun J => J t4) fun t165 =>
 gj t161 false (fun J => J t3) fun t166 =>
 gj t161 false (fun J => A0 PR (binOp .lss 3 t165 t166) J) fun t167 =>
 gj t161 false (fun J => A0 PR (binOp .neq 4 t164 t167) J) fun t168 =>
 gj t146 true (fun J => A0 PR (do pure (if ← asBool t161 then (.bool true) else t168)) J) fun t169 =>
 A0 PR (do pure (if ← asBool t146 then t169 else (.bool false))) fun t170 =>
 C2 t170 (
 R (.bool false)) (
 J5 t10_4)) fun J6 =>
 A0 PR (Instr.fieldAt 64 t7 0) fun t125 =>
 A6 PR (Instr.loadAt 3 t125) fun t126 =>
 A0 PR (binOp .eql 3 t126 (.int .i64 2)) fun t127 =>
 gj t127 true (fun J => A0 PR (Instr.fieldAt 64 t7 3) J) fun t129 =>
 gj t127 true (fun J => A6 PR (Instr.loadAt 3 t129) J) fun t130 =>
 gj t127 true (fun J => J t3) fun t131 =>
 gj t127 true (fun J => A0 PR (binOp .eql 3 t130 t131) J) fun t132 =>
 A0 PR (do pure (if ← asBool t127 then t132 else (.bool false))) fun t133 =>
 gj t133 true (fun J => J t68) fun t135 =>
 gj t133 true (fun J => B6 PR X 38 [t135] J) fun t136 =>
 gj t133 true (fun J => A0 PR (binOp .neq 3 t136 (.int .i64 0)) J) fun t137 =>
 gj t133 true (fun J => J t137) fun t138 =>
 gj t138 false (fun J => J t68) fun t139 =>
 gj t138 false (fun J => J t57) fun t140 =>
 gj t138 false (fun J => B6 PR X 39 [t139, t140] J) fun t141 =>
 gj t133 true (fun J => A0 PR (do pure (if ← asBool t138 then (.bool true) else t141)) J) fun t142 =>
 A0 PR (do pure (if ← asBool t133 then t142 else (.bool false))) fun t143 =>
 C2 t143 (
 R (.bool false)) (
 J6 t10_3)) fun J7 =>
 lp (n := 2) (fun L8 t17_1 t18_1 =>
 jn (n := 0) (
 jn (n := 1) (fun t17_2 =>
 A0 PR (binOp .add 3 t18_1 (.int .i64 1)) fun t114 =>
 L8 t17_2 t114) fun J9 =>
 A0 PR (B1 t57) fun t116 =>
 A0 PR (Instr.fieldAt 39 t116 1) fun t117 =>
 A6 PR (Instr.loadAt 33 t117) fun t118 =>
 B6 PR X 37 [t118, t18_1] fun t120 =>
 A0 PR (binOp .eql 3 t120 t1) fun t122 =>
 C2 t122 (
 A0 PR (binOp .add 3 t17_1 (.int .i64 1)) fun t124 =>
 J9 t124) (
 J9 t17_1)) fun J10 =>
 A0 PR (Instr.fieldAt 23 t5 1) fun t110 =>
 A6 PR (Instr.loadAt 3 t110) fun t111 =>
 A0 PR (binOp .lss 3 t18_1 t111) fun t112 =>
 C2 t112 (
 J10) (
 J7 t17_1 t18_1)) (.int .i64 0) (.int .i64 0)) fun J11 =>
 lp (n := 1) (fun L12 t16_1 =>
 jn (n := 0) (
 jn (n := 0) (
 A0 PR (binOp .add 3 t16_1 (.int .i64 1)) fun t105 =>
 L12 t105) fun J13 =>
 B6 PR X 36 [t68, t57] fun t108 =>
 J13) fun J14 =>
 A0 PR (binOp .lss 3 t16_1 t4) fun t103 =>
 C2 t103 (
 J14) (
 J11 t16_1)) (.int .i64 0)) fun J15 =>
 B6 PR X 30 [t57] fun t70 =>
 A0 PR (Op.unary .not t70) fun t71 =>
 gj t71 false (fun J => J t68) fun t73 =>
 gj t71 false (fun J => A6 PR (F3 .eql 61 (.tmp 73) (.const (.pointer none)) t73 (.pointer none)) J) fun t74 =>
 A0 PR (do pure (if ← asBool t71 then (.bool true) else t74)) fun t75 =>
 gj t75 false (fun J => J t3) fun t77 =>
 gj t75 false (fun J => A0 PR (binOp .lss 3 t77 (.int .i64 0)) J) fun t78 =>
 A0 PR (do pure (if ← asBool t75 then (.bool true) else t78)) fun t79 =>
 gj t79 false (fun J => J t3) fun t81 =>
 gj t79 false (fun J => A0 PR (Instr.fieldAt 23 t5 1) J) fun t82 =>
 gj t79 false (fun J => A6 PR (Instr.loadAt 3 t82) J) fun t83 =>
 gj t79 false (fun J => A0 PR (binOp .geq 3 t81 t83) J) fun t84 =>
 A0 PR (do pure (if ← asBool t79 then (.bool true) else t84)) fun t85 =>
 C2 t85 (
 gj t20 true (fun J => J t68) fun t88 =>
 gj t20 true (fun J => A6 PR (F3 .neq 61 (.tmp 88) (.const (.pointer none)) t88 (.pointer none)) J) fun t89 =>
 A0 PR (do pure (if ← asBool t20 then t89 else (.bool false))) fun t90 =>
 gj t90 true (fun J => J t57) fun t92 =>
 gj t90 true (fun J => B6 PR X 30 [t92] J) fun t93 =>
 A0 PR (do pure (if ← asBool t90 then t93 else (.bool false))) fun t94 =>
 R t94) (
 J15 t10_2)) fun J16 =>
 A0 PR (binOp .neq 27 t58 (.int .i64 0)) fun t60 =>
 C2 t60 (
 gj t20 true (fun J => J t57) fun t63 =>
 gj t20 true (fun J => A6 PR (F3 .eql 26 (.tmp 63) (.const (.pointer none)) t63 (.pointer none)) J) fun t64 =>
 A0 PR (do pure (if ← asBool t20 then t64 else (.bool false))) fun t65 =>
 R t65) (
 J16 t10_1)) fun J17 =>
 A0 PR (Op.unary .not t24) fun t26 =>
 gj t26 false (fun J => A0 PR (Instr.fieldAt 64 t7 0) J) fun t28 =>
 gj t26 false (fun J => A6 PR (Instr.loadAt 3 t28) J) fun t29 =>
 gj t26 false (fun J => A0 PR (binOp .neq 3 t29 (.int .i64 2)) J) fun t30 =>
 gj t26 false (fun J => J t30) fun t31 =>
 gj t31 true (fun J => A0 PR (Instr.fieldAt 64 t7 0) J) fun t32 =>
 gj t31 true (fun J => A6 PR (Instr.loadAt 3 t32) J) fun t33 =>
 gj t31 true (fun J => A0 PR (binOp .neq 3 t33 (.int .i64 3)) J) fun t34 =>
 gj t26 false (fun J => A0 PR (do pure (if ← asBool t31 then t34 else (.bool false))) J) fun t35 =>
 A0 PR (do pure (if ← asBool t26 then (.bool true) else t35)) fun t36 =>
 gj t36 false (fun J => J t1) fun t38 =>
 gj t36 false (fun J => A0 PR (binOp .lss 3 t38 (.int .i64 0)) J) fun t39 =>
 A0 PR (do pure (if ← asBool t36 then (.bool true) else t39)) fun t40 =>
 gj t40 false (fun J => J t1) fun t42 =>
 gj t40 false (fun J => A0 PR (binOp .gtr 3 t42 (.int .i64 60)) J) fun t43 =>
 A0 PR (do pure (if ← asBool t40 then (.bool true) else t43)) fun t44 =>
 gj t44 false (fun J => J t4) fun t46 =>
 gj t44 false (fun J => A0 PR (binOp .lss 3 t46 (.int .i64 0)) J) fun t47 =>
 A0 PR (do pure (if ← asBool t44 then (.bool true) else t47)) fun t48 =>
 gj t48 false (fun J => J t4) fun t50 =>
 gj t48 false (fun J => A0 PR (binOp .gtr 3 t50 (.int .i64 60)) J) fun t51 =>
 A0 PR (do pure (if ← asBool t48 then (.bool true) else t51)) fun t52 =>
 C2 t52 (
 R t20) (
 J17 t10)) fun J18 =>
 A0 PR (Op.unary .not t20) fun t22 =>
 C2 t22 (
 R (.bool false)) (
 J18 (.bool false))
theorem w9 {X : Nat → Prop} {t0 t1 t2 t3 t4 : Value} {R : Value → WP} {w : World} (h : T4 X t0 t1 t2 t3 t4 R w) : Fn PR X 5 #[t0, t1, t2, t3, t4] w R := C9 (args := [t0, t1, t2, t3, t4]) mixed Tryz.func5 (by kernel_rfl) h
end Go.Proofs.YtjobgnabneddjaaGreat
namespace Go.Proofs.YtjobgnabneddjaaGreat
open Go
def c9 (X : Nat → Prop) (R : Value → WP) : WP :=
 A0 PR (Instr.build 23 #[(0, (.int .i64 1)), (1, (.int .i64 1)), (2, (.int .i64 1)), (3, (.int .i64 5)), (4, (.int .i64 2))]) fun t8 =>
 B6 PR X 16 [t8] fun t9 =>
 A0 PR (Instr.extract t9 0) fun t10 =>
 A0 PR (Instr.extract t9 1) fun t11 =>
 A0 PR (Instr.build 155 #[(0, (.int .i64 7)), (1, (.int .i64 1))]) fun t12 =>
 B7 PR X (Instr.buildSlice 58 1 #[(0, t12)]) fun t13 =>
 A0 PR (Instr.build 64 #[(0, (.int .i64 1)), (2, t13)]) fun t14 =>
 B6 PR X 32 [(.int .i64 0), t14] fun t15 =>
 A0 PR (Instr.build 64 #[(0, (.int .i64 1))]) fun t16 =>
 B6 PR X 32 [(.int .i64 1), t16] fun t17 =>
 jn (n := 1) (fun t0 =>
 jn (n := 1) (fun t5 =>
 B6 PR X 36 [t17, t10] fun t42 =>
 B7 PR X (Instr.alloc 42 true (.tuple #[])) fun t6 =>
 C6 PR X (Instr.storeAt 42 t6 t42) <|
 A0 PR (binOp .eql 3 t5 (.int .i64 6)) fun t44 =>
 gj t44 true (fun J => J t15) fun t46 =>
 gj t44 true (fun J => B6 PR X 34 [t46] J) fun t47 =>
 gj t44 true (fun J => A0 PR (Instr.build 55 #[]) J) fun t48 =>
 gj t44 true (fun J => A6 PR (F3 .eql 55 (.tmp 47) (.tmp 48) t47 t48) J) fun t49 =>
 A0 PR (do pure (if ← asBool t44 then t49 else (.bool false))) fun t50 =>
 gj t50 true (fun J => J t15) fun t52 =>
 gj t50 true (fun J => B6 PR X 38 [t52] J) fun t53 =>
 gj t50 true (fun J => A0 PR (binOp .eql 3 t53 (.int .i64 (-1))) J) fun t54 =>
 A0 PR (do pure (if ← asBool t50 then t54 else (.bool false))) fun t55 =>
 gj t55 true (fun J => A6 PR (Instr.loadAt 42 t6) J) fun t57 =>
 gj t55 true (fun J => A0 PR (Instr.build 42 #[(0, (.bool true)), (1, (.bool true))]) J) fun t58 =>
 gj t55 true (fun J => A6 PR (F3 .eql 42 (.tmp 57) (.tmp 58) t57 t58) J) fun t59 =>
 A0 PR (do pure (if ← asBool t55 then t59 else (.bool false))) fun t60 =>
 gj t60 true (fun J => J t17) fun t62 =>
 gj t60 true (fun J => B6 PR X 34 [t62] J) fun t63 =>
 gj t60 true (fun J => A0 PR (Instr.build 55 #[(0, (.int .i64 1))]) J) fun t64 =>
 gj t60 true (fun J => A6 PR (F3 .eql 55 (.tmp 63) (.tmp 64) t63 t64) J) fun t65 =>
 A0 PR (do pure (if ← asBool t60 then t65 else (.bool false))) fun t66 =>
 gj t66 true (fun J => J t17) fun t68 =>
 gj t66 true (fun J => J t10) fun t69 =>
 gj t66 true (fun J => B6 PR X 39 [t68, t69] J) fun t70 =>
 gj t66 true (fun J => A0 PR (Op.unary .not t70) J) fun t71 =>
 A0 PR (do pure (if ← asBool t66 then t71 else (.bool false))) fun t72 =>
 R t72) fun J1 =>
 lp (n := 1) (fun L2 t5_1 =>
 jn (n := 0) (
 B6 PR X 36 [t15, t10] fun t37 =>
 A0 PR (binOp .add 3 t5_1 (.int .i64 1)) fun t39 =>
 L2 t39) fun J3 =>
 A0 PR (binOp .lss 3 t5_1 (.int .i64 20)) fun t29 =>
 gj t29 true (fun J => J t15) fun t31 =>
 gj t29 true (fun J => J t10) fun t32 =>
 gj t29 true (fun J => B6 PR X 39 [t31, t32] J) fun t33 =>
 A0 PR (do pure (if ← asBool t29 then t33 else (.bool false))) fun t34 =>
 C2 t34 (
 J3) (
 J1 t5_1)) (.int .i64 0)) fun J4 =>
 A6 PR (F3 .eql 26 (.tmp 18) (.const (.pointer none)) t10 (.pointer none)) fun t19 =>
 gj t19 false (fun J => J t15) fun t21 =>
 gj t19 false (fun J => A6 PR (F3 .eql 61 (.tmp 21) (.const (.pointer none)) t21 (.pointer none)) J) fun t22 =>
 A0 PR (do pure (if ← asBool t19 then (.bool true) else t22)) fun t23 =>
 gj t23 false (fun J => J t17) fun t25 =>
 gj t23 false (fun J => A6 PR (F3 .eql 61 (.tmp 25) (.const (.pointer none)) t25 (.pointer none)) J) fun t26 =>
 A0 PR (do pure (if ← asBool t23 then (.bool true) else t26)) fun t27 =>
 C2 t27 (
 R (.bool false)) (
 J4 (.bool false))
theorem A1H : A9 PR 28 := A7 Tryz.func28 (by kernel_rfl) rfl
theorem A1m {X : Nat → Prop} {R : Value → WP} {w : World} (h : c9 X R w) : Fn PR X 28 #[] w R := C9 (args := []) mixed Tryz.func28 (by kernel_rfl) h
def c7 (X : Nat → Prop) (t0 : Value) (R : Value → WP) : WP :=
 A6 PR (F3 .neq 26 (.tmp 3) (.const (.pointer none)) t0 (.pointer none)) fun t4 =>
 gj t4 true (fun J => J t0) fun t6 =>
 gj t4 true (fun J => A0 PR (B1 t6) J) fun t7 =>
 gj t4 true (fun J => A0 PR (Instr.fieldAt 39 t7 1) J) fun t8 =>
 gj t4 true (fun J => A6 PR (Instr.loadAt 33 t8) J) fun t9 =>
 gj t4 true (fun J => A6 PR (F3 .neq 33 (.tmp 9) (.const (.pointer none)) t9 (.pointer none)) J) fun t10 =>
 A0 PR (do pure (if ← asBool t4 then t10 else (.bool false))) fun t11 =>
 gj t11 true (fun J => J t0) fun t13 =>
 gj t11 true (fun J => A0 PR (B1 t13) J) fun t14 =>
 gj t11 true (fun J => A0 PR (Instr.fieldAt 39 t14 2) J) fun t15 =>
 gj t11 true (fun J => A6 PR (Instr.loadAt 34 t15) J) fun t16 =>
 gj t11 true (fun J => A6 PR (F3 .neq 34 (.tmp 16) (.const (.pointer none)) t16 (.pointer none)) J) fun t17 =>
 A0 PR (do pure (if ← asBool t11 then t17 else (.bool false))) fun t18 =>
 gj t18 true (fun J => J t0) fun t20 =>
 gj t18 true (fun J => A0 PR (B1 t20) J) fun t21 =>
 gj t18 true (fun J => A0 PR (Instr.fieldAt 39 t21 3) J) fun t22 =>
 gj t18 true (fun J => A6 PR (Instr.loadAt 35 t22) J) fun t23 =>
 gj t18 true (fun J => A6 PR (F3 .neq 35 (.tmp 23) (.const (.pointer none)) t23 (.pointer none)) J) fun t24 =>
 A0 PR (do pure (if ← asBool t18 then t24 else (.bool false))) fun t25 =>
 R t25
theorem F7 : A9 PR 30 := A7 Tryz.func30 (by kernel_rfl) rfl
theorem A1j {X : Nat → Prop} {t0 : Value} {R : Value → WP} {w : World} (h : c7 X t0 R w) : Fn PR X 30 #[t0] w R := C9 (args := [t0]) mixed Tryz.func30 (by kernel_rfl) h
def m9 (X : Nat → Prop) (t0 t1 : Value) (R : Value → WP) : WP :=
 jn (n := 3) (fun t7 t8 t9 =>
 R (.tuple #[t7, t8, t9])) fun J1 =>
 lp (n := 3) (fun L2 t7_1 t8_1 t9_1 =>
 jn (n := 0) (
 B6 PR X 36 [t0, t1] fun t20 =>
 B7 PR X (Instr.alloc 42 true (.tuple #[])) fun t10 =>
 C6 PR X (Instr.storeAt 42 t10 t20) <|
 A0 PR (binOp .add 3 t7_1 (.int .i64 1)) fun t22 =>
 jn (n := 1) (fun t8_2 =>
 A0 PR (Instr.fieldAt 42 t10 2) fun t27 =>
 A6 PR (Instr.loadAt 4 t27) fun t28 =>
 C2 t28 (
 A0 PR (binOp .add 3 t9_1 (.int .i64 1)) fun t30 =>
 L2 t22 t8_2 t30) (
 L2 t22 t8_2 t9_1)) fun J3 =>
 A0 PR (Instr.fieldAt 42 t10 0) fun t23 =>
 A6 PR (Instr.loadAt 4 t23) fun t24 =>
 C2 t24 (
 A0 PR (binOp .add 3 t8_1 (.int .i64 1)) fun t26 =>
 J3 t26) (
 J3 t8_1)) fun J4 =>
 A0 PR (binOp .lss 3 t7_1 (.int .i64 200)) fun t12 =>
 gj t12 true (fun J => J t0) fun t14 =>
 gj t12 true (fun J => J t1) fun t15 =>
 gj t12 true (fun J => B6 PR X 39 [t14, t15] J) fun t16 =>
 A0 PR (do pure (if ← asBool t12 then t16 else (.bool false))) fun t17 =>
 C2 t17 (
 J4) (
 J1 t7_1 t8_1 t9_1)) (.int .i64 0) (.int .i64 0) (.int .i64 0)
theorem M8 : A9 PR 33 := A7 Tryz.func33 (by kernel_rfl) rfl
theorem A22 {X : Nat → Prop} {t0 t1 : Value} {R : Value → WP} {w : World} (h : m9 X t0 t1 R w) : Fn PR X 33 #[t0, t1] w R := C9 (args := [t0, t1]) mixed Tryz.func33 (by kernel_rfl) h
end Go.Proofs.YtjobgnabneddjaaGreat
namespace Go.Proofs.YtjobgnabneddjaaGreat
open Go
def b9 (X : Nat → Prop) (t0 t1 : Value) (R : Value → WP) : WP :=
 B7 PR X (Instr.box 64 t1) fun t3 =>
 A0 PR (Instr.build 160 #[(0, t0)]) fun t7 =>
 B7 PR X (Instr.alloc 160 true (.tuple #[])) fun t5 =>
 C6 PR X (Instr.storeAt 160 t5 t7) <|
 jn (n := 1) (fun t4 =>
 A6 PR (Instr.loadAt 160 t5) fun t38 =>
 A0 PR (Instr.build 175 #[(0, t38)]) fun t39 =>
 B7 PR X (Instr.box 175 t39) fun t40 =>
 A0 PR (Instr.makeInterface 174 t40) fun t41 =>
 A0 PR (Instr.build 167 #[(0, t41)]) fun t42 =>
 B7 PR X (Instr.box 167 t42) fun t43 =>
 R t43) fun J1 =>
 A0 PR (Instr.fieldAt 64 t3 0) fun t8 =>
 A6 PR (Instr.loadAt 3 t8) fun t9 =>
 A0 PR (binOp .eql 3 t9 (.int .i64 1)) fun t11 =>
 C2 t11 (
 A6 PR (Instr.loadAt 160 t5) fun t12 =>
 A0 PR (Instr.fieldAt 64 t3 2) fun t13 =>
 A6 PR (Instr.loadAt 58 t13) fun t14 =>
 A0 PR (Instr.build 163 #[(0, t12), (1, t14)]) fun t15 =>
 B7 PR X (Instr.box 163 t15) fun t16 =>
 A0 PR (Instr.makeInterface 161 t16) fun t17 =>
 A0 PR (Instr.build 167 #[(0, t17)]) fun t18 =>
 B7 PR X (Instr.box 167 t18) fun t19 =>
 R t19) (
 A0 PR (binOp .eql 3 t9 (.int .i64 2)) fun t21 =>
 C2 t21 (
 A6 PR (Instr.loadAt 160 t5) fun t22 =>
 A0 PR (Instr.fieldAt 64 t3 3) fun t23 =>
 A6 PR (Instr.loadAt 3 t23) fun t24 =>
 A0 PR (Instr.build 170 #[(0, t22), (1, t24)]) fun t25 =>
 B7 PR X (Instr.box 170 t25) fun t26 =>
 A0 PR (Instr.makeInterface 168 t26) fun t27 =>
 A0 PR (Instr.build 167 #[(0, t27)]) fun t28 =>
 B7 PR X (Instr.box 167 t28) fun t29 =>
 R t29) (
 A0 PR (binOp .eql 3 t9 (.int .i64 3)) fun t31 =>
 C2 t31 (
 A6 PR (Instr.loadAt 160 t5) fun t32 =>
 A0 PR (Instr.build 173 #[(0, t32)]) fun t33 =>
 B7 PR X (Instr.box 173 t33) fun t34 =>
 A0 PR (Instr.makeInterface 171 t34) fun t35 =>
 A0 PR (Instr.build 167 #[(0, t35)]) fun t36 =>
 B7 PR X (Instr.box 167 t36) fun t37 =>
 R t37) (
 J1 (.pointer none))))
theorem Y3 : A9 PR 32 := A7 Tryz.func32 (by kernel_rfl) rfl
theorem A0E {X : Nat → Prop} {t0 t1 : Value} {R : Value → WP} {w : World} (h : b9 X t0 t1 R w) : Fn PR X 32 #[t0, t1] w R := C9 (args := [t0, t1]) mixed Tryz.func32 (by kernel_rfl) h
def q6 (X : Nat → Prop) (t0 : Value) (R : Value → WP) : WP :=
 B7 PR X (Instr.alloc 55 true (.tuple #[])) fun t2 =>
 A0 PR (B1 t0) fun t4 =>
 A0 PR (Instr.fieldAt 167 t4 0) fun t5 =>
 A6 PR (Instr.loadAt 165 t5) fun t6 =>
 inv PR X t6 "gangplank/control.common" [] fun t7 =>
 A0 PR (B1 t7) fun t8 =>
 A0 PR (Instr.fieldAt 160 t8 2) fun t9 =>
 A6 PR (Instr.loadAt 55 t9) fun t10 =>
 C6 PR X (Instr.storeAt 55 t2 t10) <|
 A6 PR (F1 [.c 55 t2]) R
theorem f8 : A9 PR 34 := A7 Tryz.func34 (by kernel_rfl) rfl
theorem A3C {X : Nat → Prop} {t0 : Value} {R : Value → WP} {w : World} (h : q6 X t0 R w) : Fn PR X 34 #[t0] w R := C9 (args := [t0]) mixed Tryz.func34 (by kernel_rfl) h
def Y2 (X : Nat → Prop) (t0 t1 : Value) (R : Value → WP) : WP :=
 B7 PR X (Instr.alloc 42 true (.tuple #[])) fun t4 =>
 jn (n := 0) (
 A0 PR (B1 t0) fun t11 =>
 A0 PR (Instr.fieldAt 167 t11 0) fun t12 =>
 A6 PR (Instr.loadAt 165 t12) fun t13 =>
 inv PR X t13 "gangplank/control.step" [t1] fun t15 =>
 C6 PR X (Instr.storeAt 42 t4 t15) <|
 A6 PR (F1 [.c 42 t4]) R) fun J1 =>
 B6 PR X 39 [t0, t1] fun t7 =>
 A0 PR (Op.unary .not t7) fun t8 =>
 C2 t8 (
 A0 PR (Instr.build 42 #[]) fun t9 =>
 C6 PR X (Instr.storeAt 42 t4 t9) <|
 A6 PR (F1 [.c 42 t4]) R) (
 J1)
theorem L0 : A9 PR 36 := A7 Tryz.func36 (by kernel_rfl) rfl
theorem y5 {X : Nat → Prop} {t0 t1 : Value} {R : Value → WP} {w : World} (h : Y2 X t0 t1 R w) : Fn PR X 36 #[t0, t1] w R := C9 (args := [t0, t1]) mixed Tryz.func36 (by kernel_rfl) h
def r8 (X : Nat → Prop) (t0 : Value) (R : Value → WP) : WP :=
 A0 PR (B1 t0) fun t4 =>
 A0 PR (Instr.fieldAt 167 t4 0) fun t5 =>
 A6 PR (Instr.loadAt 165 t5) fun t6 =>
 inv PR X t6 "gangplank/control.common" [] fun t7 =>
 A0 PR (B1 t7) fun t8 =>
 A0 PR (Instr.fieldAt 160 t8 1) fun t9 =>
 A6 PR (Instr.loadAt 3 t9) fun t10 =>
 R t10
theorem E3 : A9 PR 38 := A7 Tryz.func38 (by kernel_rfl) rfl
theorem A3Y {X : Nat → Prop} {t0 : Value} {R : Value → WP} {w : World} (h : r8 X t0 R w) : Fn PR X 38 #[t0] w R := C9 (args := [t0]) mixed Tryz.func38 (by kernel_rfl) h
def x7 (X : Nat → Prop) (t0 t1 : Value) (R : Value → WP) : WP :=
 B6 PR X 38 [t0] fun t6 =>
 A0 PR (binOp .neq 3 t6 (.int .i64 (-1))) fun t7 =>
 gj t7 true (fun J => J t0) fun t9 =>
 gj t7 true (fun J => A0 PR (B1 t9) J) fun t10 =>
 gj t7 true (fun J => A0 PR (Instr.fieldAt 167 t10 0) J) fun t11 =>
 gj t7 true (fun J => A6 PR (Instr.loadAt 165 t11) J) fun t12 =>
 gj t7 true (fun J => J t1) fun t13 =>
 gj t7 true (fun J => inv PR X t12 "gangplank/control.waits" [t13] J) fun t14 =>
 gj t7 true (fun J => A0 PR (Op.unary .not t14) J) fun t15 =>
 A0 PR (do pure (if ← asBool t7 then t15 else (.bool false))) fun t16 =>
 R t16
theorem E5 : A9 PR 39 := A7 Tryz.func39 (by kernel_rfl) rfl
theorem A35 {X : Nat → Prop} {t0 t1 : Value} {R : Value → WP} {w : World} (h : x7 X t0 t1 R w) : Fn PR X 39 #[t0, t1] w R := C9 (args := [t0, t1]) mixed Tryz.func39 (by kernel_rfl) h
def c8 (X : Nat → Prop) (t0 : Value) (R : Value → WP) : WP :=
 jn (n := 1) (fun t2 =>
 A0 PR (B1 t0) fun t10 =>
 A0 PR (Instr.fieldAt 163 t10 1) fun t11 =>
 A6 PR (Instr.loadAt 58 t11) fun t12 =>
 B6 PR X 29 [t12] fun t13 =>
 R t13) fun J1 =>
 A0 PR (B1 t0) fun t4 =>
 A0 PR (Instr.fieldAt 163 t4 0) fun t5 =>
 A0 PR (Instr.fieldAt 160 t5 0) fun t6 =>
 A6 PR (Instr.loadAt 3 t6) fun t7 =>
 A0 PR (binOp .neq 3 t7 (.int .i64 0)) fun t8 =>
 C2 t8 (
 R (.int .i64 1)) (
 J1 (.int .i64 0))
theorem Z0 : A9 PR 316 := A7 Tryz.func316 (by kernel_rfl) rfl
theorem A1f {X : Nat → Prop} {t0 : Value} {R : Value → WP} {w : World} (h : c8 X t0 R w) : Fn PR X 316 #[t0] w R := C9 (args := [t0]) mixed Tryz.func316 (by kernel_rfl) h
def g7 (X : Nat → Prop) (t0 : Value) (R : Value → WP) : WP :=
 R t0
theorem A2T {X : Nat → Prop} {t0 : Value} {R : Value → WP} {w : World} (h : g7 X t0 R w) : Fn PR X 317 #[t0] w R := C9 (args := [t0]) mixed Tryz.func317 (by kernel_rfl) h
def j1 (X : Nat → Prop) (t0 t1 : Value) (R : Value → WP) : WP :=
 B7 PR X (Instr.alloc 42 true (.tuple #[])) fun t4 =>
 drw <|
 A0 PR (B1 t0) fun t9 =>
 A0 PR (Instr.fieldAt 163 t9 0) fun t10 =>
 A0 PR (Instr.fieldAt 160 t10 1) fun t11 =>
 A6 PR (Instr.loadAt 3 t11) fun t12 =>
 A0 PR (B1 t1) fun t14 =>
 A0 PR (Instr.fieldAt 39 t14 0) fun t15 =>
 A0 PR (Instr.fieldAt 23 t15 0) fun t16 =>
 A6 PR (Instr.loadAt 3 t16) fun t17 =>
 A0 PR (binOp .sub 3 t12 t17) fun t18 =>
 jn (n := 0) (
 A0 PR (B1 t0) fun t76 =>
 A0 PR (Instr.fieldAt 163 t76 0) fun t77 =>
 A0 PR (Instr.fieldAt 160 t77 1) fun t78 =>
 A6 PR (Instr.loadAt 3 t78) fun t79 =>
 A0 PR (binOp .add 3 t79 (.int .i64 1)) fun t80 =>
 A0 PR (B1 t0) fun t81 =>
 A0 PR (Instr.fieldAt 163 t81 0) fun t82 =>
 A0 PR (Instr.fieldAt 160 t82 1) fun t83 =>
 C6 PR X (Instr.storeAt 3 t83 t80) <|
 jn (n := 0) (
 A0 PR (Instr.build 42 #[]) fun t148 =>
 C6 PR X (Instr.storeAt 42 t4 t148) <|
 A6 PR (F1 [.c 42 t4]) R) fun J1 =>
 A0 PR (binOp .eql 3 t18 (.int .i64 1)) fun t111 =>
 C2 t111 (
 drw <|
 A0 PR (B1 t1) fun t113 =>
 A0 PR (Instr.fieldAt 39 t113 2) fun t114 =>
 A6 PR (Instr.loadAt 34 t114) fun t115 =>
 A0 PR (B1 t0) fun t117 =>
 A0 PR (Instr.fieldAt 163 t117 3) fun t118 =>
 A6 PR (Instr.loadAt 3 t118) fun t119 =>
 A0 PR (B1 t0) fun t121 =>
 A0 PR (Instr.fieldAt 163 t121 1) fun t122 =>
 A6 PR (Instr.loadAt 58 t122) fun t123 =>
 B6 PR X 95 [t115, t119, t123] fun t124 =>
 J1) (
 A0 PR (binOp .eql 3 t18 (.int .i64 2)) fun t126 =>
 C2 t126 (
 A0 PR (B1 t1) fun t129 =>
 A0 PR (Instr.fieldAt 39 t129 1) fun t130 =>
 A6 PR (Instr.loadAt 33 t130) fun t131 =>
 B6 PR X 35 [t131, (.int .i64 1)] fun t132 =>
 A0 PR (B1 t0) fun t133 =>
 A0 PR (Instr.fieldAt 163 t133 4) fun t134 =>
 C6 PR X (Instr.storeAt 3 t134 t132) <|
 J1) (
 A0 PR (binOp .eql 3 t18 (.int .i64 3)) fun t136 =>
 C2 t136 (
 drw <|
 A0 PR (B1 t1) fun t138 =>
 A0 PR (Instr.fieldAt 39 t138 1) fun t139 =>
 A6 PR (Instr.loadAt 33 t139) fun t140 =>
 A0 PR (B1 t0) fun t142 =>
 A0 PR (Instr.fieldAt 163 t142 3) fun t143 =>
 A6 PR (Instr.loadAt 3 t143) fun t144 =>
 A0 PR (binOp .add 3 t144 (.int .i64 1)) fun t145 =>
 B6 PR X 31 [t140, (.int .i64 1), t145] fun t146 =>
 A0 PR (Instr.build 42 #[(0, (.bool true))]) fun t147 =>
 C6 PR X (Instr.storeAt 42 t4 t147) <|
 A6 PR (F1 [.c 42 t4]) R) (
 jn (n := 0) (
 A0 PR (B1 t0) fun t107 =>
 A0 PR (Instr.fieldAt 163 t107 0) fun t108 =>
 B6 PR X 323 [t108] fun t109 =>
 C6 PR X (Instr.storeAt 42 t4 t109) <|
 A6 PR (F1 [.c 42 t4]) R) fun J2 =>
 A0 PR (B1 t1) fun t86 =>
 A0 PR (Instr.fieldAt 39 t86 1) fun t87 =>
 A6 PR (Instr.loadAt 33 t87) fun t88 =>
 B6 PR X 93 [t88, (.int .i64 0), (.int .i64 1)] fun t89 =>
 A0 PR (B1 t0) fun t91 =>
 A0 PR (Instr.fieldAt 163 t91 4) fun t92 =>
 A6 PR (Instr.loadAt 3 t92) fun t93 =>
 A0 PR (binOp .gtr 3 t93 (.int .i64 0)) fun t94 =>
 C2 t94 (
 drw <|
 A0 PR (B1 t1) fun t96 =>
 A0 PR (Instr.fieldAt 39 t96 3) fun t97 =>
 A6 PR (Instr.loadAt 35 t97) fun t98 =>
 A0 PR (B1 t0) fun t100 =>
 A0 PR (Instr.fieldAt 163 t100 4) fun t101 =>
 A6 PR (Instr.loadAt 3 t101) fun t102 =>
 A0 PR (binOp .sub 3 t102 (.int .i64 1)) fun t103 =>
 B6 PR X 322 [t98, t103, t89] fun t105 =>
 J2) (
 J2))))) fun J3 =>
 jn (n := 0) (
 jn (n := 0) (
 J3) fun J4 =>
 B6 PR X 321 [t0, t1] fun t74 =>
 C6 PR X (Instr.storeAt 42 t4 t74) <|
 A6 PR (F1 [.c 42 t4]) R) fun J5 =>
 jn (n := 0) (
 jn (n := 0) (
 J3) fun J6 =>
 A0 PR (B1 t0) fun t42 =>
 A0 PR (Instr.fieldAt 163 t42 0) fun t43 =>
 A0 PR (Instr.fieldAt 160 t43 1) fun t44 =>
 A6 PR (Instr.loadAt 3 t44) fun t45 =>
 A0 PR (binOp .add 3 t45 (.int .i64 1)) fun t46 =>
 A0 PR (B1 t0) fun t47 =>
 A0 PR (Instr.fieldAt 163 t47 0) fun t48 =>
 A0 PR (Instr.fieldAt 160 t48 1) fun t49 =>
 C6 PR X (Instr.storeAt 3 t49 t46) <|
 drw <|
 A0 PR (B1 t0) fun t52 =>
 A0 PR (Instr.fieldAt 163 t52 2) fun t53 =>
 A6 PR (Instr.loadAt 37 t53) fun t54 =>
 A0 PR (B1 t1) fun t56 =>
 A0 PR (Instr.fieldAt 39 t56 1) fun t57 =>
 A6 PR (Instr.loadAt 33 t57) fun t58 =>
 A0 PR (B1 t0) fun t61 =>
 A0 PR (Instr.fieldAt 163 t61 0) fun t62 =>
 A0 PR (Instr.fieldAt 160 t62 1) fun t63 =>
 A6 PR (Instr.loadAt 3 t63) fun t64 =>
 B6 PR X 57 [t1, t64] fun t65 =>
 watch PR [(none, (Instr.loadAt 33 t57), t58), (none, (Instr.loadAt 37 t53), t54)] <|
 B6 PR X 35 [t58, t65] fun t66 =>
 watch PR [(none, (Instr.loadAt 37 t53), t54)] <|
 B7 PR X (Instr.buildSlice 37 1 #[(0, t66)]) fun t67 =>
 watch PR [(none, (Instr.loadAt 37 t53), t54)] <|
 B7 PR X (A8 .append #[37, 37] 37 [t54, t67]) fun t68 =>
 A0 PR (B1 t0) fun t69 =>
 A0 PR (Instr.fieldAt 163 t69 2) fun t70 =>
 C6 PR X (Instr.storeAt 37 t70 t68) <|
 A0 PR (Instr.build 42 #[]) fun t71 =>
 C6 PR X (Instr.storeAt 42 t4 t71) <|
 A6 PR (F1 [.c 42 t4]) R) fun J7 =>
 jn (n := 0) (
 B6 PR X 316 [t0] fun t33 =>
 A0 PR (binOp .neq 27 t33 (.int .i64 0)) fun t35 =>
 C2 t35 (
 A0 PR (B1 t0) fun t37 =>
 A0 PR (Instr.fieldAt 163 t37 0) fun t38 =>
 B6 PR X 320 [t38, t33] fun t40 =>
 C6 PR X (Instr.storeAt 42 t4 t40) <|
 A6 PR (F1 [.c 42 t4]) R) (
 J7)) fun J8 =>
 jn (n := 0) (
 J3) fun J9 =>
 jn (n := 0) (
 jn (n := 0) (
 A0 PR (binOp .eql 3 t18 (.int .i64 0)) fun t31 =>
 C2 t31 (
 J5) (
 J9)) fun J10 =>
 A0 PR (binOp .lss 3 t18 (.int .i64 0)) fun t28 =>
 C2 t28 (
 J7) (
 J10)) fun J11 =>
 A0 PR (B1 t0) fun t21 =>
 A0 PR (Instr.fieldAt 163 t21 0) fun t22 =>
 A0 PR (Instr.fieldAt 160 t22 1) fun t23 =>
 A6 PR (Instr.loadAt 3 t23) fun t24 =>
 A0 PR (binOp .eql 3 t24 (.int .i64 0)) fun t25 =>
 C2 t25 (
 J8) (
 J11)
theorem A2G {X : Nat → Prop} {t0 t1 : Value} {R : Value → WP} {w : World} (h : j1 X t0 t1 R w) : Fn PR X 318 #[t0, t1] w R := C9 (args := [t0, t1]) mixed Tryz.func318 (by kernel_rfl) h
def d6 (X : Nat → Prop) (t0 t1 : Value) (R : Value → WP) : WP :=
 R (.bool false)
theorem A1d {X : Nat → Prop} {t0 t1 : Value} {R : Value → WP} {w : World} (h : d6 X t0 t1 R w) : Fn PR X 319 #[t0, t1] w R := C9 (args := [t0, t1]) mixed Tryz.func319 (by kernel_rfl) h
def j8 (X : Nat → Prop) (t0 t1 : Value) (R : Value → WP) : WP :=
 B7 PR X (Instr.alloc 42 true (.tuple #[])) fun t4 =>
 A0 PR (Instr.build 55 #[(0, t1)]) fun t8 =>
 A0 PR (B1 t0) fun t9 =>
 A0 PR (Instr.fieldAt 160 t9 1) fun t10 =>
 C6 PR X (Instr.storeAt 3 t10 (.int .i64 (-1))) <|
 A0 PR (B1 t0) fun t11 =>
 A0 PR (Instr.fieldAt 160 t11 2) fun t12 =>
 C6 PR X (Instr.storeAt 55 t12 t8) <|
 A0 PR (Instr.build 42 #[(0, (.bool true)), (1, (.bool true))]) fun t13 =>
 C6 PR X (Instr.storeAt 42 t4 t13) <|
 A6 PR (F1 [.c 42 t4]) R
theorem M3 : A9 PR 320 := A7 Tryz.func320 (by kernel_rfl) rfl
theorem A2e {X : Nat → Prop} {t0 t1 : Value} {R : Value → WP} {w : World} (h : j8 X t0 t1 R w) : Fn PR X 320 #[t0, t1] w R := C9 (args := [t0, t1]) mixed Tryz.func320 (by kernel_rfl) h
def j4 (X : Nat → Prop) (t0 t1 : Value) (R : Value → WP) : WP :=
 B7 PR X (Instr.alloc 42 true (.tuple #[])) fun t4 =>
 jn (n := 0) (
 A0 PR (B1 t1) fun t32 =>
 A0 PR (Instr.fieldAt 39 t32 3) fun t33 =>
 A6 PR (Instr.loadAt 35 t33) fun t34 =>
 B6 PR X 314 [t34] fun t35 =>
 A0 PR (B1 t0) fun t36 =>
 A0 PR (Instr.fieldAt 163 t36 3) fun t37 =>
 C6 PR X (Instr.storeAt 3 t37 t35) <|
 jn (n := 0) (
 drw <|
 A0 PR (B1 t1) fun t48 =>
 A0 PR (Instr.fieldAt 39 t48 2) fun t49 =>
 A6 PR (Instr.loadAt 34 t49) fun t50 =>
 A0 PR (B1 t0) fun t52 =>
 A0 PR (Instr.fieldAt 163 t52 3) fun t53 =>
 A6 PR (Instr.loadAt 3 t53) fun t54 =>
 B6 PR X 94 [t50, t54] fun t55 =>
 A0 PR (B1 t0) fun t57 =>
 A0 PR (Instr.fieldAt 163 t57 0) fun t58 =>
 A0 PR (Instr.fieldAt 160 t58 1) fun t59 =>
 A6 PR (Instr.loadAt 3 t59) fun t60 =>
 A0 PR (binOp .add 3 t60 (.int .i64 1)) fun t61 =>
 A0 PR (B1 t0) fun t62 =>
 A0 PR (Instr.fieldAt 163 t62 0) fun t63 =>
 A0 PR (Instr.fieldAt 160 t63 1) fun t64 =>
 C6 PR X (Instr.storeAt 3 t64 t61) <|
 A0 PR (Instr.build 42 #[]) fun t65 =>
 C6 PR X (Instr.storeAt 42 t4 t65) <|
 A6 PR (F1 [.c 42 t4]) R) fun J1 =>
 A0 PR (B1 t0) fun t39 =>
 A0 PR (Instr.fieldAt 163 t39 3) fun t40 =>
 A6 PR (Instr.loadAt 3 t40) fun t41 =>
 A0 PR (binOp .lss 3 t41 (.int .i64 0)) fun t42 =>
 C2 t42 (
 A0 PR (B1 t0) fun t44 =>
 A0 PR (Instr.fieldAt 163 t44 0) fun t45 =>
 B6 PR X 320 [t45, (.int .i64 13)] fun t46 =>
 C6 PR X (Instr.storeAt 42 t4 t46) <|
 A6 PR (F1 [.c 42 t4]) R) (
 J1)) fun J2 =>
 drw <|
 A0 PR (B1 t1) fun t7 =>
 A0 PR (Instr.fieldAt 39 t7 3) fun t8 =>
 A6 PR (Instr.loadAt 35 t8) fun t9 =>
 A0 PR (B1 t0) fun t11 =>
 A0 PR (Instr.fieldAt 163 t11 2) fun t12 =>
 A6 PR (Instr.loadAt 37 t12) fun t13 =>
 B6 PR X 324 [t9, t13] fun t14 =>
 A0 PR (binOp .geq 3 t14 (.int .i64 0)) fun t16 =>
 C2 t16 (
 A0 PR (B1 t1) fun t18 =>
 A0 PR (Instr.fieldAt 39 t18 2) fun t19 =>
 A6 PR (Instr.loadAt 34 t19) fun t20 =>
 B6 PR X 98 [t20, t14] fun t22 =>
 A0 PR (B1 t1) fun t24 =>
 A0 PR (Instr.fieldAt 39 t24 3) fun t25 =>
 A6 PR (Instr.loadAt 35 t25) fun t26 =>
 B6 PR X 325 [t26, t14] fun t28 =>
 A0 PR (Instr.build 42 #[]) fun t29 =>
 C6 PR X (Instr.storeAt 42 t4 t29) <|
 A6 PR (F1 [.c 42 t4]) R) (
 J2)
theorem A1e : A9 PR 321 := A7 Tryz.func321 (by kernel_rfl) rfl
theorem A2c {X : Nat → Prop} {t0 t1 : Value} {R : Value → WP} {w : World} (h : j4 X t0 t1 R w) : Fn PR X 321 #[t0, t1] w R := C9 (args := [t0, t1]) mixed Tryz.func321 (by kernel_rfl) h
def j0 (X : Nat → Prop) (t0 : Value) (R : Value → WP) : WP :=
 B7 PR X (Instr.alloc 42 true (.tuple #[])) fun t2 =>
 A0 PR (B1 t0) fun t4 =>
 A0 PR (Instr.fieldAt 160 t4 1) fun t5 =>
 C6 PR X (Instr.storeAt 3 t5 (.int .i64 (-1))) <|
 A0 PR (Instr.build 42 #[(1, (.bool true))]) fun t6 =>
 C6 PR X (Instr.storeAt 42 t2 t6) <|
 A6 PR (F1 [.c 42 t2]) R
theorem M4 : A9 PR 323 := A7 Tryz.func323 (by kernel_rfl) rfl
theorem A2S {X : Nat → Prop} {t0 : Value} {R : Value → WP} {w : World} (h : j0 X t0 R w) : Fn PR X 323 #[t0] w R := C9 (args := [t0]) mixed Tryz.func323 (by kernel_rfl) h
def j7 (X : Nat → Prop) (t0 t1 : Value) (R : Value → WP) : WP :=
 B7 PR X (Instr.alloc 42 true (.tuple #[])) fun t4 =>
 jn (n := 0) (
 A0 PR (B1 t0) fun t28 =>
 A0 PR (Instr.fieldAt 170 t28 0) fun t29 =>
 A0 PR (Instr.fieldAt 160 t29 1) fun t30 =>
 A6 PR (Instr.loadAt 3 t30) fun t31 =>
 A0 PR (B1 t0) fun t33 =>
 A0 PR (Instr.fieldAt 170 t33 0) fun t34 =>
 A0 PR (Instr.fieldAt 160 t34 1) fun t35 =>
 A6 PR (Instr.loadAt 3 t35) fun t36 =>
 A0 PR (binOp .add 3 t36 (.int .i64 1)) fun t37 =>
 A0 PR (B1 t0) fun t38 =>
 A0 PR (Instr.fieldAt 170 t38 0) fun t39 =>
 A0 PR (Instr.fieldAt 160 t39 1) fun t40 =>
 C6 PR X (Instr.storeAt 3 t40 t37) <|
 jn (n := 0) (
 A0 PR (Instr.build 42 #[]) fun t147 =>
 C6 PR X (Instr.storeAt 42 t4 t147) <|
 A6 PR (F1 [.c 42 t4]) R) fun J1 =>
 A0 PR (binOp .eql 3 t31 (.int .i64 0)) fun t61 =>
 C2 t61 (
 drw <|
 A0 PR (B1 t1) fun t63 =>
 A0 PR (Instr.fieldAt 39 t63 1) fun t64 =>
 A6 PR (Instr.loadAt 33 t64) fun t65 =>
 A0 PR (B1 t0) fun t67 =>
 A0 PR (Instr.fieldAt 170 t67 1) fun t68 =>
 A6 PR (Instr.loadAt 3 t68) fun t69 =>
 A0 PR (B1 t0) fun t71 =>
 A0 PR (Instr.fieldAt 170 t71 0) fun t72 =>
 A0 PR (Instr.fieldAt 160 t72 0) fun t73 =>
 A6 PR (Instr.loadAt 3 t73) fun t74 =>
 B6 PR X 19 [t65, t69, t74] fun t75 =>
 J1) (
 A0 PR (binOp .eql 3 t31 (.int .i64 1)) fun t77 =>
 C2 t77 (
 drw <|
 A0 PR (B1 t1) fun t83 =>
 A0 PR (Instr.fieldAt 39 t83 4) fun t84 =>
 A6 PR (Instr.loadAt 36 t84) fun t85 =>
 A0 PR (B1 t0) fun t87 =>
 A0 PR (Instr.fieldAt 170 t87 1) fun t88 =>
 A6 PR (Instr.loadAt 3 t88) fun t89 =>
 A0 PR (Instr.indexAt 36 t85 t89) fun t90 =>
 A6 PR (Instr.loadAt 84 t90) fun t91 =>
 A0 PR (B1 t1) fun t93 =>
 A0 PR (Instr.fieldAt 39 t93 5) fun t94 =>
 A6 PR (Instr.loadAt 37 t94) fun t95 =>
 A0 PR (B1 t0) fun t97 =>
 A0 PR (Instr.fieldAt 170 t97 1) fun t98 =>
 A6 PR (Instr.loadAt 3 t98) fun t99 =>
 A0 PR (Instr.indexAt 37 t95 t99) fun t100 =>
 A6 PR (Instr.loadAt 3 t100) fun t101 =>
 A0 PR (B1 t1) fun t103 =>
 A0 PR (Instr.fieldAt 39 t103 6) fun t104 =>
 A6 PR (Instr.loadAt 3 t104) fun t105 =>
 B6 PR X 169 [t91, t101, (.int .i64 4), t105] fun t106 =>
 A0 PR (Instr.extract t106 0) fun t107 =>
 A0 PR (Instr.extract t106 1) fun t108 =>
 A0 PR (Instr.extract t106 2) fun t109 =>
 A0 PR (B1 t0) fun t110 =>
 A0 PR (Instr.fieldAt 170 t110 3) fun t111 =>
 C6 PR X (Instr.storeAt 84 t111 t107) <|
 A0 PR (B1 t0) fun t112 =>
 A0 PR (Instr.fieldAt 170 t112 2) fun t113 =>
 C6 PR X (Instr.storeAt 3 t113 t108) <|
 A0 PR (B1 t0) fun t114 =>
 A0 PR (Instr.fieldAt 170 t114 0) fun t115 =>
 A0 PR (Instr.fieldAt 160 t115 2) fun t116 =>
 A0 PR (Instr.fieldAt 55 t116 3) fun t117 =>
 C6 PR X (Instr.storeAt 3 t117 t109) <|
 A0 PR (Instr.build 42 #[(0, (.bool true))]) fun t118 =>
 C6 PR X (Instr.storeAt 42 t4 t118) <|
 A6 PR (F1 [.c 42 t4]) R) (
 A0 PR (binOp .eql 3 t31 (.int .i64 2)) fun t120 =>
 C2 t120 (
 drw <|
 A0 PR (B1 t1) fun t122 =>
 A0 PR (Instr.fieldAt 39 t122 4) fun t123 =>
 A6 PR (Instr.loadAt 36 t123) fun t124 =>
 A0 PR (B1 t0) fun t126 =>
 A0 PR (Instr.fieldAt 170 t126 1) fun t127 =>
 A6 PR (Instr.loadAt 3 t127) fun t128 =>
 A0 PR (B1 t1) fun t130 =>
 A0 PR (Instr.fieldAt 39 t130 5) fun t131 =>
 A6 PR (Instr.loadAt 37 t131) fun t132 =>
 A0 PR (B1 t0) fun t134 =>
 A0 PR (Instr.fieldAt 170 t134 1) fun t135 =>
 A6 PR (Instr.loadAt 3 t135) fun t136 =>
 A0 PR (B1 t0) fun t138 =>
 A0 PR (Instr.fieldAt 170 t138 3) fun t139 =>
 A6 PR (Instr.loadAt 84 t139) fun t140 =>
 A0 PR (B1 t0) fun t142 =>
 A0 PR (Instr.fieldAt 170 t142 2) fun t143 =>
 A6 PR (Instr.loadAt 3 t143) fun t144 =>
 A0 PR (Instr.indexAt 36 t124 t128) fun t145 =>
 C6 PR X (Instr.storeAt 84 t145 t140) <|
 A0 PR (Instr.indexAt 37 t132 t136) fun t146 =>
 C6 PR X (Instr.storeAt 3 t146 t144) <|
 J1) (
 drw <|
 A0 PR (B1 t1) fun t43 =>
 A0 PR (Instr.fieldAt 39 t43 1) fun t44 =>
 A6 PR (Instr.loadAt 33 t44) fun t45 =>
 A0 PR (B1 t0) fun t47 =>
 A0 PR (Instr.fieldAt 170 t47 1) fun t48 =>
 A6 PR (Instr.loadAt 3 t48) fun t49 =>
 A0 PR (B1 t0) fun t51 =>
 A0 PR (Instr.fieldAt 170 t51 0) fun t52 =>
 A0 PR (Instr.fieldAt 160 t52 0) fun t53 =>
 A6 PR (Instr.loadAt 3 t53) fun t54 =>
 B6 PR X 25 [t45, t49, t54] fun t55 =>
 A0 PR (B1 t0) fun t57 =>
 A0 PR (Instr.fieldAt 170 t57 0) fun t58 =>
 B6 PR X 323 [t58] fun t59 =>
 C6 PR X (Instr.storeAt 42 t4 t59) <|
 A6 PR (F1 [.c 42 t4]) R)))) fun J2 =>
 drw <|
 A0 PR (B1 t0) fun t7 =>
 A0 PR (Instr.fieldAt 170 t7 1) fun t8 =>
 A6 PR (Instr.loadAt 3 t8) fun t9 =>
 A0 PR (binOp .lss 3 t9 (.int .i64 0)) fun t10 =>
 gj t10 false (fun J => J t0) fun t12 =>
 gj t10 false (fun J => A0 PR (B1 t12) J) fun t13 =>
 gj t10 false (fun J => A0 PR (Instr.fieldAt 170 t13 1) J) fun t14 =>
 gj t10 false (fun J => A6 PR (Instr.loadAt 3 t14) J) fun t15 =>
 gj t10 false (fun J => J t1) fun t16 =>
 gj t10 false (fun J => A0 PR (B1 t16) J) fun t17 =>
 gj t10 false (fun J => A0 PR (Instr.fieldAt 39 t17 4) J) fun t18 =>
 gj t10 false (fun J => A6 PR (Instr.loadAt 36 t18) J) fun t19 =>
 gj t10 false (fun J => A0 PR (A8 .len #[36] 0 [t19]) J) fun t20 =>
 gj t10 false (fun J => A0 PR (binOp .geq 3 t15 t20) J) fun t21 =>
 A0 PR (do pure (if ← asBool t10 then (.bool true) else t21)) fun t22 =>
 C2 t22 (
 A0 PR (B1 t0) fun t24 =>
 A0 PR (Instr.fieldAt 170 t24 0) fun t25 =>
 B6 PR X 320 [t25, (.int .i64 1)] fun t26 =>
 C6 PR X (Instr.storeAt 42 t4 t26) <|
 A6 PR (F1 [.c 42 t4]) R) (
 J2)
theorem A2L {X : Nat → Prop} {t0 t1 : Value} {R : Value → WP} {w : World} (h : j7 X t0 t1 R w) : Fn PR X 329 #[t0, t1] w R := C9 (args := [t0, t1]) mixed Tryz.func329 (by kernel_rfl) h
def c6 (X : Nat → Prop) (t0 t1 : Value) (R : Value → WP) : WP :=
 A0 PR (B1 t0) fun t6 =>
 A0 PR (Instr.fieldAt 170 t6 0) fun t7 =>
 A0 PR (Instr.fieldAt 160 t7 1) fun t8 =>
 A6 PR (Instr.loadAt 3 t8) fun t9 =>
 A0 PR (binOp .eql 3 t9 (.int .i64 0)) fun t10 =>
 gj t10 true (fun J => J t1) fun t12 =>
 gj t10 true (fun J => J t0) fun t13 =>
 gj t10 true (fun J => A0 PR (B1 t13) J) fun t14 =>
 gj t10 true (fun J => A0 PR (Instr.fieldAt 170 t14 1) J) fun t15 =>
 gj t10 true (fun J => A6 PR (Instr.loadAt 3 t15) J) fun t16 =>
 gj t10 true (fun J => B6 PR X 331 [t12, t16] J) fun t17 =>
 gj t10 true (fun J => A0 PR (Op.unary .not t17) J) fun t18 =>
 A0 PR (do pure (if ← asBool t10 then t18 else (.bool false))) fun t19 =>
 R t19
theorem A1l {X : Nat → Prop} {t0 t1 : Value} {R : Value → WP} {w : World} (h : c6 X t0 t1 R w) : Fn PR X 330 #[t0, t1] w R := C9 (args := [t0, t1]) mixed Tryz.func330 (by kernel_rfl) h
def A2D (X : Nat → Prop) (t0 t1 : Value) (R : Value → WP) : WP :=
 A0 PR (B1 t0) fun t6 =>
 A0 PR (Instr.fieldAt 39 t6 1) fun t7 =>
 A6 PR (Instr.loadAt 33 t7) fun t8 =>
 B6 PR X 37 [t8, t1] fun t10 =>
 A0 PR (binOp .lss 3 t10 (.int .i64 0)) fun t11 =>
 R t11
theorem A1Q : A9 PR 331 := A7 Tryz.func331 (by kernel_rfl) rfl
theorem A61 {X : Nat → Prop} {t0 t1 : Value} {R : Value → WP} {w : World} (h : A2D X t0 t1 R w) : Fn PR X 331 #[t0, t1] w R := C9 (args := [t0, t1]) mixed Tryz.func331 (by kernel_rfl) h
def p9 (X : Nat → Prop) (t0 t1 : Value) (R : Value → WP) : WP :=
 B7 PR X (Instr.alloc 42 true (.tuple #[])) fun t4 =>
 A0 PR (B1 t1) fun t9 =>
 A0 PR (Instr.fieldAt 39 t9 4) fun t10 =>
 A6 PR (Instr.loadAt 36 t10) fun t11 =>
 A0 PR (A8 .len #[36] 0 [t11]) fun t12 =>
 drw <|
 A0 PR (B1 t0) fun t14 =>
 A0 PR (Instr.fieldAt 173 t14 0) fun t15 =>
 A0 PR (Instr.fieldAt 160 t15 1) fun t16 =>
 A6 PR (Instr.loadAt 3 t16) fun t17 =>
 A0 PR (binOp .quo 3 t17 t12) fun t19 =>
 A0 PR (B1 t0) fun t21 =>
 A0 PR (Instr.fieldAt 173 t21 0) fun t22 =>
 A0 PR (Instr.fieldAt 160 t22 1) fun t23 =>
 A6 PR (Instr.loadAt 3 t23) fun t24 =>
 A0 PR (binOp .rem 3 t24 t12) fun t26 =>
 A0 PR (B1 t0) fun t28 =>
 A0 PR (Instr.fieldAt 173 t28 0) fun t29 =>
 A0 PR (Instr.fieldAt 160 t29 1) fun t30 =>
 A6 PR (Instr.loadAt 3 t30) fun t31 =>
 A0 PR (binOp .add 3 t31 (.int .i64 1)) fun t32 =>
 A0 PR (B1 t0) fun t33 =>
 A0 PR (Instr.fieldAt 173 t33 0) fun t34 =>
 A0 PR (Instr.fieldAt 160 t34 1) fun t35 =>
 C6 PR X (Instr.storeAt 3 t35 t32) <|
 jn (n := 0) (
 drw <|
 A0 PR (B1 t1) fun t78 =>
 A0 PR (Instr.fieldAt 39 t78 1) fun t79 =>
 A6 PR (Instr.loadAt 33 t79) fun t80 =>
 A0 PR (B1 t0) fun t83 =>
 A0 PR (Instr.fieldAt 173 t83 0) fun t84 =>
 A0 PR (Instr.fieldAt 160 t84 0) fun t85 =>
 A6 PR (Instr.loadAt 3 t85) fun t86 =>
 B6 PR X 25 [t80, t26, t86] fun t87 =>
 jn (n := 0) (
 A0 PR (Instr.build 42 #[]) fun t96 =>
 C6 PR X (Instr.storeAt 42 t4 t96) <|
 A6 PR (F1 [.c 42 t4]) R) fun J1 =>
 A0 PR (binOp .sub 3 t12 (.int .i64 1)) fun t90 =>
 A0 PR (binOp .eql 3 t26 t90) fun t91 =>
 C2 t91 (
 A0 PR (B1 t0) fun t93 =>
 A0 PR (Instr.fieldAt 173 t93 0) fun t94 =>
 B6 PR X 323 [t94] fun t95 =>
 C6 PR X (Instr.storeAt 42 t4 t95) <|
 A6 PR (F1 [.c 42 t4]) R) (
 J1)) fun J2 =>
 A0 PR (binOp .eql 3 t19 (.int .i64 0)) fun t38 =>
 C2 t38 (
 drw <|
 A0 PR (B1 t1) fun t40 =>
 A0 PR (Instr.fieldAt 39 t40 1) fun t41 =>
 A6 PR (Instr.loadAt 33 t41) fun t42 =>
 A0 PR (B1 t0) fun t45 =>
 A0 PR (Instr.fieldAt 173 t45 0) fun t46 =>
 A0 PR (Instr.fieldAt 160 t46 0) fun t47 =>
 A6 PR (Instr.loadAt 3 t47) fun t48 =>
 B6 PR X 19 [t42, t26, t48] fun t49 =>
 A0 PR (binOp .sub 3 t12 (.int .i64 1)) fun t52 =>
 A0 PR (binOp .eql 3 t26 t52) fun t53 =>
 A0 PR (Instr.build 42 #[(0, t53)]) fun t54 =>
 C6 PR X (Instr.storeAt 42 t4 t54) <|
 A6 PR (F1 [.c 42 t4]) R) (
 A0 PR (binOp .eql 3 t19 (.int .i64 1)) fun t56 =>
 C2 t56 (
 drw <|
 A0 PR (B1 t0) fun t58 =>
 A0 PR (Instr.fieldAt 173 t58 0) fun t59 =>
 A0 PR (Instr.fieldAt 160 t59 2) fun t60 =>
 A0 PR (Instr.fieldAt 55 t60 3) fun t61 =>
 A6 PR (Instr.loadAt 3 t61) fun t62 =>
 A0 PR (B1 t1) fun t64 =>
 A0 PR (Instr.fieldAt 39 t64 4) fun t65 =>
 A6 PR (Instr.loadAt 36 t65) fun t66 =>
 A0 PR (Instr.indexAt 36 t66 t26) fun t68 =>
 A6 PR (Instr.loadAt 84 t68) fun t69 =>
 B6 PR X 186 [t69, (.int .i64 1)] fun t70 =>
 watch PR [(none, (Instr.loadAt 3 t61), t62)] <|
 A0 PR (binOp .add 3 t62 t70) fun t71 =>
 A0 PR (B1 t0) fun t72 =>
 A0 PR (Instr.fieldAt 173 t72 0) fun t73 =>
 A0 PR (Instr.fieldAt 160 t73 2) fun t74 =>
 A0 PR (Instr.fieldAt 55 t74 3) fun t75 =>
 C6 PR X (Instr.storeAt 3 t75 t71) <|
 A0 PR (Instr.build 42 #[]) fun t76 =>
 C6 PR X (Instr.storeAt 42 t4 t76) <|
 A6 PR (F1 [.c 42 t4]) R) (
 J2))
theorem A24 {X : Nat → Prop} {t0 t1 : Value} {R : Value → WP} {w : World} (h : p9 X t0 t1 R w) : Fn PR X 332 #[t0, t1] w R := C9 (args := [t0, t1]) mixed Tryz.func332 (by kernel_rfl) h
def j6 (X : Nat → Prop) (t0 t1 : Value) (R : Value → WP) : WP :=
 drw <|
 A0 PR (B1 t0) fun t6 =>
 A0 PR (Instr.fieldAt 173 t6 0) fun t7 =>
 A0 PR (Instr.fieldAt 160 t7 1) fun t8 =>
 A6 PR (Instr.loadAt 3 t8) fun t9 =>
 A0 PR (B1 t1) fun t11 =>
 A0 PR (Instr.fieldAt 39 t11 4) fun t12 =>
 A6 PR (Instr.loadAt 36 t12) fun t13 =>
 A0 PR (A8 .len #[36] 0 [t13]) fun t14 =>
 A0 PR (binOp .lss 3 t9 t14) fun t15 =>
 gj t15 true (fun J => J t1) fun t17 =>
 gj t15 true (fun J => J t0) fun t18 =>
 gj t15 true (fun J => A0 PR (B1 t18) J) fun t19 =>
 gj t15 true (fun J => A0 PR (Instr.fieldAt 173 t19 0) J) fun t20 =>
 gj t15 true (fun J => A0 PR (Instr.fieldAt 160 t20 1) J) fun t21 =>
 gj t15 true (fun J => A6 PR (Instr.loadAt 3 t21) J) fun t22 =>
 gj t15 true (fun J => B6 PR X 331 [t17, t22] J) fun t23 =>
 gj t15 true (fun J => A0 PR (Op.unary .not t23) J) fun t24 =>
 A0 PR (do pure (if ← asBool t15 then t24 else (.bool false))) fun t25 =>
 R t25
theorem A2b {X : Nat → Prop} {t0 t1 : Value} {R : Value → WP} {w : World} (h : j6 X t0 t1 R w) : Fn PR X 333 #[t0, t1] w R := C9 (args := [t0, t1]) mixed Tryz.func333 (by kernel_rfl) h
end Go.Proofs.YtjobgnabneddjaaGreat
namespace Go.Proofs.YtjobgnabneddjaaGreat
open Go
def A4w (X : Nat → Prop) (t0 : Value) (R : Value → WP) : WP :=
 B7 PR X (Instr.box 23 t0) fun t1 =>
 jn (n := 2) (fun t2 t3 =>
 A6 PR (Instr.loadAt 23 t1) fun t10 =>
 A0 PR (Instr.makeFunc (.func 67) #[] #[t1]) fun t11 =>
 A0 PR (Instr.makeFunc (.func 69) #[] #[t1]) fun t12 =>
 A0 PR (Instr.makeFunc (.func 72) #[] #[t1]) fun t13 =>
 B7 PR X (Instr.buildSlice 228 3 #[(0, t11), (1, t12), (2, t13)]) fun t14 =>
 B6 PR X 66 [t10, t14] fun t15 =>
 R (.tuple #[t15, (.int .i64 0)])) fun J1 =>
 A6 PR (Instr.loadAt 23 t1) fun t5 =>
 B6 PR X 65 [t5] fun t6 =>
 A0 PR (binOp .neq 27 t6 (.int .i64 0)) fun t8 =>
 C2 t8 (
 R (.tuple #[(.pointer none), t6])) (
 J1 (.pointer none) (.int .i64 0))
theorem A0g : A9 PR 16 := A7 Tryz.func16 (by kernel_rfl) rfl
theorem A9f {X : Nat → Prop} {t0 : Value} {R : Value → WP} {w : World} (h : A4w X t0 R w) : Fn PR X 16 #[t0] w R := C9 (args := [t0]) mixed Tryz.func16 (by kernel_rfl) h
def A0T (X : Nat → Prop) (t0 t1 : Value) (R : Value → WP) : WP :=
 jn (n := 1) (fun t4 =>
 A0 PR (binOp .add 3 (.int .i64 2) t1) fun t17 =>
 A0 PR (binOp .sub 3 t17 (.int .i64 1)) fun t18 =>
 R t18) fun J1 =>
 A0 PR (binOp .lss 3 t1 (.int .i64 1)) fun t6 =>
 gj t6 false (fun J => J t1) fun t8 =>
 gj t6 false (fun J => J t0) fun t9 =>
 gj t6 false (fun J => A0 PR (B1 t9) J) fun t10 =>
 gj t6 false (fun J => A0 PR (Instr.fieldAt 39 t10 0) J) fun t11 =>
 gj t6 false (fun J => A0 PR (Instr.fieldAt 23 t11 0) J) fun t12 =>
 gj t6 false (fun J => A6 PR (Instr.loadAt 3 t12) J) fun t13 =>
 gj t6 false (fun J => A0 PR (binOp .gtr 3 t8 t13) J) fun t14 =>
 A0 PR (do pure (if ← asBool t6 then (.bool true) else t14)) fun t15 =>
 C2 t15 (
 R (.int .i64 (-1))) (
 J1 (.int .i64 0))
theorem y3 : A9 PR 57 := A7 Tryz.func57 (by kernel_rfl) rfl
theorem A44 {X : Nat → Prop} {t0 t1 : Value} {R : Value → WP} {w : World} (h : A0T X t0 t1 R w) : Fn PR X 57 #[t0, t1] w R := C9 (args := [t0, t1]) mixed Tryz.func57 (by kernel_rfl) h
def A4F (X : Nat → Prop) (t0 t1 : Value) (R : Value → WP) : WP :=
 B7 PR X (Instr.box 23 t0) fun t2 =>
 A6 PR (Instr.loadAt 23 t2) fun t8 =>
 A0 PR (Instr.build 39 #[(0, t8)]) fun t9 =>
 B7 PR X (Instr.box 39 t9) fun t10 =>
 jn (n := 1) (fun t13 =>
 R t10) fun J1 =>
 A0 PR (A8 .len #[228] 0 [t1]) fun t12 =>
 lp (n := 1) (fun L2 t13_1 =>
 A0 PR (binOp .lss 3 t13_1 t12) fun t14 =>
 jn (n := 0) (
 jn (n := 0) (
 A0 PR (binOp .add 3 t13_1 (.int .i64 1)) fun t20 =>
 L2 t20) fun J3 =>
 A0 PR (Instr.indexAt 228 t1 t13_1) fun t15 =>
 A6 PR (Instr.loadAt 124 t15) fun t16 =>
 W9 PR X t16 [t10] fun t19 =>
 J3) fun J4 =>
 C2 t14 (
 J4) (
 J1 t13_1)) (.int .i64 0)
theorem A7e : A9 PR 66 := A7 Tryz.func66 (by kernel_rfl) rfl
theorem A8q {X : Nat → Prop} {t0 t1 : Value} {R : Value → WP} {w : World} (h : A4F X t0 t1 R w) : Fn PR X 66 #[t0, t1] w R := C9 (args := [t0, t1]) mixed Tryz.func66 (by kernel_rfl) h
def A1p (X : Nat → Prop) (t0 t1 : Value) (R : Value → WP) : WP :=
 A0 PR (Instr.fieldAt 23 t1 0) fun t4 =>
 A6 PR (Instr.loadAt 3 t4) fun t5 =>
 A0 PR (binOp .add 3 (.int .i64 2) t5) fun t6 =>
 A0 PR (Instr.fieldAt 23 t1 1) fun t7 =>
 A6 PR (Instr.loadAt 3 t7) fun t8 =>
 B6 PR X 68 [t6, t8] fun t9 =>
 A0 PR (B1 t0) fun t10 =>
 A0 PR (Instr.fieldAt 39 t10 1) fun t11 =>
 C6 PR X (Instr.storeAt 33 t11 t9) <|
 R (.tuple #[])
theorem A6B : A9 PR 67 := A7 Tryz.func67 (by kernel_rfl) rfl
theorem A6x {X : Nat → Prop} {t0 t1 : Value} {R : Value → WP} {w : World} (h : A1p X t0 t1 R w) : Fn PR X 67 #[t0, t1] w R := C9 (args := [t0, t1]) mixed Tryz.func67 (by kernel_rfl) h
def A1v (X : Nat → Prop) (t0 t1 : Value) (R : Value → WP) : WP :=
 drw <|
 A0 PR (Instr.fieldAt 23 t1 4) fun t5 =>
 A6 PR (Instr.loadAt 3 t5) fun t6 =>
 A0 PR (Instr.fieldAt 23 t1 4) fun t8 =>
 A6 PR (Instr.loadAt 3 t8) fun t9 =>
 B6 PR X 70 [t6] fun t7 =>
 watch PR [(none, (Instr.loadAt 3 t8), t9)] <|
 B6 PR X 71 [t9] fun t10 =>
 A0 PR (B1 t0) fun t11 =>
 A0 PR (Instr.fieldAt 39 t11 2) fun t12 =>
 C6 PR X (Instr.storeAt 34 t12 t7) <|
 A0 PR (B1 t0) fun t13 =>
 A0 PR (Instr.fieldAt 39 t13 3) fun t14 =>
 C6 PR X (Instr.storeAt 35 t14 t10) <|
 R (.tuple #[])
theorem A6b : A9 PR 69 := A7 Tryz.func69 (by kernel_rfl) rfl
theorem A6f {X : Nat → Prop} {t0 t1 : Value} {R : Value → WP} {w : World} (h : A1v X t0 t1 R w) : Fn PR X 69 #[t0, t1] w R := C9 (args := [t0, t1]) mixed Tryz.func69 (by kernel_rfl) h
def A14 (X : Nat → Prop) (t0 t1 : Value) (R : Value → WP) : WP :=
 A0 PR (Instr.fieldAt 23 t1 1) fun t3 =>
 A6 PR (Instr.loadAt 3 t3) fun t4 =>
 lp (n := 1) (fun L1 t5 =>
 A0 PR (binOp .lss 3 t5 t4) fun t6 =>
 jn (n := 0) (
 jn (n := 0) (
 A0 PR (binOp .add 3 t5 (.int .i64 1)) fun t28 =>
 L1 t28) fun J2 =>
 drw <|
 A0 PR (B1 t0) fun t9 =>
 A0 PR (Instr.fieldAt 39 t9 4) fun t10 =>
 A6 PR (Instr.loadAt 36 t10) fun t11 =>
 A0 PR (Instr.fieldAt 23 t1 2) fun t12 =>
 A6 PR (Instr.loadAt 3 t12) fun t13 =>
 B6 PR X 73 [t13] fun t14 =>
 watch PR [(none, (Instr.loadAt 36 t10), t11)] <|
 B7 PR X (Instr.buildSlice 36 1 #[(0, t14)]) fun t15 =>
 watch PR [(none, (Instr.loadAt 36 t10), t11)] <|
 B7 PR X (A8 .append #[36, 36] 36 [t11, t15]) fun t16 =>
 A0 PR (B1 t0) fun t17 =>
 A0 PR (Instr.fieldAt 39 t17 4) fun t18 =>
 C6 PR X (Instr.storeAt 36 t18 t16) <|
 A0 PR (B1 t0) fun t21 =>
 A0 PR (Instr.fieldAt 39 t21 5) fun t22 =>
 A6 PR (Instr.loadAt 37 t22) fun t23 =>
 B7 PR X (Instr.buildSlice 37 1 #[(0, (.int .i64 0))]) fun t24 =>
 B7 PR X (A8 .append #[37, 37] 37 [t23, t24]) fun t25 =>
 A0 PR (B1 t0) fun t26 =>
 A0 PR (Instr.fieldAt 39 t26 5) fun t27 =>
 C6 PR X (Instr.storeAt 37 t27 t25) <|
 J2) fun J3 =>
 C2 t6 (
 J3) (
 R (.tuple #[]))) (.int .i64 0)
theorem A6L : A9 PR 72 := A7 Tryz.func72 (by kernel_rfl) rfl
theorem A66 {X : Nat → Prop} {t0 t1 : Value} {R : Value → WP} {w : World} (h : A14 X t0 t1 R w) : Fn PR X 72 #[t0, t1] w R := C9 (args := [t0, t1]) mixed Tryz.func72 (by kernel_rfl) h
end Go.Proofs.YtjobgnabneddjaaGreat
namespace Go.Proofs.YtjobgnabneddjaaGreat
open Go
def y6 (X : Nat → Prop) (t0 t1 t2 : Value) (R : Value → WP) : WP :=
 A0 PR (B1 t0) fun t10 =>
 A0 PR (Instr.fieldAt 141 t10 2) fun t11 =>
 A6 PR (Instr.loadAt 37 t11) fun t12 =>
 B6 PR X 74 [t0, t12, t1] fun t14 =>
 A0 PR (binOp .geq 3 t2 (.int .i64 0)) fun t16 =>
 gj t16 true (fun J => J t14) fun t18 =>
 gj t16 true (fun J => J t2) fun t19 =>
 gj t16 true (fun J => B6 PR X 75 [t18, (.int .i64 (-1)), t19] J) fun t20 =>
 A0 PR (do pure (if ← asBool t16 then t20 else (.bool false))) fun t21 =>
 R t21
theorem Q0 : A9 PR 19 := A7 Tryz.func19 (by kernel_rfl) rfl
theorem A4a {X : Nat → Prop} {t0 t1 t2 : Value} {R : Value → WP} {w : World} (h : y6 X t0 t1 t2 R w) : Fn PR X 19 #[t0, t1, t2] w R := C9 (args := [t0, t1, t2]) mixed Tryz.func19 (by kernel_rfl) h
def q7 (X : Nat → Prop) (t0 t1 t2 : Value) (R : Value → WP) : WP :=
 A0 PR (B1 t0) fun t10 =>
 A0 PR (Instr.fieldAt 141 t10 2) fun t11 =>
 A6 PR (Instr.loadAt 37 t11) fun t12 =>
 B6 PR X 74 [t0, t12, t1] fun t14 =>
 A0 PR (binOp .geq 3 t2 (.int .i64 0)) fun t16 =>
 gj t16 true (fun J => J t14) fun t18 =>
 gj t16 true (fun J => J t2) fun t19 =>
 gj t16 true (fun J => B6 PR X 75 [t18, t19, (.int .i64 (-1))] J) fun t20 =>
 A0 PR (do pure (if ← asBool t16 then t20 else (.bool false))) fun t21 =>
 R t21
theorem F2 : A9 PR 25 := A7 Tryz.func25 (by kernel_rfl) rfl
theorem A3B {X : Nat → Prop} {t0 t1 t2 : Value} {R : Value → WP} {w : World} (h : q7 X t0 t1 t2 R w) : Fn PR X 25 #[t0, t1, t2] w R := C9 (args := [t0, t1, t2]) mixed Tryz.func25 (by kernel_rfl) h
def w8 (X : Nat → Prop) (t0 t1 t2 : Value) (R : Value → WP) : WP :=
 A0 PR (B1 t0) fun t9 =>
 A0 PR (Instr.fieldAt 141 t9 1) fun t10 =>
 A6 PR (Instr.loadAt 37 t10) fun t11 =>
 B6 PR X 74 [t0, t11, t1] fun t13 =>
 A6 PR (F3 .neq 131 (.tmp 14) (.const (.pointer none)) t13 (.pointer none)) fun t15 =>
 C2 t15 (
 A0 PR (B1 t13) fun t18 =>
 C6 PR X (Instr.storeAt 3 t18 t2) <|
 R (.tuple #[])) (
 R (.tuple #[]))
theorem A2x : A9 PR 31 := A7 Tryz.func31 (by kernel_rfl) rfl
theorem A3U {X : Nat → Prop} {t0 t1 t2 : Value} {R : Value → WP} {w : World} (h : w8 X t0 t1 t2 R w) : Fn PR X 31 #[t0, t1, t2] w R := C9 (args := [t0, t1, t2]) mixed Tryz.func31 (by kernel_rfl) h
def y0 (X : Nat → Prop) (t0 t1 : Value) (R : Value → WP) : WP :=
 jn (n := 1) (fun t4 =>
 R (.int .i64 0)) fun J1 =>
 A0 PR (B1 t0) fun t8 =>
 A0 PR (Instr.fieldAt 141 t8 1) fun t9 =>
 A6 PR (Instr.loadAt 37 t9) fun t10 =>
 B6 PR X 74 [t0, t10, t1] fun t12 =>
 A6 PR (F3 .neq 131 (.tmp 13) (.const (.pointer none)) t12 (.pointer none)) fun t14 =>
 C2 t14 (
 A0 PR (B1 t12) fun t16 =>
 A6 PR (Instr.loadAt 3 t16) fun t17 =>
 R t17) (
 J1 (.int .i64 0))
theorem V8 : A9 PR 35 := A7 Tryz.func35 (by kernel_rfl) rfl
theorem A4W {X : Nat → Prop} {t0 t1 : Value} {R : Value → WP} {w : World} (h : y0 X t0 t1 R w) : Fn PR X 35 #[t0, t1] w R := C9 (args := [t0, t1]) mixed Tryz.func35 (by kernel_rfl) h
def s9 (X : Nat → Prop) (t0 t1 : Value) (R : Value → WP) : WP :=
 jn (n := 1) (fun t4 =>
 A0 PR (B1 t0) fun t17 =>
 A0 PR (Instr.fieldAt 141 t17 2) fun t18 =>
 A6 PR (Instr.loadAt 37 t18) fun t19 =>
 A0 PR (Instr.indexAt 37 t19 t1) fun t21 =>
 A6 PR (Instr.loadAt 3 t21) fun t22 =>
 R t22) fun J1 =>
 A0 PR (binOp .lss 3 t1 (.int .i64 0)) fun t6 =>
 gj t6 false (fun J => J t1) fun t8 =>
 gj t6 false (fun J => J t0) fun t9 =>
 gj t6 false (fun J => A0 PR (B1 t9) J) fun t10 =>
 gj t6 false (fun J => A0 PR (Instr.fieldAt 141 t10 2) J) fun t11 =>
 gj t6 false (fun J => A6 PR (Instr.loadAt 37 t11) J) fun t12 =>
 gj t6 false (fun J => A0 PR (A8 .len #[37] 0 [t12]) J) fun t13 =>
 gj t6 false (fun J => A0 PR (binOp .geq 3 t8 t13) J) fun t14 =>
 A0 PR (do pure (if ← asBool t6 then (.bool true) else t14)) fun t15 =>
 C2 t15 (
 R (.int .i64 (-1))) (
 J1 (.int .i64 0))
theorem F6 : A9 PR 37 := A7 Tryz.func37 (by kernel_rfl) rfl
theorem A3v {X : Nat → Prop} {t0 t1 : Value} {R : Value → WP} {w : World} (h : s9 X t0 t1 R w) : Fn PR X 37 #[t0, t1] w R := C9 (args := [t0, t1]) mixed Tryz.func37 (by kernel_rfl) h
def A4c (X : Nat → Prop) (t0 t1 : Value) (R : Value → WP) : WP :=
 drw <|
 kt (n := 1) (fun t5 =>
 jn (n := 1) (fun t20 =>
 R t5) fun J1 =>
 A0 PR (B1 t5) fun t16 =>
 A0 PR (Instr.fieldAt 141 t16 2) fun t17 =>
 A6 PR (Instr.loadAt 37 t17) fun t18 =>
 A0 PR (A8 .len #[37] 0 [t18]) fun t19 =>
 lp (n := 1) (fun L2 t20_1 =>
 A0 PR (binOp .lss 3 t20_1 t19) fun t21 =>
 jn (n := 0) (
 jn (n := 0) (
 A0 PR (binOp .add 3 t20_1 (.int .i64 1)) fun t29 =>
 L2 t29) fun J3 =>
 A0 PR (B1 t5) fun t24 =>
 A0 PR (Instr.fieldAt 141 t24 2) fun t25 =>
 A6 PR (Instr.loadAt 37 t25) fun t26 =>
 A0 PR (Instr.indexAt 37 t26 t20_1) fun t28 =>
 C6 PR X (Instr.storeAt 3 t28 (.int .i64 (-1))) <|
 J3) fun J4 =>
 C2 t21 (
 J4) (
 J1 t20_1)) (.int .i64 0)) fun C5 =>
 B6 PR X 128 [t0] fun t8_1 =>
 both (B7 PR X (Instr.makeSlice 37 t8_1 t8_1) fun t9_3 =>
 B6 PR X 128 [t1] fun t11_2 =>
 B7 PR X (Instr.makeSlice 37 t11_2 t11_2) fun t12_3 =>
 A0 PR (Instr.build 141 #[(1, t9_3), (2, t12_3)]) fun t13_3 =>
 B7 PR X (Instr.box 141 t13_3) fun t14_3 =>
 C5 t14_3) (both (B6 PR X 128 [t1] fun t11_1 =>
 both (B7 PR X (Instr.makeSlice 37 t8_1 t8_1) fun t9_2 =>
 B7 PR X (Instr.makeSlice 37 t11_1 t11_1) fun t12_2 =>
 A0 PR (Instr.build 141 #[(1, t9_2), (2, t12_2)]) fun t13_2 =>
 B7 PR X (Instr.box 141 t13_2) fun t14_2 =>
 C5 t14_2) (both (B7 PR X (Instr.makeSlice 37 t11_1 t11_1) fun t12_1 =>
 B7 PR X (Instr.makeSlice 37 t8_1 t8_1) fun t9_1 =>
 A0 PR (Instr.build 141 #[(1, t9_1), (2, t12_1)]) fun t13_1 =>
 B7 PR X (Instr.box 141 t13_1) fun t14_1 =>
 C5 t14_1) ((fun _ => True)))) ((fun _ => True)))
theorem A8n : A9 PR 68 := A7 Tryz.func68 (by kernel_rfl) rfl
theorem A91 {X : Nat → Prop} {t0 t1 : Value} {R : Value → WP} {w : World} (h : A4c X t0 t1 R w) : Fn PR X 68 #[t0, t1] w R := C9 (args := [t0, t1]) mixed Tryz.func68 (by kernel_rfl) h
def y1 (X : Nat → Prop) (t0 t1 t2 : Value) (R : Value → WP) : WP :=
 jn (n := 1) (fun t6 =>
 A0 PR (B1 t0) fun t16 =>
 A0 PR (Instr.fieldAt 141 t16 0) fun t17 =>
 B6 PR X 129 [t17] fun t18 =>
 A0 PR (Instr.indexAt 37 t1 t2) fun t21 =>
 R t21) fun J1 =>
 A0 PR (binOp .lss 3 t2 (.int .i64 0)) fun t8 =>
 gj t8 false (fun J => J t2) fun t10 =>
 gj t8 false (fun J => J t1) fun t11 =>
 gj t8 false (fun J => A0 PR (A8 .len #[37] 0 [t11]) J) fun t12 =>
 gj t8 false (fun J => A0 PR (binOp .geq 3 t10 t12) J) fun t13 =>
 A0 PR (do pure (if ← asBool t8 then (.bool true) else t13)) fun t14 =>
 C2 t14 (
 R (.pointer none)) (
 J1 (.pointer none))
theorem K6 : A9 PR 74 := A7 Tryz.func74 (by kernel_rfl) rfl
theorem A4Y {X : Nat → Prop} {t0 t1 t2 : Value} {R : Value → WP} {w : World} (h : y1 X t0 t1 t2 R w) : Fn PR X 74 #[t0, t1, t2] w R := C9 (args := [t0, t1, t2]) mixed Tryz.func74 (by kernel_rfl) h
def A4A (X : Nat → Prop) (t0 t1 t2 : Value) (R : Value → WP) : WP :=
 jn (n := 1) (fun t6 =>
 A0 PR (B1 t0) fun t18 =>
 C6 PR X (Instr.storeAt 3 t18 t2) <|
 R (.bool true)) fun J1 =>
 A6 PR (F3 .eql 131 (.tmp 7) (.const (.pointer none)) t0 (.pointer none)) fun t8 =>
 gj t8 false (fun J => J t0) fun t10 =>
 gj t8 false (fun J => A0 PR (B1 t10) J) fun t11 =>
 gj t8 false (fun J => A6 PR (Instr.loadAt 3 t11) J) fun t12 =>
 gj t8 false (fun J => J t1) fun t13 =>
 gj t8 false (fun J => A0 PR (binOp .neq 3 t12 t13) J) fun t14 =>
 A0 PR (do pure (if ← asBool t8 then (.bool true) else t14)) fun t15 =>
 C2 t15 (
 R (.bool false)) (
 J1 (.bool false))
theorem A2v : A9 PR 75 := A7 Tryz.func75 (by kernel_rfl) rfl
theorem A8j {X : Nat → Prop} {t0 t1 t2 : Value} {R : Value → WP} {w : World} (h : A4A X t0 t1 t2 R w) : Fn PR X 75 #[t0, t1, t2] w R := C9 (args := [t0, t1, t2]) mixed Tryz.func75 (by kernel_rfl) h
def A0Q (X : Nat → Prop) (t0 t1 t2 : Value) (R : Value → WP) : WP :=
 A0 PR (B1 t0) fun t10 =>
 A0 PR (Instr.fieldAt 141 t10 1) fun t11 =>
 A6 PR (Instr.loadAt 37 t11) fun t12 =>
 B6 PR X 74 [t0, t12, t1] fun t14 =>
 jn (n := 1) (fun t6 =>
 A0 PR (B1 t14) fun t18 =>
 A6 PR (Instr.loadAt 3 t18) fun t19 =>
 A0 PR (binOp .add 3 t19 t2) fun t21 =>
 A0 PR (B1 t14) fun t22 =>
 C6 PR X (Instr.storeAt 3 t22 t21) <|
 A0 PR (B1 t14) fun t24 =>
 A6 PR (Instr.loadAt 3 t24) fun t25 =>
 R t25) fun J1 =>
 A6 PR (F3 .eql 131 (.tmp 15) (.const (.pointer none)) t14 (.pointer none)) fun t16 =>
 C2 t16 (
 R (.int .i64 0)) (
 J1 (.int .i64 0))
theorem y4 : A9 PR 93 := A7 Tryz.func93 (by kernel_rfl) rfl
theorem A5H {X : Nat → Prop} {t0 t1 t2 : Value} {R : Value → WP} {w : World} (h : A0Q X t0 t1 t2 R w) : Fn PR X 93 #[t0, t1, t2] w R := C9 (args := [t0, t1, t2]) mixed Tryz.func93 (by kernel_rfl) h
def A1y (X : Nat → Prop) (t0 : Value) (R : Value → WP) : WP :=
 A0 PR (A8 .max #[3, 3] 0 [t0, (.int .i64 0)]) fun t4 =>
 A0 PR (A8 .min #[3, 3] 0 [t4, (.int .i64 1024)]) fun t5 =>
 R t5
theorem m6 : A9 PR 128 := A7 Tryz.func128 (by kernel_rfl) rfl
theorem A7L {X : Nat → Prop} {t0 : Value} {R : Value → WP} {w : World} (h : A1y X t0 R w) : Fn PR X 128 #[t0] w R := C9 (args := [t0]) mixed Tryz.func128 (by kernel_rfl) h
def j5 (X : Nat → Prop) (t0 : Value) (R : Value → WP) : WP :=
 A0 PR (B1 t0) fun t3 =>
 A0 PR (Instr.fieldAt 139 t3 0) fun t4 =>
 B6 PR X 178 [t4, (.int .i64 1)] fun t5 =>
 R (.tuple #[])
theorem A1a : A9 PR 129 := A7 Tryz.func129 (by kernel_rfl) rfl
theorem A2P {X : Nat → Prop} {t0 : Value} {R : Value → WP} {w : World} (h : j5 X t0 R w) : Fn PR X 129 #[t0] w R := C9 (args := [t0]) mixed Tryz.func129 (by kernel_rfl) h
end Go.Proofs.YtjobgnabneddjaaGreat
