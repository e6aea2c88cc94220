/- The proof of a given statement, a part of it (Args Join ShR17 Few ArgsC ShCells). No condition but what each lemma says. -/
import Derived.WalkKit
import Derived.ProofKit
import Derived.OpenShut
import Derived.Carry
import Derived.Deep.Slices
import Derived.Test.YtjobgnabneddjaaGreatRows
import Derived.Test.YtjobgnabneddjaaGreatQ12
set_option linter.unusedVariables false
set_option linter.unusedSimpArgs false
namespace Go.Proofs.YtjobgnabneddjaaGreat
open Go Go.ChangeShapes Go.WideShapes Go.ChangeAt Go.RowKit
theorem B38 {w w' : World} (h : C4 [] w w') (hk : Sk B7 w w') (may : MemPlace → Prop) : w.keptBut w' may := by
 refine ⟨hk.2.2.2.1, hk.2.2.2.2, fun i hi => ?_⟩
 have h1 : w.heap[i]? = some w.heap[i] := Array.getElem?_eq_getElem hi
 have h2 : w'.heap[i]? = some w.heap[i] := h.2 i _ (by simp) h1
 rw [h1, h2]
 cases w.heap[i] <;> simp
theorem B08 {f : FuncId} {args : Array Value} {w : World} (h : Fn PR B7 f args w (fun v w' => v = .bool true ∧ C4 [] w w')) :
  Calls PR f args w fun e w' => e = .returned (.bool true) ∧ (∀ may, w.keptBut w' may) ∧ C4 [] w w' :=
 Calls.mono h fun _ w' ⟨v, he, ⟨hv, hb⟩, hs⟩ => ⟨by rw [he, hv], B38 hb hs, hb⟩
theorem own : ownKnob PR.godebug = none := by kernel_rfl
theorem B4Q : laidOutB PR = true := by kernel_rfl
theorem A9d {H : Type} {enc : TypeId × Value → H} {P : Program} {f : Func} {s : ChangeSpec} {apart fresh handsOn : Bool} {W W' : World} {args : Array Value} {v : Value} {ds gs : List (DataW H)} {before pa pv : List MemPlace}
  (hW : DataW.Whole enc P f.params.toList s.vars apart W args.toList ds gs before)
  (hres : ∀ (b : Nat) (sp : Nat → Bool) (hd : Bool), DataW.TrodAll enc P W' b sp hd f.resultTypes.toList (v.resultList f.resultTypes.size) (s.fn H (ds ++ gs)).results [])
  (hargs : ∀ sp : Nat → Bool, (∀ p ∈ before, sp p.block = true) → DataW.TrodAll enc P W' 0 sp true f.params.toList args.toList (s.fn H (ds ++ gs)).args pa)
  (hvars : ∀ sp : Nat → Bool, (∀ p ∈ before, sp p.block = true) → DataW.TrodVars enc P W' sp s.vars (s.fn H (ds ++ gs)).vars pv)
  (hk : ∀ may, W.keptBut W' may) : s.post enc P f apart fresh handsOn false W args v W' := by
 have hold : ∀ p ∈ before, (fun b => decide (b < W.heap.size)) p.block = true := fun p hp => by simpa using hW.lt p hp
 exact ⟨ds, gs, before, [], pa, pv, hW, hres _ _ _, hargs _ hold, hvars _ hold, hk _, fun h => by cases h⟩
theorem A7E {v x : Value} (h : v.cells.toList = [x]) (hv : plain v = true) : v = x := by
 cases v <;> first | (simp [Value.cells] at h; exact h) | (simp [plain] at hv)
section
variable {H : Type} {enc : TypeId × Value → H} {P : Program} {w : World} {base : Nat} {spare : Nat → Bool} {held : Bool}
theorem A5Z {α : Type} {f : α → List Value} {k : Nat} (hk : ∀ x, (f x).length = k) (hkp : 0 < k) {Q : α → Prop} {t e : TypeId} {fuel : Nat} {cs : List Value} {x : DataW H × List MemPlace}
  (ht : P.underlying t = some (.slice e)) (hc : P.cellsOf e = k) (h : DataW.trod enc P w base spare held fuel t cs = some x)
  (he : ∀ n cs' y, DataW.trod enc P w base spare held n e cs' = some y → ∃ a, cs' = f a ∧ Q a) :
  ∃ (v : Value) (l : List α), cs = [v] ∧ F7 w v l.length (l.flatMap f) ∧ (∀ a ∈ l, Q a) ∧ l.length ≤ maxLen := by
 rcases Go.Deep.open_slice ht h with ⟨rfl, _⟩ | ⟨a, len, cap, m, n, D, Pl, rfl, hb, hl, hm, hmm, _, hx⟩
 ·exact ⟨_, [], rfl, Or.inl ⟨rfl, rfl, none, 0, rfl⟩, by simp, by simp⟩
 have hlm : len ≤ m := by rw [hmm]; split <;> omega
 have hch : ∀ i : Fin len, ∃ a' : α, Q a' ∧ w.cells? base (a.add (i.1 * k)) k = some (f a') := by
  intro i
  obtain ⟨cs', h1, h2⟩ := hx i.1 (by omega)
  obtain ⟨a', rfl, hq⟩ := he _ _ _ h2
  rw [hc] at h1
  exact ⟨a', hq, h1⟩
 let g : Fin len → α := fun i => Classical.choose (hch i)
 have hg : ∀ i, Q (g i) ∧ w.cells? base (a.add (i.1 * k)) k = some (f (g i)) := fun i => Classical.choose_spec (hch i)
 refine ⟨_, List.ofFn g, rfl, ?_, ?_, by simp; omega⟩
 ·by_cases h0 : len = 0
  ·subst h0; exact Or.inl ⟨by simp, by simp, _, _, rfl⟩
  obtain ⟨b, o, spot⟩ := a
  have h1 := (World.cells?_some (hg ⟨0, by omega⟩).2).2.2 0 hkp
  have hfl := hk (g ⟨0, by omega⟩)
  rw [List.getElem?_eq_getElem (by omega)] at h1
  have hspot : spot = none := by simpa [Addr.add] using World.cell?_spot h1
  subst hspot
  refine Or.inr ⟨b, o, cap, by simp, fun i hi => ?_⟩
  rw [L5 hk] at hi
  simp only [List.length_ofFn] at hi
  have hd : i / k * k + i % k = i := by rw [Nat.mul_comm]; exact Nat.div_add_mod i k
  have hj : i % k < k := Nat.mod_lt _ hkp
  have hi' : i / k < len := by rw [Nat.div_lt_iff_lt_mul hkp]; exact hi
  have h2 := (World.cells?_some (hg ⟨i / k, hi'⟩).2).2.2 (i % k) hj
  rw [← hd, c7 hk _ _ _ hj, List.getElem?_ofFn, dif_pos hi']
  simp only [Option.bind_some]
  rw [← h2, U7, U7]
  simp only [Nat.add_assoc]
 ·intro a' ha'
  rw [List.mem_ofFn] at ha'
  obtain ⟨i, rfl⟩ := ha'
  exact (hg i).1
theorem S5 {t : TypeId} {k : IntKind} {fuel : Nat} {cs : List Value} {x : DataW H × List MemPlace} (ht : P.underlying t = some (.int k)) (h : DataW.trod enc P w base spare held fuel t cs = some x) :
  ∃ a : Int, cs = [.int k a] ∧ (Lit.int k a).wf = true := by
 obtain ⟨n, h1, _, h2⟩ := DataW.trod_int ht h
 exact ⟨n, h1, h2⟩
theorem A4u {α : Type} {f : α → List Value} {t e : TypeId} {Q : List α → Prop} {r : Reach} {b0 : Nat} {v : Value} {d : DataW H} {ps : List MemPlace} (ht : P.underlying t = some (.slice e)) (hval : Value.okWide P w r b0 t v) (hd : DataW.Trod enc P w base spare held t v d ps)
  (h : ∀ fuel cs x, DataW.trod enc P w base spare held fuel t cs = some x → ∃ (v : Value) (l : List α), cs = [v] ∧ F7 w v l.length (l.flatMap f) ∧ Q l) : ∃ l : List α, F7 w v l.length (l.flatMap f) ∧ Q l := by
 obtain ⟨a, len, cap, rfl⟩ := okWide_slice ht hval
 obtain ⟨fuel, hf⟩ := hd
 obtain ⟨v', l, h1, h2⟩ := h _ _ _ hf
 have : Value.slice a len cap = v' := A7E h1 rfl
 subst this
 exact ⟨l, h2⟩
end
theorem A6j {H : Type} {enc : TypeId × Value → H} {P : Program} (hl : laidOutB P = true) {W W' : World} (hb : C4 [] W W') {sp : Nat → Bool} :
  ∀ {ts : List TypeId} {vs : List Value} {ds : List (DataW H)} {ps : List MemPlace}, (ts.all fun t => P.readableRec t && decide (t < P.types.size)) = true → DataW.TrodAll enc P W 0 (fun _ => true) true ts vs ds ps →
   (∀ p ∈ ps, p.block < W.heap.size) → (∀ p ∈ ps, sp p.block = true) → DataW.TrodAll enc P W' 0 sp true ts vs ds ps := by
 intro ts
 induction ts with
 | nil => intro vs ds ps _ h _ _; cases vs <;> cases ds <;> exact h
 | cons t ts ih =>
  intro vs ds ps ht h hlt hsp
  simp only [List.all_cons, Bool.and_eq_true, decide_eq_true_eq] at ht
  obtain ⟨v, vs', d, ds', p, q, rfl, rfl, rfl, h0, hr⟩ := trodAll_cons h
  refine ⟨p, q, WideElems.Trod_stays hl ht.1.1 ht.1.2 h0 (fun x hx => ?_) (fun x hx => hsp x (List.mem_append_left _ hx)),
   ih ht.2 hr (fun x hx => hlt x (List.mem_append_right _ hx)) (fun x hx => hsp x (List.mem_append_right _ hx)), rfl⟩
  have hlt' := hlt x (List.mem_append_left _ hx)
  have e1 : W.heap[x.block]? = some W.heap[x.block] := Array.getElem?_eq_getElem hlt'
  have e2 : W'.heap[x.block]? = some W.heap[x.block] := hb.2 _ _ (by simp) e1
  cases x with
  | cell b o => show W'.cell? _ = W.cell? _; unfold World.cell?; rw [show W'.heap[b]? = W.heap[b]? from e2.trans e1.symm]
  | map b => exact e2.trans e1.symm
set_option maxRecDepth 10000
section
variable {H : Type} {enc : TypeId × Value → H} {w : World} {base : Nat} {spare : Nat → Bool} {held : Bool} {fuel : Nat} {cs : List Value} {x : DataW H × List MemPlace}
theorem B3l (h : DataW.trod enc PR w base spare held fuel 155 cs = some x) : ∃ a : E6, cs = G2 a ∧ True := by
 obtain ⟨xs, n, _, rfl, hl, hxl, hf⟩ := DataW.trod_struct A1s.und h
 have hl4 : cs.length = 2 := hl.trans (by kernel_rfl)
 have hx4 : xs.length = 2 := hxl.trans (by kernel_rfl)
 match cs, hl4 with
 | [c0, c1], _ =>
  have f0 := hf 0 _ rfl
  have f1 := hf 1 _ rfl
  rw [List.getElem?_eq_getElem (by omega)] at f0 f1
  obtain ⟨a0, e0, _⟩ := S5 Tryz.underlying3 f0
  obtain ⟨a1, e1, _⟩ := S5 Tryz.underlying3 f1
  have e0 : [c0] = [.int .i64 a0] := e0
  have e1 : [c1] = [.int .i64 a1] := e1
  cases e0; cases e1
  exact ⟨(a0, a1), rfl, trivial⟩
theorem B17 (h : DataW.trod enc PR w base spare held fuel 58 cs = some x) : ∃ (v : Value) (l : List E6), cs = [v] ∧ F7 w v l.length (l.flatMap G2) ∧ l.length ≤ maxLen := by
 obtain ⟨v, l, h1, h2, _, h3⟩ := A5Z (f := G2) (k := 2) (Q := fun _ => True) (fun _ => rfl) (by omega) Tryz.underlying58 (by kernel_rfl) h (fun n cs' y hy => B3l hy)
 exact ⟨v, l, h1, h2, h3⟩
end
end Go.Proofs.YtjobgnabneddjaaGreat
namespace Go.Proofs.YtjobgnabneddjaaGreat
open Go
set_option maxRecDepth 100000
theorem jf2 : mapsRowed Tryz.prog = true := by kernel_rfl
theorem jf6 : (Program.stops Tryz.prog == []) = true := by kernel_rfl
theorem jf8 : (Program.stopKnobs Tryz.prog == []) = true := by kernel_rfl
theorem B8M : Program.stopsHeard Tryz.prog = true := by kernel_rfl
theorem B88 : Program.mayEnter Tryz.prog = true := by kernel_rfl
end Go.Proofs.YtjobgnabneddjaaGreat
namespace Go.Proofs.YtjobgnabneddjaaGreat
open Go
def W7 (X : Nat → Prop) (t0 : Value) (R : Value → WP) : WP :=
 B6 PR X (Instr.box 23 t0) fun t1 =>
 A0 PR (Instr.fieldAt 23 t1 0) fun t3 =>
 A6 PR (Instr.loadAt 3 t3) fun t4 =>
 A0 PR (binOp .leq 3 t4 (.int .i64 6)) fun t5 =>
 gj t5 true (fun J => A0 PR (Instr.fieldAt 23 t1 1) J) fun t7 =>
 gj t5 true (fun J => A6 PR (Instr.loadAt 3 t7) J) fun t8 =>
 gj t5 true (fun J => A0 PR (binOp .leq 3 t8 (.int .i64 6)) J) fun t9 =>
 A0 PR (do pure (if ← asBool t5 then t9 else (.bool false))) fun t10 =>
 gj t10 true (fun J => A0 PR (Instr.fieldAt 23 t1 2) J) fun t12 =>
 gj t10 true (fun J => A6 PR (Instr.loadAt 3 t12) J) fun t13 =>
 gj t10 true (fun J => A0 PR (binOp .leq 3 t13 (.int .i64 12)) J) fun t14 =>
 A0 PR (do pure (if ← asBool t10 then t14 else (.bool false))) fun t15 =>
 R t15
theorem y8 : A9 PR 15 := A7 Tryz.func15 (by kernel_rfl) rfl
theorem A0K {X : Nat → Prop} {t0 : Value} {R : Value → WP} {w : World} (h : W7 X t0 R w) : Fn PR X 15 #[t0] w R := D3 (args := [t0]) mixed Tryz.func15 (by kernel_rfl) h
end Go.Proofs.YtjobgnabneddjaaGreat
namespace Go.Proofs.YtjobgnabneddjaaGreat
open Go
def A07 (c : CfgV) : Bool := decide (c.wk ≤ 6) && decide (c.sh ≤ 6) && decide (c.cp ≤ 12)
theorem B1T (w : World) (c : CfgV) : Fn PR B7 15 #[c.val] w (fun r w' => r = .bool (A07 c) ∧ C4 [] w w') := by
 refine Fn.pure (A0K (TW.go (κ := false) (S := []) ?_))
 unfold W7
 simp only [CfgV.val]
 by_cases c1 : c.wk ≤ 6
 ·by_cases c2 : c.sh ≤ 6
  ·(have zz:=trivial;repeat((first|clear zz|with_reducible first|refine A2 ?_|refine A5 fun _=>?_|refine A4 fun _=>?_);try simp(disch:=first|omega|assumption|((repeat(first|exact A1|exact uH|apply A3|apply uT));first|done|fail)|(simp;first|done|omega|fail))[c1, c2]))
   exact C1 (by simp [A07, c1, c2])
  ·(have zz:=trivial;repeat((first|clear zz|with_reducible first|refine A2 ?_|refine A5 fun _=>?_|refine A4 fun _=>?_);try simp(disch:=first|omega|assumption|((repeat(first|exact A1|exact uH|apply A3|apply uT));first|done|fail)|(simp;first|done|omega|fail))[c1, c2]))
   exact C1 (by simp [A07, c1, c2])
 ·(have zz:=trivial;repeat((first|clear zz|with_reducible first|refine A2 ?_|refine A5 fun _=>?_|refine A4 fun _=>?_);try simp(disch:=first|omega|assumption|((repeat(first|exact A1|exact uH|apply A3|apply uT));first|done|fail)|(simp;first|done|omega|fail))[c1]))
  exact C1 (by simp [A07, c1])
end Go.Proofs.YtjobgnabneddjaaGreat
namespace Go.Proofs.YtjobgnabneddjaaGreat
open Go Go.ChangeShapes Go.WideShapes Go.ChangeAt Go.RowKit
set_option maxRecDepth 10000
section
variable {H : Type} {enc : TypeId × Value → H} {w : World} {base : Nat} {spare : Nat → Bool} {held : Bool} {fuel : Nat} {cs : List Value} {x : DataW H × List MemPlace}
theorem B1x (h : DataW.trod enc PR w base spare held fuel 23 cs = some x) : ∃ c : CfgV, cs = [.int .i64 c.wk, .int .i64 c.sh, .int .i64 c.cp, .int .i64 c.idle, .int .i64 c.sl] ∧ True := by
 obtain ⟨xs, n, _, rfl, hl, hxl, hf⟩ := DataW.trod_struct A0z.und h
 have hl4 : cs.length = 5 := hl.trans (by kernel_rfl)
 have hx4 : xs.length = 5 := hxl.trans (by kernel_rfl)
 match cs, hl4 with
 | [c0, c1, c2, c3, c4], _ =>
  have f0 := hf 0 _ rfl
  have f1 := hf 1 _ rfl
  have f2 := hf 2 _ rfl
  have f3 := hf 3 _ rfl
  have f4 := hf 4 _ rfl
  rw [List.getElem?_eq_getElem (by omega)] at f0 f1 f2 f3 f4
  obtain ⟨a0, e0, _⟩ := S5 Tryz.underlying3 f0
  obtain ⟨a1, e1, _⟩ := S5 Tryz.underlying3 f1
  obtain ⟨a2, e2, _⟩ := S5 Tryz.underlying3 f2
  obtain ⟨a3, e3, _⟩ := S5 Tryz.underlying3 f3
  obtain ⟨a4, e4, _⟩ := S5 Tryz.underlying3 f4
  have e0 : [c0] = [.int .i64 a0] := e0
  have e1 : [c1] = [.int .i64 a1] := e1
  have e2 : [c2] = [.int .i64 a2] := e2
  have e3 : [c3] = [.int .i64 a3] := e3
  have e4 : [c4] = [.int .i64 a4] := e4
  cases e0; cases e1; cases e2; cases e3; cases e4
  exact ⟨⟨a0, a1, a2, a3, a4⟩, rfl, trivial⟩
theorem B4U {v : Value} {cs : Array Value} {l : List Value} (hv : v = .agg cs) (h : v.cells.toList = l) : v = .agg l.toArray := by
 subst hv
 have : cs.toList = l := h
 rw [← this]
theorem A7e {r : Reach} {b0 : Nat} {v : Value} {d : DataW H} {ps : List MemPlace} (hval : Value.okWide PR w r b0 23 v) (hd : DataW.Trod enc PR w base spare held 23 v d ps) : ∃ c : CfgV, v = c.val := by
 obtain ⟨cs, e, _⟩ := okWide_struct A0z.und hval
 obtain ⟨fuel, hf⟩ := hd
 obtain ⟨c, h, _⟩ := B1x hf
 exact ⟨c, B4U e h⟩
end
end Go.Proofs.YtjobgnabneddjaaGreat
namespace Go.Proofs.YtjobgnabneddjaaGreat
open Go
def l3 (X : Nat → Prop) (t0 t1 t2 : Value) (R : Value → WP) : WP :=
 A0 PR (B2 t0) fun t9 =>
 A0 PR (Instr.fieldAt 141 t9 1) fun t10 =>
 A6 PR (Instr.loadAt 37 t10) fun t11 =>
 B5 PR X 74 [t0, t11, t1] fun t13 =>
 A6 PR (G0 .neq 131 (.tmp 14) (.const (.pointer none)) t13 (.pointer none)) fun t15 =>
 C8 t15 (
 A0 PR (B2 t13) fun t18 =>
 E2 PR X (Instr.storeAt 3 t18 t2) <|
 R (.tuple #[])) (
 R (.tuple #[]))
theorem d8 : A9 PR 31 := A7 Tryz.func31 (by kernel_rfl) rfl
theorem A2J {X : Nat → Prop} {t0 t1 t2 : Value} {R : Value → WP} {w : World} (h : l3 X t0 t1 t2 R w) : Fn PR X 31 #[t0, t1, t2] w R := D3 (args := [t0, t1, t2]) mixed Tryz.func31 (by kernel_rfl) h
def n4 (X : Nat → Prop) (t0 t1 : Value) (R : Value → WP) : WP :=
 jn (n := 1) (fun t4 =>
 R (.int .i64 0)) fun J1 =>
 A0 PR (B2 t0) fun t8 =>
 A0 PR (Instr.fieldAt 141 t8 1) fun t9 =>
 A6 PR (Instr.loadAt 37 t9) fun t10 =>
 B5 PR X 74 [t0, t10, t1] fun t12 =>
 A6 PR (G0 .neq 131 (.tmp 13) (.const (.pointer none)) t12 (.pointer none)) fun t14 =>
 C8 t14 (
 A0 PR (B2 t12) fun t16 =>
 A6 PR (Instr.loadAt 3 t16) fun t17 =>
 R t17) (
 J1 (.int .i64 0))
theorem N2 : A9 PR 35 := A7 Tryz.func35 (by kernel_rfl) rfl
theorem A2j {X : Nat → Prop} {t0 t1 : Value} {R : Value → WP} {w : World} (h : n4 X t0 t1 R w) : Fn PR X 35 #[t0, t1] w R := D3 (args := [t0, t1]) mixed Tryz.func35 (by kernel_rfl) h
def A3K (X : Nat → Prop) (t0 t1 : Value) (R : Value → WP) : WP :=
 drw <|
 kt (n := 1) (fun t5 =>
 jn (n := 1) (fun t20 =>
 R t5) fun J1 =>
 A0 PR (B2 t5) fun t16 =>
 A0 PR (Instr.fieldAt 141 t16 2) fun t17 =>
 A6 PR (Instr.loadAt 37 t17) fun t18 =>
 A0 PR (A8 .len #[37] 0 [t18]) fun t19 =>
 lp (n := 1) (fun L2 t20_1 =>
 A0 PR (binOp .lss 3 t20_1 t19) fun t21 =>
 jn (n := 0) (
 jn (n := 0) (
 A0 PR (binOp .add 3 t20_1 (.int .i64 1)) fun t29 =>
 L2 t29) fun J3 =>
 A0 PR (B2 t5) fun t24 =>
 A0 PR (Instr.fieldAt 141 t24 2) fun t25 =>
 A6 PR (Instr.loadAt 37 t25) fun t26 =>
 A0 PR (Instr.indexAt 37 t26 t20_1) fun t28 =>
 E2 PR X (Instr.storeAt 3 t28 (.int .i64 (-1))) <|
 J3) fun J4 =>
 C8 t21 (
 J4) (
 J1 t20_1)) (.int .i64 0)) fun C5 =>
 B5 PR X 128 [t0] fun t8_1 =>
 both (B6 PR X (Instr.makeSlice 37 t8_1 t8_1) fun t9_3 =>
 B5 PR X 128 [t1] fun t11_2 =>
 B6 PR X (Instr.makeSlice 37 t11_2 t11_2) fun t12_3 =>
 A0 PR (Instr.build 141 #[(1, t9_3), (2, t12_3)]) fun t13_3 =>
 B6 PR X (Instr.box 141 t13_3) fun t14_3 =>
 C5 t14_3) (both (B5 PR X 128 [t1] fun t11_1 =>
 both (B6 PR X (Instr.makeSlice 37 t8_1 t8_1) fun t9_2 =>
 B6 PR X (Instr.makeSlice 37 t11_1 t11_1) fun t12_2 =>
 A0 PR (Instr.build 141 #[(1, t9_2), (2, t12_2)]) fun t13_2 =>
 B6 PR X (Instr.box 141 t13_2) fun t14_2 =>
 C5 t14_2) (both (B6 PR X (Instr.makeSlice 37 t11_1 t11_1) fun t12_1 =>
 B6 PR X (Instr.makeSlice 37 t8_1 t8_1) fun t9_1 =>
 A0 PR (Instr.build 141 #[(1, t9_1), (2, t12_1)]) fun t13_1 =>
 B6 PR X (Instr.box 141 t13_1) fun t14_1 =>
 C5 t14_1) ((fun _ => True)))) ((fun _ => True)))
theorem A6l : A9 PR 68 := A7 Tryz.func68 (by kernel_rfl) rfl
theorem A7C {X : Nat → Prop} {t0 t1 : Value} {R : Value → WP} {w : World} (h : A3K X t0 t1 R w) : Fn PR X 68 #[t0, t1] w R := D3 (args := [t0, t1]) mixed Tryz.func68 (by kernel_rfl) h
def m4 (X : Nat → Prop) (t0 t1 t2 : Value) (R : Value → WP) : WP :=
 jn (n := 1) (fun t6 =>
 A0 PR (B2 t0) fun t16 =>
 A0 PR (Instr.fieldAt 141 t16 0) fun t17 =>
 B5 PR X 129 [t17] fun t18 =>
 A0 PR (Instr.indexAt 37 t1 t2) fun t21 =>
 R t21) fun J1 =>
 A0 PR (binOp .lss 3 t2 (.int .i64 0)) fun t8 =>
 gj t8 false (fun J => J t2) fun t10 =>
 gj t8 false (fun J => J t1) fun t11 =>
 gj t8 false (fun J => A0 PR (A8 .len #[37] 0 [t11]) J) fun t12 =>
 gj t8 false (fun J => A0 PR (binOp .geq 3 t10 t12) J) fun t13 =>
 A0 PR (do pure (if ← asBool t8 then (.bool true) else t13)) fun t14 =>
 C8 t14 (
 R (.pointer none)) (
 J1 (.pointer none))
theorem T1 : A9 PR 74 := A7 Tryz.func74 (by kernel_rfl) rfl
theorem A2a {X : Nat → Prop} {t0 t1 t2 : Value} {R : Value → WP} {w : World} (h : m4 X t0 t1 t2 R w) : Fn PR X 74 #[t0, t1, t2] w R := D3 (args := [t0, t1, t2]) mixed Tryz.func74 (by kernel_rfl) h
def r9 (X : Nat → Prop) (t0 t1 t2 : Value) (R : Value → WP) : WP :=
 A0 PR (B2 t0) fun t10 =>
 A0 PR (Instr.fieldAt 141 t10 1) fun t11 =>
 A6 PR (Instr.loadAt 37 t11) fun t12 =>
 B5 PR X 74 [t0, t12, t1] fun t14 =>
 jn (n := 1) (fun t6 =>
 A0 PR (B2 t14) fun t18 =>
 A6 PR (Instr.loadAt 3 t18) fun t19 =>
 A0 PR (binOp .add 3 t19 t2) fun t21 =>
 A0 PR (B2 t14) fun t22 =>
 E2 PR X (Instr.storeAt 3 t22 t21) <|
 A0 PR (B2 t14) fun t24 =>
 A6 PR (Instr.loadAt 3 t24) fun t25 =>
 R t25) fun J1 =>
 A6 PR (G0 .eql 131 (.tmp 15) (.const (.pointer none)) t14 (.pointer none)) fun t16 =>
 C8 t16 (
 R (.int .i64 0)) (
 J1 (.int .i64 0))
theorem m8 : A9 PR 93 := A7 Tryz.func93 (by kernel_rfl) rfl
theorem A2w {X : Nat → Prop} {t0 t1 t2 : Value} {R : Value → WP} {w : World} (h : r9 X t0 t1 t2 R w) : Fn PR X 93 #[t0, t1, t2] w R := D3 (args := [t0, t1, t2]) mixed Tryz.func93 (by kernel_rfl) h
def A0Q (X : Nat → Prop) (t0 : Value) (R : Value → WP) : WP :=
 A0 PR (A8 .max #[3, 3] 0 [t0, (.int .i64 0)]) fun t4 =>
 A0 PR (A8 .min #[3, 3] 0 [t4, (.int .i64 1024)]) fun t5 =>
 R t5
theorem c8 : A9 PR 128 := A7 Tryz.func128 (by kernel_rfl) rfl
theorem A5H {X : Nat → Prop} {t0 : Value} {R : Value → WP} {w : World} (h : A0Q X t0 R w) : Fn PR X 128 #[t0] w R := D3 (args := [t0]) mixed Tryz.func128 (by kernel_rfl) h
def Z4 (X : Nat → Prop) (t0 : Value) (R : Value → WP) : WP :=
 A0 PR (B2 t0) fun t3 =>
 A0 PR (Instr.fieldAt 139 t3 0) fun t4 =>
 B5 PR X 178 [t4, (.int .i64 1)] fun t5 =>
 R (.tuple #[])
theorem A0H : A9 PR 129 := A7 Tryz.func129 (by kernel_rfl) rfl
theorem A0w {X : Nat → Prop} {t0 : Value} {R : Value → WP} {w : World} (h : Z4 X t0 R w) : Fn PR X 129 #[t0] w R := D3 (args := [t0]) mixed Tryz.func129 (by kernel_rfl) h
end Go.Proofs.YtjobgnabneddjaaGreat
