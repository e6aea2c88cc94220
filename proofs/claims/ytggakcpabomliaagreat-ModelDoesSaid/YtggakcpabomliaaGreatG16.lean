/- The proof of a given statement, a part of it (Args Join ShL17 Tab Tab2 Model5 Model6 Model7 Model8 Tab3 Wk DoT Works17 ShR17 Few17 Run17 Steps17 Args17 Copy ShR08 ShR12 ShR11 Rf11 ShR02 Rf02 Rf11b Rf12 ShR09 ShR10 ShR01 Rf01 Without). No condition but what each lemma says. -/
import Derived.WalkKit
import Derived.ProofKit
import Derived.OpenShut
import Derived.Carry
import Derived.Deep.Slices
import Derived.Test.YtggakcpabomliaaGreatRows
import Derived.Test.YtggakcpabomliaaGreatG15
set_option linter.unusedVariables false
set_option linter.unusedSimpArgs false
namespace Go.Proofs.YtggakcpabomliaaGreat
open Go Go.ChangeShapes Go.WideShapes Go.ChangeAt Go.RowKit
theorem C4k {w w' : World} (h : C0 [] w w') (hk : Sk B5 w w') (may : MemPlace → Prop) : w.keptBut w' may := by
 refine ⟨hk.2.2.2.1, hk.2.2.2.2, fun i hi => ?_⟩
 have h1 : w.heap[i]? = some w.heap[i] := Array.getElem?_eq_getElem hi
 have h2 : w'.heap[i]? = some w.heap[i] := h.2 i _ (by simp) h1
 rw [h1, h2]
 cases w.heap[i] <;> simp
theorem B9z {f : FuncId} {args : Array Value} {w : World} (h : Fn PR B5 f args w (fun v w' => v = .bool true ∧ C0 [] w w')) :
  Calls PR f args w fun e w' => e = .returned (.bool true) ∧ (∀ may, w.keptBut w' may) ∧ C0 [] w w' :=
 Calls.mono h fun _ w' ⟨v, he, ⟨hv, hb⟩, hs⟩ => ⟨by rw [he, hv], C4k hb hs, hb⟩
theorem own : ownKnob PR.godebug = none := by kernel_rfl
theorem C41 : laidOutB PR = true := by kernel_rfl
theorem B8K {H : Type} {enc : TypeId × Value → H} {P : Program} {f : Func} {s : ChangeSpec} {apart fresh handsOn : Bool} {W W' : World} {args : Array Value} {v : Value} {ds gs : List (DataW H)} {before pa pv : List MemPlace}
  (hW : DataW.Whole enc P f.params.toList s.vars apart W args.toList ds gs before)
  (hres : ∀ (b : Nat) (sp : Nat → Bool) (hd : Bool), DataW.TrodAll enc P W' b sp hd f.resultTypes.toList (v.resultList f.resultTypes.size) (s.fn H (ds ++ gs)).results [])
  (hargs : ∀ sp : Nat → Bool, (∀ p ∈ before, sp p.block = true) → DataW.TrodAll enc P W' 0 sp true f.params.toList args.toList (s.fn H (ds ++ gs)).args pa)
  (hvars : ∀ sp : Nat → Bool, (∀ p ∈ before, sp p.block = true) → DataW.TrodVars enc P W' sp s.vars (s.fn H (ds ++ gs)).vars pv)
  (hk : ∀ may, W.keptBut W' may) : s.post enc P f apart fresh handsOn false W args v W' := by
 have hold : ∀ p ∈ before, (fun b => decide (b < W.heap.size)) p.block = true := fun p hp => by simpa using hW.lt p hp
 exact ⟨ds, gs, before, [], pa, pv, hW, hres _ _ _, hargs _ hold, hvars _ hold, hk _, fun h => by cases h⟩
theorem B5d {v x : Value} (h : v.cells.toList = [x]) (hv : plain v = true) : v = x := by
 cases v <;> first | (simp [Value.cells] at h; exact h) | (simp [plain] at hv)
section
variable {H : Type} {enc : TypeId × Value → H} {P : Program} {w : World} {base : Nat} {spare : Nat → Bool} {held : Bool}
theorem B7L {α : Type} {f : α → List Value} {k : Nat} (hk : ∀ x, (f x).length = k) (hkp : 0 < k) {Q : α → Prop} {t e : TypeId} {fuel : Nat} {cs : List Value} {x : DataW H × List MemPlace}
  (ht : P.underlying t = some (.slice e)) (hc : P.cellsOf e = k) (h : DataW.trod enc P w base spare held fuel t cs = some x)
  (he : ∀ n cs' y, DataW.trod enc P w base spare held n e cs' = some y → ∃ a, cs' = f a ∧ Q a) :
  ∃ (v : Value) (l : List α), cs = [v] ∧ E3 w v l.length (l.flatMap f) ∧ (∀ a ∈ l, Q a) ∧ l.length ≤ maxLen := by
 rcases Go.Deep.open_slice ht h with ⟨rfl, _⟩ | ⟨a, len, cap, m, n, D, Pl, rfl, hb, hl, hm, hmm, _, hx⟩
 ·exact ⟨_, [], rfl, Or.inl ⟨rfl, rfl, none, 0, rfl⟩, by simp, by simp⟩
 have hlm : len ≤ m := by rw [hmm]; split <;> omega
 have hch : ∀ i : Fin len, ∃ a' : α, Q a' ∧ w.cells? base (a.add (i.1 * k)) k = some (f a') := by
  intro i
  obtain ⟨cs', h1, h2⟩ := hx i.1 (by omega)
  obtain ⟨a', rfl, hq⟩ := he _ _ _ h2
  rw [hc] at h1
  exact ⟨a', hq, h1⟩
 let g : Fin len → α := fun i => Classical.choose (hch i)
 have hg : ∀ i, Q (g i) ∧ w.cells? base (a.add (i.1 * k)) k = some (f (g i)) := fun i => Classical.choose_spec (hch i)
 refine ⟨_, List.ofFn g, rfl, ?_, ?_, by simp; omega⟩
 ·by_cases h0 : len = 0
  ·subst h0; exact Or.inl ⟨by simp, by simp, _, _, rfl⟩
  obtain ⟨b, o, spot⟩ := a
  have h1 := (World.cells?_some (hg ⟨0, by omega⟩).2).2.2 0 hkp
  have hfl := hk (g ⟨0, by omega⟩)
  rw [List.getElem?_eq_getElem (by omega)] at h1
  have hspot : spot = none := by simpa [Addr.add] using World.cell?_spot h1
  subst hspot
  refine Or.inr ⟨b, o, cap, by simp, fun i hi => ?_⟩
  rw [L0 hk] at hi
  simp only [List.length_ofFn] at hi
  have hd : i / k * k + i % k = i := by rw [Nat.mul_comm]; exact Nat.div_add_mod i k
  have hj : i % k < k := Nat.mod_lt _ hkp
  have hi' : i / k < len := by rw [Nat.div_lt_iff_lt_mul hkp]; exact hi
  have h2 := (World.cells?_some (hg ⟨i / k, hi'⟩).2).2.2 (i % k) hj
  rw [← hd, W3 hk _ _ _ hj, List.getElem?_ofFn, dif_pos hi']
  simp only [Option.bind_some]
  rw [← h2, W6, W6]
  simp only [Nat.add_assoc]
 ·intro a' ha'
  rw [List.mem_ofFn] at ha'
  obtain ⟨i, rfl⟩ := ha'
  exact (hg i).1
theorem Y5 {t : TypeId} {k : IntKind} {fuel : Nat} {cs : List Value} {x : DataW H × List MemPlace} (ht : P.underlying t = some (.int k)) (h : DataW.trod enc P w base spare held fuel t cs = some x) :
  ∃ a : Int, cs = [.int k a] ∧ (Lit.int k a).wf = true := by
 obtain ⟨n, h1, _, h2⟩ := DataW.trod_int ht h
 exact ⟨n, h1, h2⟩
theorem C1J {t : TypeId} {fuel : Nat} {cs : List Value} {x : DataW H × List MemPlace} (ht : P.underlying t = some .string) (h : DataW.trod enc P w base spare held fuel t cs = some x) :
  ∃ s : ByteArray, cs = [.string s] ∧ s.size ≤ maxLen := by
 obtain ⟨s, h1, _, h2⟩ := DataW.trod_string ht h
 exact ⟨s, h1, h2⟩
theorem B86 {α : Type} {f : α → List Value} {t e : TypeId} {Q : List α → Prop} {r : Reach} {b0 : Nat} {v : Value} {d : DataW H} {ps : List MemPlace} (ht : P.underlying t = some (.slice e)) (hval : Value.okWide P w r b0 t v) (hd : DataW.Trod enc P w base spare held t v d ps)
  (h : ∀ fuel cs x, DataW.trod enc P w base spare held fuel t cs = some x → ∃ (v : Value) (l : List α), cs = [v] ∧ E3 w v l.length (l.flatMap f) ∧ Q l) : ∃ l : List α, E3 w v l.length (l.flatMap f) ∧ Q l := by
 obtain ⟨a, len, cap, rfl⟩ := okWide_slice ht hval
 obtain ⟨fuel, hf⟩ := hd
 obtain ⟨v', l, h1, h2⟩ := h _ _ _ hf
 have : Value.slice a len cap = v' := B5d h1 rfl
 subst this
 exact ⟨l, h2⟩
end
theorem B37 {H : Type} {enc : TypeId × Value → H} {P : Program} (hl : laidOutB P = true) {W W' : World} (hb : C0 [] W W') {sp : Nat → Bool} :
  ∀ {ts : List TypeId} {vs : List Value} {ds : List (DataW H)} {ps : List MemPlace}, (ts.all fun t => P.readableRec t && decide (t < P.types.size)) = true → DataW.TrodAll enc P W 0 (fun _ => true) true ts vs ds ps →
   (∀ p ∈ ps, p.block < W.heap.size) → (∀ p ∈ ps, sp p.block = true) → DataW.TrodAll enc P W' 0 sp true ts vs ds ps := by
 intro ts
 induction ts with
 | nil => intro vs ds ps _ h _ _; cases vs <;> cases ds <;> exact h
 | cons t ts ih =>
  intro vs ds ps ht h hlt hsp
  simp only [List.all_cons, Bool.and_eq_true, decide_eq_true_eq] at ht
  obtain ⟨v, vs', d, ds', p, q, rfl, rfl, rfl, h0, hr⟩ := trodAll_cons h
  refine ⟨p, q, WideElems.Trod_stays hl ht.1.1 ht.1.2 h0 (fun x hx => ?_) (fun x hx => hsp x (List.mem_append_left _ hx)),
   ih ht.2 hr (fun x hx => hlt x (List.mem_append_right _ hx)) (fun x hx => hsp x (List.mem_append_right _ hx)), rfl⟩
  have hlt' := hlt x (List.mem_append_left _ hx)
  have e1 : W.heap[x.block]? = some W.heap[x.block] := Array.getElem?_eq_getElem hlt'
  have e2 : W'.heap[x.block]? = some W.heap[x.block] := hb.2 _ _ (by simp) e1
  cases x with
  | cell b o => show W'.cell? _ = W.cell? _; unfold World.cell?; rw [show W'.heap[b]? = W.heap[b]? from e2.trans e1.symm]
  | map b => exact e2.trans e1.symm
set_option maxRecDepth 10000
section
variable {H : Type} {enc : TypeId × Value → H} {w : World} {base : Nat} {spare : Nat → Bool} {held : Bool} {fuel : Nat} {cs : List Value} {x : DataW H × List MemPlace}
theorem C4C (h : DataW.trod enc PR w base spare held fuel 103 cs = some x) : ∃ a : G5, cs = E8 a ∧ True := by
 obtain ⟨xs, n, _, rfl, hl, hxl, hf⟩ := DataW.trod_struct A4k.und h
 have hl4 : cs.length = 2 := hl.trans (by kernel_rfl)
 have hx4 : xs.length = 2 := hxl.trans (by kernel_rfl)
 match cs, hl4 with
 | [c0, c1], _ =>
  have f0 := hf 0 _ rfl
  have f1 := hf 1 _ rfl
  rw [List.getElem?_eq_getElem (by omega)] at f0 f1
  obtain ⟨a0, e0, _⟩ := Y5 Tryz.underlying3 f0
  obtain ⟨a1, e1, _⟩ := Y5 Tryz.underlying3 f1
  have e0 : [c0] = [.int .i64 a0] := e0
  have e1 : [c1] = [.int .i64 a1] := e1
  cases e0; cases e1
  exact ⟨(a0, a1), rfl, trivial⟩
theorem C1U (h : DataW.trod enc PR w base spare held fuel 32 cs = some x) : ∃ (v : Value) (l : List G5), cs = [v] ∧ E3 w v l.length (l.flatMap E8) ∧ l.length ≤ maxLen := by
 obtain ⟨v, l, h1, h2, _, h3⟩ := B7L (f := E8) (k := 2) (Q := fun _ => True) (fun _ => rfl) (by omega) Tryz.underlying32 (by kernel_rfl) h (fun n cs' y hy => C4C hy)
 exact ⟨v, l, h1, h2, h3⟩
end
end Go.Proofs.YtggakcpabomliaaGreat
namespace Go.Proofs.YtggakcpabomliaaGreat
open Go
set_option maxRecDepth 100000
theorem jf2 : mapsRowed Tryz.prog = true := by kernel_rfl
theorem jf6 : (Program.stops Tryz.prog == []) = true := by kernel_rfl
theorem jf8 : (Program.stopKnobs Tryz.prog == []) = true := by kernel_rfl
theorem C9j : Program.stopsHeard Tryz.prog = true := by kernel_rfl
theorem C9p : Program.mayEnter Tryz.prog = true := by kernel_rfl
end Go.Proofs.YtggakcpabomliaaGreat
namespace Go.Proofs.YtggakcpabomliaaGreat
open Go
def j8 (X : Nat → Prop) (t0 t1 : Value) (R : Value → WP) : WP :=
 B1 PR X (Instr.box 23 t0) fun t2 =>
 B2 PR X 14 [] fun t15 =>
 jn (n := 1) (fun t4 =>
 jn (n := 1) (fun t4_1 =>
 A6 PR (Instr.loadAt 23 t2) fun t24 =>
 B2 PR X 16 [t24] fun t25 =>
 A2 PR (Instr.extract t25 0) fun t26 =>
 A2 PR (Instr.extract t25 1) fun t27 =>
 jn (n := 1) (fun t4_2 =>
 jn (n := 1) (fun t4_3 =>
 A6 PR (Instr.loadAt 23 t2) fun t52 =>
 B2 PR X 19 [t52] fun t53 =>
 B1 PR X (Instr.alloc 36 true (.tuple #[])) fun t8 =>
 B4 PR X (Instr.storeAt 36 t8 t53) <|
 jn (n := 2) (fun t4_4 t9 =>
 R t15) fun J1 =>
 lp (n := 2) (fun L2 t4_5 t9_1 =>
 jn (n := 0) (
 jn (n := 2) (fun t4_6 t13 =>
 A2 PR (binOp .add 3 t9_1 (.int .i64 1)) fun t59 =>
 L2 t4_6 t59) fun J3 =>
 drw <|
 kt (n := 1) (fun t10 =>
 drw <|
 kt (n := 2) (fun t11 t12 =>
 A6 PR (Instr.loadAt 36 t11) fun t87 =>
 B4 PR X (Instr.storeAt 36 t8 t87) <|
 jn (n := 1) (fun t4_7 =>
 lp (n := 2) (fun L4 t4_8 t13_1 =>
 jn (n := 0) (
 jn (n := 1) (fun t4_9 =>
 A2 PR (binOp .add 3 t13_1 (.int .i64 1)) fun t104 =>
 L4 t4_9 t104) fun J5 =>
 drw <|
 A2 PR (Instr.fieldAt 36 t8 2) fun t108 =>
 A6 PR (Instr.loadAt 33 t108) fun t109 =>
 A2 PR (Instr.indexAt 33 t109 t13_1) fun t111 =>
 A6 PR (Instr.loadAt 50 t111) fun t112 =>
 B2 PR X 25 [t26, t13_1] fun t107 =>
 watch PR [(none, (Instr.loadAt 50 t111), t112), (none, (Instr.loadAt 33 t108), t109)] <|
 B2 PR X 24 [t107, t112] fun t113 =>
 A2 PR (Op.unary .not t113) fun t115 =>
 B6 t115 (
 R (.bool false)) (
 J5 t4_8)) fun J6 =>
 A2 PR (Instr.fieldAt 23 t2 1) fun t100 =>
 A6 PR (Instr.loadAt 3 t100) fun t101 =>
 A2 PR (binOp .lss 3 t13_1 t101) fun t102 =>
 B6 t102 (
 J6) (
 J3 t4_8 t13_1)) t4_7 (.int .i64 0)) fun J7 =>
 drw <|
 A6 PR (Instr.loadAt 39 t10) fun t88 =>
 A6 PR (Instr.loadAt 39 t12) fun t89 =>
 A6 PR (N2 .neq 39 (.tmp 88) (.tmp 89) t88 t89) fun t90 =>
 gj t90 false (fun J => J t26) fun t92 =>
 gj t90 false (fun J => A2 PR (Instr.fieldAt 36 t8 1) J) fun t94 =>
 gj t90 false (fun J => A6 PR (Instr.loadAt 32 t94) J) fun t95 =>
 gj t90 false (fun J => B2 PR X 23 [t92] J) fun t93 =>
 watch PR [((some (t90, false)), (Instr.loadAt 32 t94), t95)] <|
 gj t90 false (fun J => B2 PR X 22 [t93, t95] J) fun t96 =>
 gj t90 false (fun J => A2 PR (Op.unary .not t96) J) fun t97 =>
 A2 PR (do pure (if ← asBool t90 then (.bool true) else t97)) fun t98 =>
 B6 t98 (
 R (.bool false)) (
 J7 t4_5)) fun C8 =>
 A6 PR (Instr.loadAt 36 t8) fun t73_1 =>
 A2 PR (Instr.indexAt 24 t1 t9_1) fun t76_1 =>
 A2 PR (Instr.fieldAt 44 t76_1 0) fun t77_1 =>
 A6 PR (Instr.loadAt 42 t77_1) fun t78_1 =>
 A2 PR (Instr.indexAt 24 t1 t9_1) fun t81_1 =>
 A2 PR (Instr.fieldAt 44 t81_1 1) fun t82_1 =>
 A6 PR (Instr.loadAt 3 t82_1) fun t83_1 =>
 both (B2 PR X 21 [t73_1, t78_1, t83_1] fun t84_5 =>
 A2 PR (Instr.extract t84_5 0) fun t85_5 =>
 A2 PR (Instr.extract t84_5 1) fun t86_5 =>
 both (B1 PR X (Instr.alloc 36 true (.tuple #[])) fun t11_5 =>
 B1 PR X (Instr.alloc 39 true (.tuple #[])) fun t12_5 =>
 B4 PR X (Instr.storeAt 36 t11_5 t85_5) <|
 B4 PR X (Instr.storeAt 39 t12_5 t86_5) <|
 C8 t11_5 t12_5) (both (B1 PR X (Instr.alloc 39 true (.tuple #[])) fun t12_4 =>
 B1 PR X (Instr.alloc 36 true (.tuple #[])) fun t11_4 =>
 B4 PR X (Instr.storeAt 36 t11_4 t85_5) <|
 B4 PR X (Instr.storeAt 39 t12_4 t86_5) <|
 C8 t11_4 t12_4) ((fun _ => True)))) (both (B1 PR X (Instr.alloc 36 true (.tuple #[])) fun t11_3 =>
 watch PR [(none, (Instr.loadAt 3 t82_1), t83_1), (none, (Instr.loadAt 42 t77_1), t78_1), (none, (Instr.loadAt 36 t8), t73_1)] <|
 both (B2 PR X 21 [t73_1, t78_1, t83_1] fun t84_4 =>
 A2 PR (Instr.extract t84_4 0) fun t85_4 =>
 A2 PR (Instr.extract t84_4 1) fun t86_4 =>
 B1 PR X (Instr.alloc 39 true (.tuple #[])) fun t12_3 =>
 B4 PR X (Instr.storeAt 36 t11_3 t85_4) <|
 B4 PR X (Instr.storeAt 39 t12_3 t86_4) <|
 C8 t11_3 t12_3) (both (B1 PR X (Instr.alloc 39 true (.tuple #[])) fun t12_2 =>
 watch PR [(none, (Instr.loadAt 3 t82_1), t83_1), (none, (Instr.loadAt 42 t77_1), t78_1), (none, (Instr.loadAt 36 t8), t73_1)] <|
 B2 PR X 21 [t73_1, t78_1, t83_1] fun t84_3 =>
 A2 PR (Instr.extract t84_3 0) fun t85_3 =>
 A2 PR (Instr.extract t84_3 1) fun t86_3 =>
 B4 PR X (Instr.storeAt 36 t11_3 t85_3) <|
 B4 PR X (Instr.storeAt 39 t12_2 t86_3) <|
 C8 t11_3 t12_2) ((fun _ => True)))) (both (B1 PR X (Instr.alloc 39 true (.tuple #[])) fun t12_1 =>
 watch PR [(none, (Instr.loadAt 3 t82_1), t83_1), (none, (Instr.loadAt 42 t77_1), t78_1), (none, (Instr.loadAt 36 t8), t73_1)] <|
 both (B2 PR X 21 [t73_1, t78_1, t83_1] fun t84_2 =>
 A2 PR (Instr.extract t84_2 0) fun t85_2 =>
 A2 PR (Instr.extract t84_2 1) fun t86_2 =>
 B1 PR X (Instr.alloc 36 true (.tuple #[])) fun t11_2 =>
 B4 PR X (Instr.storeAt 36 t11_2 t85_2) <|
 B4 PR X (Instr.storeAt 39 t12_1 t86_2) <|
 C8 t11_2 t12_1) (both (B1 PR X (Instr.alloc 36 true (.tuple #[])) fun t11_1 =>
 watch PR [(none, (Instr.loadAt 3 t82_1), t83_1), (none, (Instr.loadAt 42 t77_1), t78_1), (none, (Instr.loadAt 36 t8), t73_1)] <|
 B2 PR X 21 [t73_1, t78_1, t83_1] fun t84_1 =>
 A2 PR (Instr.extract t84_1 0) fun t85_1 =>
 A2 PR (Instr.extract t84_1 1) fun t86_1 =>
 B4 PR X (Instr.storeAt 36 t11_1 t85_1) <|
 B4 PR X (Instr.storeAt 39 t12_1 t86_1) <|
 C8 t11_1 t12_1) ((fun _ => True)))) ((fun _ => True))))) fun C9 =>
 A2 PR (Instr.indexAt 24 t1 t9_1) fun t63_1 =>
 A2 PR (Instr.fieldAt 44 t63_1 0) fun t64_1 =>
 A6 PR (Instr.loadAt 42 t64_1) fun t65_1 =>
 A2 PR (Instr.indexAt 24 t1 t9_1) fun t68_1 =>
 A2 PR (Instr.fieldAt 44 t68_1 1) fun t69_1 =>
 A6 PR (Instr.loadAt 3 t69_1) fun t70_1 =>
 both (B2 PR X 20 [t26, t65_1, t70_1] fun t71_2 =>
 B1 PR X (Instr.alloc 39 true (.tuple #[])) fun t10_2 =>
 B4 PR X (Instr.storeAt 39 t10_2 t71_2) <|
 C9 t10_2) (both (B1 PR X (Instr.alloc 39 true (.tuple #[])) fun t10_1 =>
 watch PR [(none, (Instr.loadAt 3 t69_1), t70_1), (none, (Instr.loadAt 42 t64_1), t65_1)] <|
 B2 PR X 20 [t26, t65_1, t70_1] fun t71_1 =>
 B4 PR X (Instr.storeAt 39 t10_1 t71_1) <|
 C9 t10_1) ((fun _ => True)))) fun J10 =>
 A2 PR (A7 .len #[24] 0 [t1]) fun t56 =>
 A2 PR (binOp .lss 3 t9_1 t56) fun t57 =>
 B6 t57 (
 J10) (
 J1 t4_5 t9_1)) t4_3 (.int .i64 0)) fun J11 =>
 A2 PR (binOp .neq 28 t27 (.int .i64 0)) fun t46 =>
 gj t46 false (fun J => J t26) fun t48 =>
 gj t46 false (fun J => A6 PR (N2 .eql 27 (.tmp 48) (.const (.pointer none)) t48 (.pointer none)) J) fun t49 =>
 A2 PR (do pure (if ← asBool t46 then (.bool true) else t49)) fun t50 =>
 B6 t50 (
 R t15) (
 J11 t4_2)) fun J12 =>
 A6 PR (Instr.loadAt 23 t2) fun t29 =>
 B2 PR X 17 [t29] fun t30 =>
 A2 PR (binOp .neq 28 t27 t30) fun t31 =>
 gj t31 false (fun J => A6 PR (Instr.loadAt 23 t2) J) fun t33 =>
 gj t31 false (fun J => B2 PR X 18 [t33] J) fun t34 =>
 gj t31 false (fun J => J t27) fun t35 =>
 gj t31 false (fun J => A2 PR (binOp .neq 28 t34 t35) J) fun t36 =>
 A2 PR (do pure (if ← asBool t31 then (.bool true) else t36)) fun t37 =>
 gj t37 false (fun J => J t26) fun t39 =>
 gj t37 false (fun J => A6 PR (N2 .eql 27 (.tmp 39) (.const (.pointer none)) t39 (.pointer none)) J) fun t40 =>
 gj t37 false (fun J => J t27) fun t41 =>
 gj t37 false (fun J => A2 PR (binOp .neq 28 t41 (.int .i64 0)) J) fun t42 =>
 gj t37 false (fun J => A2 PR (binOp .neq 4 t40 t42) J) fun t43 =>
 A2 PR (do pure (if ← asBool t37 then (.bool true) else t43)) fun t44 =>
 B6 t44 (
 R (.bool false)) (
 J12 t4_1)) fun J13 =>
 A6 PR (Instr.loadAt 23 t2) fun t18 =>
 B2 PR X 15 [t18, t1] fun t20 =>
 A2 PR (Op.unary .not t20) fun t21 =>
 B6 t21 (
 R t15) (
 J13 t4)) fun J14 =>
 A2 PR (Op.unary .not t15) fun t17 =>
 B6 t17 (
 R (.bool false)) (
 J14 (.bool false))
theorem A2Q {X : Nat → Prop} {t0 t1 : Value} {R : Value → WP} {w : World} (h : j8 X t0 t1 R w) : Fn PR X 3 #[t0, t1] w R := C7 (args := [t0, t1]) mixed Tryz.func3 (by kernel_rfl) h
def v7 (X : Nat → Prop) (R : Value → WP) : WP :=
 A2 PR (Instr.build 23 #[(0, (.int .i64 1)), (1, (.int .i64 1)), (2, (.int .i64 1)), (3, (.int .i64 5)), (4, (.int .i64 2))]) fun t14 =>
 B1 PR X (Instr.alloc 23 true (.tuple #[])) fun t1 =>
 B4 PR X (Instr.storeAt 23 t1 t14) <|
 A6 PR (Instr.loadAt 23 t1) fun t16 =>
 B2 PR X 16 [t16] fun t17 =>
 A2 PR (Instr.extract t17 0) fun t18 =>
 A2 PR (Instr.extract t17 1) fun t19 =>
 A2 PR (Instr.build 23 #[]) fun t21 =>
 B2 PR X 16 [t21] fun t22 =>
 A2 PR (Instr.extract t22 0) fun t23 =>
 A2 PR (Instr.extract t22 1) fun t24 =>
 jn (n := 1) (fun t0 =>
 A2 PR (Instr.build 99 #[(0, (.int .i64 4)), (1, (.string (ByteArray.mk #[97, 98, 99, 100]))), (2, (.string (ByteArray.mk #[101, 102, 103, 104]))), (3, (.int .i64 1)), (4, (.int .i64 2)), (5, (.int .i64 17))]) fun t28 =>
 A2 PR (Instr.build 101 #[(0, t28)]) fun t29 =>
 B2 PR X 54 [t29] fun t30 =>
 A2 PR (Instr.extract t30 0) fun t31 =>
 A2 PR (Instr.extract t30 1) fun t32 =>
 A2 PR (Instr.build 42 #[(1, t31)]) fun t35 =>
 B2 PR X 20 [t18, t35, (.int .i64 0)] fun t36 =>
 B1 PR X (Instr.alloc 39 true (.tuple #[])) fun t8 =>
 B4 PR X (Instr.storeAt 39 t8 t36) <|
 A2 PR (Instr.build 103 #[(0, (.int .i64 7)), (1, (.int .i64 1))]) fun t38 =>
 B1 PR X (Instr.buildSlice 32 1 #[(0, t38)]) fun t39 =>
 A2 PR (Instr.build 42 #[(0, (.int .i64 1)), (2, t39)]) fun t40 =>
 B2 PR X 20 [t18, t40, (.int .i64 0)] fun t41 =>
 B1 PR X (Instr.alloc 39 true (.tuple #[])) fun t9 =>
 B4 PR X (Instr.storeAt 39 t9 t41) <|
 A2 PR (Instr.build 42 #[(1, t31)]) fun t44 =>
 B2 PR X 20 [t18, t44, (.int .i64 0)] fun t45 =>
 B1 PR X (Instr.alloc 39 true (.tuple #[])) fun t10 =>
 B4 PR X (Instr.storeAt 39 t10 t45) <|
 A2 PR (Instr.build 42 #[(1, t31)]) fun t48 =>
 B2 PR X 20 [t18, t48, (.int .i64 5)] fun t49 =>
 B1 PR X (Instr.alloc 39 true (.tuple #[])) fun t11 =>
 B4 PR X (Instr.storeAt 39 t11 t49) <|
 A2 PR (Instr.build 42 #[(1, t31)]) fun t52 =>
 B2 PR X 20 [t18, t52, (.int .i64 11)] fun t53 =>
 B1 PR X (Instr.alloc 39 true (.tuple #[])) fun t12 =>
 B4 PR X (Instr.storeAt 39 t12 t53) <|
 A2 PR (Instr.build 42 #[(0, (.int .i64 3))]) fun t55 =>
 B2 PR X 20 [t18, t55, (.int .i64 11)] fun t56 =>
 B1 PR X (Instr.alloc 39 true (.tuple #[])) fun t13 =>
 B4 PR X (Instr.storeAt 39 t13 t56) <|
 A2 PR (binOp .eql 28 t19 (.int .i64 0)) fun t58 =>
 gj t58 true (fun J => J t24) fun t60 =>
 gj t58 true (fun J => A2 PR (binOp .eql 28 t60 (.int .i64 1)) J) fun t61 =>
 A2 PR (do pure (if ← asBool t58 then t61 else (.bool false))) fun t62 =>
 gj t62 true (fun J => A6 PR (Instr.loadAt 39 t8) J) fun t64 =>
 gj t62 true (fun J => A2 PR (Instr.build 39 #[(0, (.int .i64 11))]) J) fun t65 =>
 gj t62 true (fun J => A6 PR (N2 .eql 39 (.tmp 64) (.tmp 65) t64 t65) J) fun t66 =>
 A2 PR (do pure (if ← asBool t62 then t66 else (.bool false))) fun t67 =>
 gj t67 true (fun J => A6 PR (Instr.loadAt 39 t9) J) fun t69 =>
 gj t67 true (fun J => A2 PR (Instr.build 39 #[]) J) fun t70 =>
 gj t67 true (fun J => A6 PR (N2 .eql 39 (.tmp 69) (.tmp 70) t69 t70) J) fun t71 =>
 A2 PR (do pure (if ← asBool t67 then t71 else (.bool false))) fun t72 =>
 gj t72 true (fun J => A6 PR (Instr.loadAt 39 t10) J) fun t74 =>
 gj t72 true (fun J => A2 PR (Instr.build 39 #[(1, (.int .i64 7)), (2, (.bool true))]) J) fun t75 =>
 gj t72 true (fun J => A6 PR (N2 .eql 39 (.tmp 74) (.tmp 75) t74 t75) J) fun t76 =>
 A2 PR (do pure (if ← asBool t72 then t76 else (.bool false))) fun t77 =>
 gj t77 true (fun J => A6 PR (Instr.loadAt 39 t11) J) fun t79 =>
 gj t77 true (fun J => A2 PR (Instr.build 39 #[(1, (.int .i64 7))]) J) fun t80 =>
 gj t77 true (fun J => A6 PR (N2 .eql 39 (.tmp 79) (.tmp 80) t79 t80) J) fun t81 =>
 A2 PR (do pure (if ← asBool t77 then t81 else (.bool false))) fun t82 =>
 gj t82 true (fun J => A6 PR (Instr.loadAt 39 t12) J) fun t84 =>
 gj t82 true (fun J => A2 PR (Instr.build 39 #[(1, (.int .i64 7)), (2, (.bool true))]) J) fun t85 =>
 gj t82 true (fun J => A6 PR (N2 .eql 39 (.tmp 84) (.tmp 85) t84 t85) J) fun t86 =>
 A2 PR (do pure (if ← asBool t82 then t86 else (.bool false))) fun t87 =>
 gj t87 true (fun J => A6 PR (Instr.loadAt 39 t13) J) fun t89 =>
 gj t87 true (fun J => A2 PR (Instr.build 39 #[(3, (.int .i64 1))]) J) fun t90 =>
 gj t87 true (fun J => A6 PR (N2 .eql 39 (.tmp 89) (.tmp 90) t89 t90) J) fun t91 =>
 A2 PR (do pure (if ← asBool t87 then t91 else (.bool false))) fun t92 =>
 gj t92 true (fun J => J t18) fun t94 =>
 gj t92 true (fun J => B2 PR X 23 [t94] J) fun t95 =>
 gj t92 true (fun J => A2 PR (A7 .len #[32] 0 [t95]) J) fun t96 =>
 gj t92 true (fun J => A2 PR (binOp .eql 3 t96 (.int .i64 1)) J) fun t97 =>
 A2 PR (do pure (if ← asBool t92 then t97 else (.bool false))) fun t98 =>
 gj t98 true (fun J => J t18) fun t100 =>
 gj t98 true (fun J => B2 PR X 25 [t100, (.int .i64 0)] J) fun t101 =>
 gj t98 true (fun J => A2 PR (A7 .len #[50] 0 [t101]) J) fun t102 =>
 gj t98 true (fun J => A2 PR (binOp .eql 3 t102 (.int .i64 1)) J) fun t103 =>
 A2 PR (do pure (if ← asBool t98 then t103 else (.bool false))) fun t104 =>
 gj t104 true (fun J => J t18) fun t106 =>
 gj t104 true (fun J => B2 PR X 25 [t106, (.int .i64 1)] J) fun t107 =>
 gj t104 true (fun J => A2 PR (A7 .len #[50] 0 [t107]) J) fun t108 =>
 gj t104 true (fun J => A2 PR (binOp .eql 3 t108 (.int .i64 0)) J) fun t109 =>
 A2 PR (do pure (if ← asBool t104 then t109 else (.bool false))) fun t110 =>
 gj t110 true (fun J => J t18) fun t112 =>
 gj t110 true (fun J => A2 PR (Instr.build 42 #[]) J) fun t113 =>
 gj t110 true (fun J => B2 PR X 20 [t112, t113, (.int .i64 0)] J) fun t114 =>
 gj t110 true (fun J => A2 PR (Instr.field 39 t114 0) J) fun t115 =>
 gj t110 true (fun J => A2 PR (binOp .eql 28 t115 (.int .i64 9)) J) fun t116 =>
 A2 PR (do pure (if ← asBool t110 then t116 else (.bool false))) fun t117 =>
 gj t117 true (fun J => J t18) fun t119 =>
 gj t117 true (fun J => A2 PR (Instr.build 42 #[(0, (.int .i64 9))]) J) fun t120 =>
 gj t117 true (fun J => B2 PR X 20 [t119, t120, (.int .i64 0)] J) fun t121 =>
 gj t117 true (fun J => A2 PR (Instr.field 39 t121 0) J) fun t122 =>
 gj t117 true (fun J => A2 PR (binOp .eql 28 t122 (.int .i64 1)) J) fun t123 =>
 A2 PR (do pure (if ← asBool t117 then t123 else (.bool false))) fun t124 =>
 R t124) fun J1 =>
 A6 PR (N2 .eql 27 (.tmp 25) (.const (.pointer none)) t18 (.pointer none)) fun t26 =>
 B6 t26 (
 R (.bool false)) (
 J1 (.bool false))
theorem A3r : B0 PR 14 := A8 Tryz.func14 (by kernel_rfl) rfl
theorem A4G {X : Nat → Prop} {R : Value → WP} {w : World} (h : v7 X R w) : Fn PR X 14 #[] w R := C7 (args := []) mixed Tryz.func14 (by kernel_rfl) h
def A05 (X : Nat → Prop) (t0 t1 : Value) (R : Value → WP) : WP :=
 B1 PR X (Instr.box 23 t0) fun t2 =>
 jn (n := 2) (fun t5 t6 =>
 A6 PR (Instr.loadAt 23 t2) fun t26 =>
 B2 PR X 55 [t26] fun t27 =>
 gj t27 true (fun J => J t5) fun t30 =>
 gj t27 true (fun J => B2 PR X 56 [t30, (.int .i64 12)] J) fun t31 =>
 A2 PR (do pure (if ← asBool t27 then t31 else (.bool false))) fun t32 =>
 R t32) fun J1 =>
 lp (n := 2) (fun L2 t5_1 t6_1 =>
 jn (n := 0) (
 jn (n := 1) (fun t5_2 =>
 A2 PR (binOp .add 3 t6_1 (.int .i64 1)) fun t17 =>
 L2 t5_2 t17) fun J3 =>
 A2 PR (Instr.indexAt 24 t1 t6_1) fun t21 =>
 A2 PR (Instr.fieldAt 44 t21 0) fun t22 =>
 A6 PR (Instr.loadAt 42 t22) fun t23 =>
 B1 PR X (Instr.buildSlice 104 1 #[(0, t23)]) fun t24 =>
 B1 PR X (A7 .append #[104, 104] 104 [t5_1, t24]) fun t25 =>
 J3 t25) fun J4 =>
 A2 PR (A7 .len #[24] 0 [t1]) fun t10 =>
 A2 PR (binOp .lss 3 t6_1 t10) fun t11 =>
 gj t11 true (fun J => J t6_1) fun t13 =>
 gj t11 true (fun J => A2 PR (binOp .leq 3 t13 (.int .i64 12)) J) fun t14 =>
 A2 PR (do pure (if ← asBool t11 then t14 else (.bool false))) fun t15 =>
 B6 t15 (
 J4) (
 J1 t5_1 t6_1)) (.slice none 0 0) (.int .i64 0)
theorem A5T : B0 PR 15 := A8 Tryz.func15 (by kernel_rfl) rfl
theorem A6q {X : Nat → Prop} {t0 t1 : Value} {R : Value → WP} {w : World} (h : A05 X t0 t1 R w) : Fn PR X 15 #[t0, t1] w R := C7 (args := [t0, t1]) mixed Tryz.func15 (by kernel_rfl) h
end Go.Proofs.YtggakcpabomliaaGreat
namespace Go.Proofs.YtggakcpabomliaaGreat
open Go
def upW (j : Nat) (x : EnV) (p : Nat × EnV) : Nat × EnV := if p.1 = j then (j, x) else p
theorem C2P (key : ByteArray) : ∀ L, -1 ≤ H4 key L := by
 intro L
 induction L with
 | nil => simp [H4]
 | cons p L ih => (simp only [H4]; repeat' split) <;> first | omega | exact ih
theorem C1a (l : List EnV) (key : ByteArray) : -1 ≤ D9 l key := C2P _ _
theorem B88 {key : ByteArray} {j : Nat} {x : EnV} (h1 : x.st = 1) (hk : x.key = key) : ∀ L, H4 key L = j → H4 key (L.map (upW j x)) = j := by
 intro L
 induction L with
 | nil => intro h; simp [H4] at h <;> omega
 | cons p L ih =>
  intro h
  rw [List.map_cons]
  by_cases c : p.1 = j
  ·simp [H4, upW, c, h1, hk]
  ·have hu : upW j x p = p := if_neg c
   simp only [H4] at h ⊢
   rw [hu]
   split at h
   ·omega
   ·split at h
    ·omega
    ·rename_i c0 c1
     rw [if_neg c0, if_neg c1]; exact ih h
theorem B7p {key : ByteArray} {j : Nat} {x : EnV} (h1 : x.st = 1) (hk : x.key = key) : ∀ L, H4 key L < 0 → M5 L = j → H4 key (L.map (upW j x)) = j := by
 intro L
 induction L with
 | nil => intro _ h; simp [M5] at h <;> omega
 | cons p L ih =>
  intro hf h
  rw [List.map_cons]
  by_cases c : p.1 = j
  ·simp [H4, upW, c, h1, hk]
  ·have hu : upW j x p = p := if_neg c
   simp only [H4, M5] at h hf ⊢
   rw [hu]
   by_cases c1 : p.2.st = 1
   ·rw [if_pos c1] at h
    rw [if_neg (by omega)] at hf ⊢
    by_cases c2 : p.2.st = 1 ∧ p.2.key = key
    ·rw [if_pos c2] at hf; omega
    ·rw [if_neg c2] at hf ⊢; exact ih hf h
   ·rw [if_neg c1] at h; omega
theorem B0m (l : List EnV) (key : ByteArray) (j : Nat) (x : EnV) (hj : j < l.length) : L8 (l.set j x) key = (L8 l key).map (upW j x) := by
 unfold L8
 rw [List.length_set, List.map_map]
 refine List.map_congr_left fun i hi => ?_
 have hi' : i < l.length := List.mem_range.1 hi
 have hm : (G2 key l.length + i) % l.length < l.length := Nat.mod_lt _ (by omega)
 simp only [Function.comp_apply, upW]
 generalize (G2 key l.length + i) % l.length = q at *
 by_cases c : q = j
 ·subst c; simp [List.getD_eq_getElem?_getD, hm]
 ·rw [if_neg c]; simp [List.getD_eq_getElem?_getD, List.getElem?_set_ne (Ne.symm c)]
theorem B9A {key : ByteArray} {j : Nat} : ∀ L, H4 key L = j → ∃ x, (j, x) ∈ L ∧ x.st = 1 ∧ x.key = key := by
 intro L
 induction L with
 | nil => intro h; simp [H4] at h <;> omega
 | cons p L ih =>
  intro h
  simp only [H4] at h
  split at h
  ·omega
  ·split at h
   ·rename_i c
    have : p.1 = j := by omega
    exact ⟨p.2, by rw [← this]; simp, c⟩
   ·obtain ⟨x, h1, h2⟩ := ih h
    exact ⟨x, List.mem_cons_of_mem _ h1, h2⟩
theorem B0a {l : List EnV} {key : ByteArray} {p : Nat × EnV} (h : p ∈ L8 l key) : l[p.1]? = some p.2 := by
 unfold L8 at h
 obtain ⟨i, hi, rfl⟩ := List.mem_map.1 h
 have hi' : i < l.length := List.mem_range.1 hi
 exact getD_some W9 (Nat.mod_lt _ (by omega))
theorem B52 {l : List EnV} {key : ByteArray} {j : Nat} (h : D9 l key = j) : ∃ x, l[j]? = some x ∧ x.st = 1 ∧ x.key = key := by
 obtain ⟨x, h1, h2⟩ := B9A _ h
 exact ⟨x, B0a h1, h2⟩
theorem A8u {l u : List EnV} {x : EnV} (h : F6 l x = some u) (h1 : x.st = 1) : ∃ j, j < l.length ∧ u = l.set j x ∧ D9 u x.key = (j : Nat) ∧ (D9 l x.key = (j : Nat) ∨ D9 l x.key < 0 ∧ M5 (L8 l x.key) = (j : Nat)) := by
 unfold F6 at h
 simp only at h
 by_cases c : D9 l x.key < 0
 ·rw [if_pos c] at h
  by_cases c2 : Q8 l x.key < 0
  ·rw [if_pos c2] at h; cases h
  ·rw [if_neg c2] at h
   injection h with h
   have hr : Q8 l x.key = M5 (L8 l x.key) := if_neg (by omega)
   have hlt := B0e (l := l) (key := x.key) (by omega)
   refine ⟨_, hlt, h.symm, ?_, Or.inr ⟨c, by omega⟩⟩
   subst h
   unfold D9
   rw [B0m _ _ _ _ hlt]
   exact B7p h1 rfl _ c (by omega)
 ·rw [if_neg c, if_neg c] at h
  injection h with h
  have hlt := q5 (l := l) (key := x.key) (by omega)
  refine ⟨_, hlt, h.symm, ?_, Or.inl (by omega)⟩
  subst h
  unfold D9 at *
  rw [B0m _ _ _ _ hlt]
  exact B88 h1 rfl _ (by omega)
theorem B0g {l u : List EnV} {x : EnV} (h : F6 l x = some u) : ∃ j, j < l.length ∧ u = l.set j x := by
 unfold F6 at h
 simp only at h
 by_cases c : D9 l x.key < 0
 ·rw [if_pos c] at h
  by_cases c2 : Q8 l x.key < 0
  ·rw [if_pos c2] at h; cases h
  ·rw [if_neg c2] at h
   injection h with h
   exact ⟨_, B0e (by omega), h.symm⟩
 ·rw [if_neg c, if_neg c] at h
  injection h with h
  exact ⟨_, q5 (by omega), h.symm⟩
theorem C0G {l : List EnV} {x : EnV} (h : F6 l x = none) : D9 l x.key < 0 := by
 unfold F6 at h
 simp only at h
 by_cases c : D9 l x.key < 0
 ·exact c
 ·rw [if_neg c, if_neg c] at h; cases h
theorem B9S {l : List EnV} {i : Nat} {p : Nat × EnV} : p ∈ Z3 i l ↔ i ≤ p.1 ∧ l[p.1 - i]? = some p.2 ∧ p.2.st = 1 := by
 induction l generalizing i with
 | nil => simp [Z3]
 | cons x l ih =>
  have hs : i + 1 ≤ p.1 → (x :: l)[p.1 - i]? = l[p.1 - (i + 1)]? := fun h => by
   rw [show p.1 - i = (p.1 - (i + 1)) + 1 by omega, List.getElem?_cons_succ]
  have h0 : ∀ h : i ≤ p.1, ¬ i + 1 ≤ p.1 → p.1 = i := fun _ _ => by omega
  unfold Z3
  split
  ·rename_i c
   rw [List.mem_cons, ih]
   constructor
   ·rintro (rfl | ⟨a, b, d⟩)
    ·simp [c]
    ·exact ⟨by omega, by rw [hs a]; exact b, d⟩
   ·rintro ⟨a, b, d⟩
    by_cases e : i + 1 ≤ p.1
    ·exact Or.inr ⟨e, by rw [← hs e]; exact b, d⟩
    ·have := h0 a e
     left
     rw [this] at b
     simp at b
     obtain ⟨q, y⟩ := p
     simp_all
  ·rename_i c
   rw [ih]
   constructor
   ·rintro ⟨a, b, d⟩
    exact ⟨by omega, by rw [hs a]; exact b, d⟩
   ·rintro ⟨a, b, d⟩
    by_cases e : i + 1 ≤ p.1
    ·exact ⟨e, by rw [← hs e]; exact b, d⟩
    ·have := h0 a e
     rw [this] at b
     simp at b
     rw [b] at c
     exact absurd d c
theorem A2W {l : List EnV} {p : Nat × EnV} : p ∈ N4 l ↔ l[p.1]? = some p.2 ∧ p.2.st = 1 := by
 unfold N4; rw [B9S]; simp
theorem A28 {l : List EnV} : U2 l = true ↔ ∀ (i : Nat) (x : EnV), l[i]? = some x → x.st = 1 → D9 l x.key = (i : Nat) := by
 unfold U2
 rw [List.all_eq_true]
 constructor
 ·intro h i x hx h1
  simpa using h (i, x) (A2W.2 ⟨hx, h1⟩)
 ·intro h p hp
  obtain ⟨h1, h2⟩ := A2W.1 hp
  simpa using h p.1 p.2 h1 h2
def U0 (l : List EnV) (key : ByteArray) : Prop := ∀ (i : Nat) (x : EnV), l[i]? = some x → x.st = 1 → x.key ≠ key
theorem U0.find {l : List EnV} {key : ByteArray} (h : U0 l key) : D9 l key < 0 := by
 have hg := C1a l key
 by_cases c : D9 l key < 0
 ·exact c
 ·obtain ⟨x, h1, h2, h3⟩ := B52 (l := l) (key := key) (j := (D9 l key).toNat) (by omega)
  exact absurd h3 (h _ _ h1 h2)
theorem getElem?_set_some {α : Type} {l : List α} {i j : Nat} {x y : α} (h : (l.set j x)[i]? = some y) : (i = j ∧ y = x) ∨ (i ≠ j ∧ l[i]? = some y) := by
 by_cases c : i = j
 ·subst c
  rw [List.getElem?_set_self'] at h
  cases hl : l[i]? with
  | none => rw [hl] at h; cases h
  | some z => rw [hl] at h; left; exact ⟨rfl, by simpa using h.symm⟩
 ·rw [List.getElem?_set_ne (Ne.symm c)] at h
  exact Or.inr ⟨c, h⟩
theorem U0.set {l : List EnV} {key : ByteArray} {j : Nat} {x : EnV} (h : U0 l key) (hx : x.st = 1 → x.key ≠ key) : U0 (l.set j x) key := fun i y hy h1 => by
 rcases getElem?_set_some hy with ⟨_, rfl⟩ | ⟨_, h2⟩
 ·exact hx h1
 ·exact h i y h2 h1
theorem U0.put {l : List EnV} {key : ByteArray} {x : EnV} (h : U0 l key) (hx : x.st = 1 → x.key ≠ key) : U0 (T7 l x) key := by
 unfold T7
 cases hp : F6 l x with
 | none => exact h
 | some u => obtain ⟨j, _, rfl⟩ := B0g hp; exact h.set hx
theorem U0.newE (n : Nat) (key : ByteArray) : U0 (newE n) key := fun i x hx h1 => by
 unfold Go.Proofs.YtggakcpabomliaaGreat.newE at hx
 obtain ⟨_, h2⟩ := List.getElem?_eq_some_iff.1 hx
 rw [List.getElem_replicate] at h2
 rw [← h2] at h1; simp [W9] at h1
theorem U0.tidy {l : List EnV} {key : ByteArray} (h : U0 l key) : U0 (V8 l) key := by
 unfold V8
 have : ∀ (L : List (Nat × EnV)) (a : List EnV), (∀ p ∈ L, p.2.st = 1 → p.2.key ≠ key) → U0 a key → U0 (L.foldl (fun acc p => T7 acc p.2) a) key := by
  intro L
  induction L with
  | nil => intro a _ h; exact h
  | cons p L ih => intro a hL ha; rw [List.foldl_cons]; exact ih _ (fun q hq => hL q (List.mem_cons_of_mem _ hq)) (ha.put (hL p (List.mem_cons_self ..)))
 exact this _ _ (fun p hp h1 => h p.1 p.2 (A2W.1 hp).1 h1) (.newE _ _)
theorem U0.settle {l : List EnV} {key : ByteArray} (h : U0 l key) : U0 (H0 l) key := by
 unfold H0; split
 ·exact h.tidy
 ·exact h
end Go.Proofs.YtggakcpabomliaaGreat
namespace Go.Proofs.YtggakcpabomliaaGreat
open Go
theorem B8G {key : ByteArray} {i j : Nat} {x : EnV} (h0 : x.st ≠ 0) (h1 : ¬ (x.st = 1 ∧ x.key = key)) (hij : i ≠ j) : ∀ L, H4 key L = i → H4 key (L.map (upW j x)) = i := by
 intro L
 induction L with
 | nil => intro h; simp [H4] at h <;> omega
 | cons p L ih =>
  intro h
  rw [List.map_cons]
  simp only [H4] at h
  split at h
  ·omega
  ·rename_i c0
   split at h
   ·rename_i c1
    have : p.1 ≠ j := by omega
    rw [upW, if_neg this]
    simp only [H4]
    rw [if_neg c0, if_pos c1]; exact h
   ·rename_i c1
    by_cases c : p.1 = j
    ·rw [upW, if_pos c]
     simp only [H4]
     rw [if_neg h0, if_neg h1]; exact ih h
    ·rw [upW, if_neg c]
     simp only [H4]
     rw [if_neg c0, if_neg c1]; exact ih h
theorem B1Y {l : List EnV} {key : ByteArray} {i j : Nat} {x : EnV} (hj : j < l.length) (h0 : x.st ≠ 0) (h1 : ¬ (x.st = 1 ∧ x.key = key)) (hij : i ≠ j) (h : D9 l key = i) : D9 (l.set j x) key = i := by
 unfold D9 at *
 rw [B0m _ _ _ _ hj]
 exact B8G h0 h1 hij _ h
theorem B81 {l : List EnV} {j : Nat} (hj : j < l.length) (h : U2 l = true) : U2 (l.set j P4) = true := by
 rw [A28] at h ⊢
 intro i y hy h1
 rcases getElem?_set_some hy with ⟨_, rfl⟩ | ⟨h2, h3⟩
 ·simp [P4] at h1
 ·exact B1Y hj (by simp [P4]) (by simp [P4]) h2 (h i y h3 h1)
theorem B3S {l u : List EnV} {x : EnV} (h1 : x.st = 1) (hp : F6 l x = some u) (h : U2 l = true) : U2 u = true := by
 rw [A28] at h ⊢
 obtain ⟨j, hj, rfl, hf, hc⟩ := A8u hp h1
 intro i y hy hy1
 rcases getElem?_set_some hy with ⟨rfl, rfl⟩ | ⟨h2, h3⟩
 ·exact hf
 ·have hi := h i y h3 hy1
  have hk : x.key ≠ y.key := fun e => by rw [← e] at hi; omega
  exact B1Y hj (by omega) (fun e => hk e.2) h2 hi
theorem B3k (n : Nat) : U2 (newE n) = true := by
 rw [A28]
 intro i x hx h1
 unfold newE at hx
 obtain ⟨_, h2⟩ := List.getElem?_eq_some_iff.1 hx
 rw [List.getElem_replicate] at h2
 rw [← h2] at h1; simp [W9] at h1
theorem B8z {a : List EnV} {x : EnV} (h1 : x.st = 1) (h : U2 a = true) : U2 (T7 a x) = true := by
 unfold T7
 cases hp : F6 a x with
 | none => exact h
 | some u => exact B3S h1 hp h
theorem B8P (l : List EnV) : U2 (V8 l) = true := by
 unfold V8
 have : ∀ (L : List (Nat × EnV)) (a : List EnV), (∀ p ∈ L, p.2.st = 1) → U2 a = true → U2 (L.foldl (fun acc p => T7 acc p.2) a) = true := by
  intro L
  induction L with
  | nil => intro a _ h; exact h
  | cons p L ih => intro a hL ha; rw [List.foldl_cons]; exact ih _ (fun q hq => hL q (List.mem_cons_of_mem _ hq)) (B8z (hL p (List.mem_cons_self ..)) ha)
 exact this _ _ (fun p hp => (A2W.1 hp).2) (B3k _)
theorem B59 {l : List EnV} (h : U2 l = true) : U2 (H0 l) = true := by
 unfold H0; split
 ·exact B8P _
 ·exact h
def A2Y (x : EnV) : Bool := decide (x.st = 1)
def D8 (l : List EnV) : List EnV := l.filter A2Y
def A7B (x : EnV) : List EnV := if x.st = 1 then [x] else []
theorem A2N {l : List EnV} {j : Nat} {y x : EnV} (hy : l[j]? = some y) : (A7B y ++ D8 (l.set j x)).Perm (A7B x ++ D8 l) := by
 obtain ⟨hj, e⟩ := List.getElem?_eq_some_iff.1 hy
 have h1 : l = l.take j ++ y :: l.drop (j + 1) := by rw [← e]; simp
 have h2 : l.set j x = l.take j ++ x :: l.drop (j + 1) := List.set_eq_take_append_cons_drop .. |>.trans (by rw [if_pos hj])
 have f1 : ∀ z : EnV, D8 (l.take j ++ z :: l.drop (j + 1)) = D8 (l.take j) ++ (A7B z ++ D8 (l.drop (j + 1))) := fun z => by
  unfold D8; rw [List.filter_append, List.filter_cons]
  simp only [A7B, A2Y, decide_eq_true_eq]
  split <;> simp
 have h3 : D8 l = D8 (l.take j) ++ (A7B y ++ D8 (l.drop (j + 1))) := by rw [← f1, ← h1]
 rw [h2, f1, h3]
 generalize D8 (l.take j) = A
 generalize D8 (l.drop (j + 1)) = B
 have p1 : ∀ (u v : List EnV), (u ++ (A ++ (v ++ B))).Perm (A ++ (u ++ (v ++ B))) := fun u v => by
  rw [← List.append_assoc, ← List.append_assoc A u]
  exact List.perm_append_comm.append_right _
 refine (p1 _ _).trans (((p1 _ _).trans ?_).symm)
 refine List.Perm.append_left _ ?_
 rw [← List.append_assoc, ← List.append_assoc]
 exact List.perm_append_comm.append_right _
theorem B4n (l : List EnV) (i : Nat) : (Z3 i l).map (·.2) = D8 l := by
 induction l generalizing i with
 | nil => rfl
 | cons x l ih =>
  unfold Z3 D8
  rw [List.filter_cons]
  simp only [A2Y, decide_eq_true_eq]
  split
  ·rw [List.map_cons, ih]; rfl
  ·rw [ih]; rfl
theorem B2z {l : List EnV} (h : U2 l = true) : ((D8 l).map (·.key)).Nodup := by
 rw [A28] at h
 have h2 : ∀ (i : Nat) (m : List EnV), (∀ (k : Nat) (x : EnV), m[k]? = some x → x.st = 1 → D9 l x.key = (i + k : Nat)) → ((D8 m).map (·.key)).Nodup := by
  intro i m
  induction m generalizing i with
  | nil => intro _; simp [D8]
  | cons x m ih =>
   intro hm
   have ih' := ih (i + 1) fun k y hy h1 => by
    have := hm (k + 1) y (by simpa using hy) h1
    rw [this]; congr 1; omega
   unfold D8 at *
   rw [List.filter_cons]
   simp only [A2Y, decide_eq_true_eq] at *
   split
   ·rename_i c
    rw [List.map_cons, List.nodup_cons]
    refine ⟨fun hx => ?_, ih'⟩
    obtain ⟨y, hy, e⟩ := List.mem_map.1 hx
    obtain ⟨hy1, hy2⟩ := List.mem_filter.1 hy
    obtain ⟨k, hk, e2⟩ := List.getElem_of_mem hy1
    have a := hm 0 x (by simp) c
    have b := hm (k + 1) y (by simp [hk, e2]) (by simpa [A2Y] using hy2)
    rw [e, a] at b
    omega
   ·exact ih'
 exact h2 0 l fun k x hx h1 => by rw [h k x hx h1]; simp
theorem B4T {l : List EnV} {key : ByteArray} : U0 l key ↔ ∀ x ∈ D8 l, x.key ≠ key := by
 unfold U0 D8 A2Y
 constructor
 ·intro h x hx
  obtain ⟨h1, h2⟩ := List.mem_filter.1 hx
  obtain ⟨i, hi, e⟩ := List.getElem_of_mem h1
  exact h i x (by simp [hi, e]) (by simpa using h2)
 ·intro h i x hx h1
  exact h x (List.mem_filter.2 ⟨List.mem_of_getElem? hx, by simpa using h1⟩)
theorem C0p : ∀ L, M5 L < 0 → ∀ p ∈ L, p.2.st = 1 := by
 intro L
 induction L with
 | nil => intro _ p hp; cases hp
 | cons q L ih =>
  intro h p hp
  simp only [M5] at h
  split at h
  ·rename_i c
   rcases List.mem_cons.1 hp with rfl | hp
   ·exact c
   ·exact ih h p hp
  ·omega
theorem C3f {l : List EnV} (key : ByteArray) {q : Nat} {y : EnV} (hy : l[q]? = some y) : (q, y) ∈ L8 l key := by
 obtain ⟨hq, e⟩ := List.getElem?_eq_some_iff.1 hy
 unfold L8
 have hl : 0 < l.length := by omega
 have hm : G2 key l.length < l.length := Nat.mod_lt _ hl
 refine List.mem_map.2 ⟨(q + l.length - G2 key l.length) % l.length, List.mem_range.2 (Nat.mod_lt _ hl), ?_⟩
 have : (G2 key l.length + (q + l.length - G2 key l.length) % l.length) % l.length = q := by
  rw [Nat.add_mod, Nat.mod_mod, ← Nat.add_mod, show G2 key l.length + (q + l.length - G2 key l.length) = q + l.length by omega, Nat.add_mod_right, Nat.mod_eq_of_lt hq]
 rw [this]
 simp [List.getD_eq_getElem?_getD, hq, e]
theorem C2A {a : List EnV} {x : EnV} (h1 : x.st = 1) (hn : U0 a x.key) (hl : (D8 a).length < a.length) : ∃ u, F6 a x = some u ∧ (D8 u).Perm (x :: D8 a) := by
 cases hp : F6 a x with
 | none =>
  exfalso
  unfold F6 at hp
  simp only at hp
  rw [if_pos hn.find] at hp
  have hr : Q8 a x.key = M5 (L8 a x.key) := if_neg (by have := hn.find; omega)
  by_cases c : Q8 a x.key < 0
  ·have h2 := C0p _ (hr ▸ c)
   have h3 : D8 a = a := List.filter_eq_self.2 fun y hy => by
    obtain ⟨q, hq, e⟩ := List.getElem_of_mem hy
    have := h2 (q, y) (C3f _ (by simp [hq, e]))
    simpa [A2Y] using this
   rw [h3] at hl; omega
  ·rw [if_neg c] at hp; cases hp
 | some u =>
  obtain ⟨j, hj, rfl, hf, hc⟩ := A8u hp h1
  refine ⟨_, rfl, ?_⟩
  have hj1 : a[j]? = some a[j] := List.getElem?_eq_getElem hj
  have hs := A2N (x := x) hj1
  have hnl : a[j].st ≠ 1 := fun c => by
   rcases hc with hc | ⟨_, hc⟩
   ·have := hn.find; omega
   ·have hm : ∀ L, M5 L = (j : Nat) → ∃ y, (j, y) ∈ L ∧ y.st ≠ 1 := by
     intro L
     induction L with
     | nil => intro h; simp [M5] at h <;> omega
     | cons p L ih =>
      intro h
      simp only [M5] at h
      split at h
      ·obtain ⟨y, h1, h2⟩ := ih h; exact ⟨y, List.mem_cons_of_mem _ h1, h2⟩
      ·rename_i c2
       have : p.1 = j := by omega
       exact ⟨p.2, by rw [← this]; simp, c2⟩
    obtain ⟨y, h2, h3⟩ := hm _ hc
    have h4 := B0a h2
    rw [hj1] at h4
    injection h4 with h4
    exact h3 (by rw [h4] at c; exact c)
  unfold A7B at hs
  rw [if_neg hnl, if_pos h1] at hs
  simpa using hs
theorem A2L (n : Nat) : D8 (newE n) = [] := by
 unfold D8 newE
 rw [List.filter_eq_nil_iff]
 intro x hx
 rw [(List.mem_replicate.1 hx).2]; simp [A2Y, W9]
theorem B5U {l : List EnV} (h : U2 l = true) (hl : l.length ≤ 64) : (D8 (V8 l)).Perm (D8 l) := by
 have hmain : ∀ (L : List (Nat × EnV)) (a : List EnV), (∀ p ∈ L, p.2.st = 1) → ((D8 a ++ L.map (·.2)).map (·.key)).Nodup → (D8 a).length + L.length ≤ a.length →
   (D8 (L.foldl (fun acc p => T7 acc p.2) a)).Perm (D8 a ++ L.map (·.2)) := by
  intro L
  induction L with
  | nil => intro a _ _ _; simp
  | cons p L ih =>
   intro a hL hn hlen
   rw [List.foldl_cons]
   simp only [List.length_cons] at hlen
   have hk : U0 a p.2.key := B4T.2 fun x hx e => by
    rw [List.map_append, List.nodup_append] at hn
    exact hn.2.2 _ (List.mem_map_of_mem hx) p.2.key (by simp) e
   obtain ⟨u, hu, hp⟩ := C2A (hL p (List.mem_cons_self ..)) hk (by omega)
   have e : T7 a p.2 = u := by simp [T7, hu]
   rw [e]
   have hlu := A7j hu
   have hpl := hp.length_eq
   have hperm : (D8 u ++ L.map (·.2)).Perm (D8 a ++ (p :: L).map (·.2)) := by
    refine (hp.append_right _).trans ?_
    rw [List.map_cons]
    exact (List.perm_middle (a := p.2) (l₁ := D8 a) (l₂ := L.map (·.2))).symm
   refine (ih u (fun q hq => hL q (List.mem_cons_of_mem _ hq)) ?_ ?_).trans hperm
   ·exact ((hperm.map _).nodup_iff).2 hn
   ·rw [hpl, List.length_cons, hlu]; omega
 unfold V8
 have hm : (N4 l).map (·.2) = D8 l := B4n l 0
 have h1 := hmain (N4 l) (newE l.length) (fun p hp => (A2W.1 hp).2) (by rw [A2L, hm]; exact B2z h)
  (by
   rw [A2L, A3W]
   have : (N4 l).length = (D8 l).length := by rw [← hm]; simp
   have h2 : (D8 l).length ≤ l.length := List.length_filter_le ..
   simp only [List.length_nil]; omega)
 rw [A2L, hm] at h1
 exact h1
theorem B2N {l : List EnV} (h : U2 l = true) (hl : l.length ≤ 64) : (D8 (H0 l)).Perm (D8 l) := by
 unfold H0; split
 ·exact B5U h hl
 ·exact .refl _
theorem B8n {l : List EnV} (hl : l.length ≤ 64) : (H0 l).length = l.length := by
 unfold H0; split
 ·unfold V8; rw [B0J, A3W]; omega
 ·rfl
end Go.Proofs.YtggakcpabomliaaGreat
namespace Go.Proofs.YtggakcpabomliaaGreat
open Go
theorem C4N {l : List ShV} {i n n' : Nat} {t : Value × List EnV} (hx : l[i]? = some (t, n)) : A0J (l.flatMap G6) (i * 2 + 1) [.int .i64 (n' : Int)] = (l.set i (t, n')).flatMap G6 := by
 obtain ⟨hi, _⟩ := List.getElem?_eq_some_iff.1 hx
 have h1 := A2a (f := G6) (k := 2) (fun _ => rfl) l i (t, n') hi
 rw [← h1]
 have h2 := W3 (f := G6) (k := 2) (fun _ => rfl) l i 0 (by omega)
 rw [hx] at h2
 have h3 : (l.flatMap G6)[i * 2]? = some t.1 := h2
 obtain ⟨h4, h5⟩ := List.getElem?_eq_some_iff.1 h3
 simp only [A0J, G6, List.length_cons, List.length_nil, Nat.zero_add]
 rw [List.take_add_one, h3]
 simp
structure MoOk (m : MoH) : Prop where
 few : m.ts.length ≤ 1000
 len : ∀ t ∈ m.ts, t.1.2.length ≤ 1000000
 keys : ∀ t ∈ m.ts, H6 t.1.2
def A02 (s : MoS) (i now : Int) : MoS × AnsV :=
 if i < 0 ∨ (s.tabs.length : Int) ≤ i then (s, ⟨1, 0, false, 0⟩)
 else let t := s.tabs.getD i.toNat ([], 0); let r := E6 t.1 t.2 4 now; ({ s with tabs := s.tabs.set i.toNat (r.1, r.2.1) }, ⟨0, 0, false, (r.2.2 : Nat)⟩)
theorem C1D (w : World) (m : MoH) (o : OpV) (v : Value) (now : Int) (hv : v.cells = #[v] ∧ plain v = true) (hm : MoOk m) (hw : LW false (E2 (D0 m)) w (D0 m) w) :
  Fn PR B5 63 #[.pointer (some ⟨m.b, 0, none⟩), o.val v, .int .i64 now] w (DoR w m (A02 m.st o.shard now)) := by
 refine A6g (TW.goH (κ := false) (S := E2 (D0 m)) ?_ hw)
 unfold A1F
 simp only [OpV.val]
 unfold DoR
 have hlen := hm.few
 have hstl : m.st.tabs.length = m.ts.length := by simp [MoH.st]
 generalize hS : E2 (D0 m) = S at *
 simp only [D0]
 refine V5 (e := 113) (k := 2) (v := m.sv) (q := m.ts.length) (xs := m.ts.flatMap G6) (by ((repeat (first | exact A0 | exact Up.here | exact Sel.here | apply A1 | apply Up.there | apply Sel.there)); first | done | fail)) ?_
 intro sa sc hsv
 rw [hsv]
 have hpt : ∀ r' : MoS × AnsV, r' = (m.st, ⟨1, 0, false, 0⟩) → True := fun _ _ => trivial
 by_cases c1 : o.shard < 0
 ·have e : A02 m.st o.shard now = (m.st, ⟨1, 0, false, 0⟩) := if_pos (Or.inl c1)
  rw [e]
  (have hQq := trivial; repeat ((first | clear hQq | (with_reducible first | refine A3 ?_ | refine A4 fun _ => ?_ | refine A5 fun _ => ?_)); (try simp (disch := first | omega | assumption | ((repeat (first | exact A0 | exact Up.here | apply A1 | apply Up.there)); first | done | fail) | (simp; first | done | omega | fail)) [c1])))
  refine C6 m ⟨by simp [AnsV.val], rfl, rfl⟩ ?_
  simp only [D0, hsv]
  ((repeat (first | exact Sels.nil | (apply Sels.cons; · ((repeat (first | exact A0 | exact Up.here | exact Sel.here | apply A1 | apply Up.there | apply Sel.there)); first | done | fail)))); first | done | fail)
 by_cases c2 : (m.ts.length : Int) ≤ o.shard
 ·have e : A02 m.st o.shard now = (m.st, ⟨1, 0, false, 0⟩) := if_pos (Or.inr (by rw [hstl]; exact c2))
  rw [e]
  (have hQq := trivial; repeat ((first | clear hQq | (with_reducible first | refine A3 ?_ | refine A4 fun _ => ?_ | refine A5 fun _ => ?_)); (try simp (disch := first | omega | assumption | ((repeat (first | exact A0 | exact Up.here | apply A1 | apply Up.there)); first | done | fail) | (simp; first | done | omega | fail)) [c1, c2])))
  refine C6 m ⟨by simp [AnsV.val], rfl, rfl⟩ ?_
  simp only [D0, hsv]
  ((repeat (first | exact Sels.nil | (apply Sels.cons; · ((repeat (first | exact A0 | exact Up.here | exact Sel.here | apply A1 | apply Up.there | apply Sel.there)); first | done | fail)))); first | done | fail)
 obtain ⟨i, hi⟩ : ∃ i : Nat, o.shard = i := ⟨o.shard.toNat, by omega⟩
 rw [hi] at c1 c2 ⊢
 have hlt : i < m.ts.length := by omega
 obtain ⟨⟨⟨tv, tl⟩, tn⟩, hx⟩ : ∃ x, m.ts[i]? = some x := ⟨_, List.getElem?_eq_getElem hlt⟩
 have hxm := List.mem_of_getElem? hx
 have hgd : m.st.tabs.getD i ([], 0) = (tl, tn) := by simp [MoH.st, List.getD_eq_getElem?_getD, hx]
 have e : A02 m.st i now = ({ m.st with tabs := m.st.tabs.set i ((E6 tl tn 4 now).1, (E6 tl tn 4 now).2.1) }, ⟨0, 0, false, ((E6 tl tn 4 now).2.2 : Nat)⟩) := by
  unfold A02
  rw [if_neg (by rw [hstl]; omega)]
  simp only [Int.toNat_natCast, hgd]
 rw [e]
 have h0 : (m.ts.flatMap G6)[i * 2]? = some tv := by
  have := W3 (f := G6) (k := 2) (fun _ => rfl) m.ts i 0 (by omega); rw [hx] at this; exact this
 have h1 : (m.ts.flatMap G6)[i * 2 + 1]? = some (.int .i64 (tn : Int)) := by
  have := W3 (f := G6) (k := 2) (fun _ => rfl) m.ts i 1 (by omega); rw [hx] at this; exact this
 refine A1T (e := 113) (k := 2) (v := .slice sa m.ts.length sc) (q := m.ts.length) (xs := m.ts.flatMap G6) (by ((repeat (first | exact A0 | exact Up.here | exact Sel.here | apply A1 | apply Up.there | apply Sel.there)); first | done | fail)) (by omega) ?_
 rintro g gc hg
 cases hg
 (have hQq := trivial; repeat ((first | clear hQq | (with_reducible first | refine A3 ?_ | refine A4 fun _ => ?_ | refine A5 fun _ => ?_)); (try simp (disch := first | omega | assumption | ((repeat (first | exact A0 | exact Up.here | apply A1 | apply Up.there)); first | done | fail) | (simp; first | done | omega | fail)) [c1, c2, hlt, h0, h1])))
 refine F8 B2l (fun w' hw' => C4H w' tv tl tn 4 now (hm.keys _ hxm) (hm.len _ hxm) (r4 (t := (tv, tl)) hw' (ts := m.ts.map (·.1)) (by ((repeat (first | exact A0 | exact Up.here | exact Sel.here | apply A1 | apply Up.there | apply Sel.there)); first | done | fail)) (List.mem_map.2 ⟨_, hxm, rfl⟩))) ?_
 rintro r _ rfl
 refine A1Y (e := 71) (k := 4) (v := r) (q := (E6 tl tn 4 now).1.length) (xs := (E6 tl tn 4 now).1.flatMap E1) (by ((repeat (first | exact A0 | exact Up.here | exact Sel.here | apply A1 | apply Up.there | apply Sel.there)); first | done | fail)) fun hr1 hr2 hr3 => ?_
 (have hQq := trivial; repeat ((first | clear hQq | (with_reducible first | refine A3 ?_ | refine A4 fun _ => ?_ | refine A5 fun _ => ?_)); (try simp (disch := first | omega | assumption | ((repeat (first | exact A0 | exact Up.here | apply A1 | apply Up.there)); first | done | fail) | (simp; first | done | omega | fail)) [c1, c2, hlt])))
 have hr4 : r.cells.toList = [r] := by rw [hr1]
 refine f8 (by ((repeat (first | exact A0 | exact Up.here | exact Sel.here | apply A1 | apply Up.there | apply Sel.there)); first | done | fail)) (by simp [hr1]) (by rw [L0 (k := 2) fun _ => rfl]; omega) (by simp [hr3]) ?_
 rw [hr4, B1b (e' := (E6 tl tn 4 now).1) hx]
 have hx2 : (m.ts.set i ((r, (E6 tl tn 4 now).1), tn))[i]? = some ((r, (E6 tl tn 4 now).1), tn) := by simp [hlt]
 (have hQq := trivial; repeat ((first | clear hQq | (with_reducible first | refine A3 ?_ | refine A4 fun _ => ?_ | refine A5 fun _ => ?_)); (try simp (disch := first | omega | assumption | ((repeat (first | exact A0 | exact Up.here | apply A1 | apply Up.there)); first | done | fail) | (simp; first | done | omega | fail)) [c1, c2, hlt])))
 refine f8 (by ((repeat (first | exact A0 | exact Up.here | exact Sel.here | apply A1 | apply Up.there | apply Sel.there)); first | done | fail)) (by simp) (by rw [L0 (k := 2) fun _ => rfl, List.length_set]; omega) (by simp) ?_
 simp only [B9T]
 rw [C4N hx2, List.set_set]
 (have hQq := trivial; repeat ((first | clear hQq | (with_reducible first | refine A3 ?_ | refine A4 fun _ => ?_ | refine A5 fun _ => ?_)); (try simp (disch := first | omega | assumption | ((repeat (first | exact A0 | exact Up.here | apply A1 | apply Up.there)); first | done | fail) | (simp; first | done | omega | fail)) [])))
 refine B5k (r := r) (l := (E6 tl tn 4 now).1) (i := i) (by ((repeat (first | exact Part.nil | (apply Part.cons; · ((repeat (first | exact A0 | exact Up.here | exact Sel.here | apply A1 | apply Up.there | apply Sel.there)); first | done | fail)))); first | done | fail)) ?_
 refine C6 { m with sv := .slice (some ⟨g, 0, none⟩) m.ts.length sc, ts := m.ts.set i ((r, (E6 tl tn 4 now).1), (E6 tl tn 4 now).2.1) } ⟨by simp [AnsV.val], rfl, by simp [MoH.st, List.map_set]⟩ ?_
 simp only [D0, List.map_set, List.length_set]
 ((repeat (first | exact Sels.nil | (apply Sels.cons; · ((repeat (first | exact A0 | exact Up.here | exact Sel.here | apply A1 | apply Up.there | apply Sel.there)); first | done | fail)))); first | done | fail)
end Go.Proofs.YtggakcpabomliaaGreat
namespace Go.Proofs.YtggakcpabomliaaGreat
open Go
def p8 (ts : List (List EnV × Nat)) : Nat := (ts.map fun t => F3 t.1 1).sum
theorem C2r (ts : List (List EnV × Nat)) (h : ∀ t ∈ ts, t.1.length ≤ 1000000) : p8 ts ≤ ts.length * 1000000 := by
 induction ts with
 | nil => simp [p8]
 | cons t ts ih =>
  have h1 := ih fun x hx => h x (by simp [hx])
  have h2 := h t (by simp)
  have h3 : F3 t.1 1 ≤ t.1.length := List.countP_le_length
  have e : p8 (t :: ts) = F3 t.1 1 + p8 ts := by simp [p8]
  rw [e, List.length_cons]; omega
def A7E (s : MoS) : MoS × AnsV := (s, ⟨0, 0, false, (p8 s.tabs : Nat)⟩)
theorem C1m (w : World) (m : MoH) (o : OpV) (v : Value) (now : Int) (hv : v.cells = #[v] ∧ plain v = true) (hm : MoOk m) (hw : LW false (E2 (D0 m)) w (D0 m) w) :
  Fn PR B5 64 #[.pointer (some ⟨m.b, 0, none⟩), o.val v, .int .i64 now] w (DoR w m (A7E m.st)) := by
 refine A7M (TW.goH (κ := false) (S := E2 (D0 m)) ?_ hw)
 unfold A1j
 simp only [OpV.val]
 unfold DoR
 have hlen := hm.few
 generalize hS : E2 (D0 m) = S at *
 simp only [D0]
 refine V5 (e := 113) (k := 2) (v := m.sv) (q := m.ts.length) (xs := m.ts.flatMap G6) (by ((repeat (first | exact A0 | exact Up.here | exact Sel.here | apply A1 | apply Up.there | apply Sel.there)); first | done | fail)) ?_
 intro sa sc hsv
 rw [hsv]
 (have hQq := trivial; repeat ((first | clear hQq | (with_reducible first | refine A3 ?_ | refine A4 fun _ => ?_ | refine A5 fun _ => ?_)); (try simp (disch := first | omega | assumption | ((repeat (first | exact A0 | exact Up.here | apply A1 | apply Up.there)); first | done | fail) | (simp; first | done | omega | fail)) [])))
 rename_i b4 b6 b7
 obtain ⟨tb, htb⟩ : ∃ tb, tb = m.ts.map fun t => (t.1.2, t.2) := ⟨_, rfl⟩
 have htl : tb.length = m.ts.length := by rw [htb]; simp
 refine C5E m.ts.length (fun i => [.pt b7 (.cells #[.int .i64 0, .int .i64 0, .bool false, .int .i64 (p8 (tb.take i) : Nat)] 39), .pt b6 (.cells #[.int .i64 0, .int .i64 0, .bool false, .int .i64 0] 39),
  .pt b4 (.cells #[.int .i64 o.kind, .string o.packet, v, .int .i64 o.shard] 42), .pt m.b (.cells #[.int .i64 m.c.wk, .int .i64 m.c.sh, .int .i64 m.c.cp, .int .i64 m.c.idle, .int .i64 m.c.sl, m.pv, .slice sa m.ts.length sc] 109),
  .own 103 2 m.pv m.pool.length (m.pool.flatMap E8), .own 113 2 (.slice sa m.ts.length sc) m.ts.length (m.ts.flatMap G6), M2 (m.ts.map (·.1))]) ?_
 intro i hi L hL
 have hsum : p8 (tb.take i) ≤ 1000000000 := by
  have := C2r (tb.take i) (by
   intro t ht
   have ht2 := List.mem_of_mem_take ht
   rw [htb] at ht2
   obtain ⟨x, hx, rfl⟩ := List.mem_map.1 ht2; exact hm.len x hx)
  have h2 : (tb.take i).length ≤ 1000 := by rw [List.length_take]; omega
  have h3 : (tb.take i).length * 1000000 ≤ 1000 * 1000000 := Nat.mul_le_mul_right _ h2
  omega
 by_cases hlt : i < m.ts.length
 ·obtain ⟨⟨⟨tv, tl⟩, tn⟩, hx⟩ : ∃ x, m.ts[i]? = some x := ⟨_, List.getElem?_eq_getElem hlt⟩
  have hxm := List.mem_of_getElem? hx
  have h0 : (m.ts.flatMap G6)[i * 2]? = some tv := by
   have := W3 (f := G6) (k := 2) (fun _ => rfl) m.ts i 0 (by omega); rw [hx] at this; exact this
  have hst : p8 (tb.take (i + 1)) = p8 (tb.take i) + F3 tl 1 := by
   have hx2 : tb[i]? = some (tl, tn) := by rw [htb, List.getElem?_map, hx]; rfl
   rw [List.take_add_one, hx2]; simp [p8]
  have hcl : F3 tl 1 ≤ 1000000 := Nat.le_trans List.countP_le_length (hm.len _ hxm)
  have hL' := hL hlt
  rw [hst] at hL'
  refine A1T (e := 113) (k := 2) (v := .slice sa m.ts.length sc) (q := m.ts.length) (xs := m.ts.flatMap G6) (by ((repeat (first | exact A0 | exact Up.here | exact Sel.here | apply A1 | apply Up.there | apply Sel.there)); first | done | fail)) (by omega) ?_
  rintro g gc hg
  cases hg
  (have hQq := trivial; repeat ((first | clear hQq | (with_reducible first | refine A3 ?_ | refine A4 fun _ => ?_ | refine A5 fun _ => ?_)); (try simp (disch := first | omega | assumption | ((repeat (first | exact A0 | exact Up.here | apply A1 | apply Up.there)); first | done | fail) | (simp; first | done | omega | fail)) [hlt])))
  refine B7 A68 (fun w' hw' => C2w w' g (i * 2) tv tl (by have := (hw'.ownr (e := 113) (k := 2) (q := m.ts.length) (c := sc) (xs := m.ts.flatMap G6) (by ((repeat (first | exact A0 | exact Up.here | exact Sel.here | apply A1 | apply Up.there | apply Sel.there)); first | done | fail))).get h0; rwa [Nat.zero_add] at this) (hm.len _ hxm) (r4 (t := (tv, tl)) hw' (ts := m.ts.map (·.1)) (by ((repeat (first | exact A0 | exact Up.here | exact Sel.here | apply A1 | apply Up.there | apply Sel.there)); first | done | fail)) (List.mem_map.2 ⟨_, hxm, rfl⟩))) ?_
  (have hQq := trivial; repeat ((first | clear hQq | (with_reducible first | refine A3 ?_ | refine A4 fun _ => ?_ | refine A5 fun _ => ?_)); (try simp (disch := first | omega | assumption | ((repeat (first | exact A0 | exact Up.here | apply A1 | apply Up.there)); first | done | fail) | (simp; first | done | omega | fail)) [])))
  exact TW.eqH (by simp) hL'
 ·obtain rfl : i = m.ts.length := by omega
  rw [← htl, List.take_length, htl]
  (have hQq := trivial; repeat ((first | clear hQq | (with_reducible first | refine A3 ?_ | refine A4 fun _ => ?_ | refine A5 fun _ => ?_)); (try simp (disch := first | omega | assumption | ((repeat (first | exact A0 | exact Up.here | apply A1 | apply Up.there)); first | done | fail) | (simp; first | done | omega | fail)) [])))
  refine C6 m ⟨by simp [AnsV.val, A7E, MoH.st, htb], rfl, rfl⟩ ?_
  simp only [D0, hsv]
  ((repeat (first | exact Sels.nil | (apply Sels.cons; · ((repeat (first | exact A0 | exact Up.here | exact Sel.here | apply A1 | apply Up.there | apply Sel.there)); first | done | fail)))); first | done | fail)
end Go.Proofs.YtggakcpabomliaaGreat
namespace Go.Proofs.YtggakcpabomliaaGreat
open Go
def U6 (k : KeyV) : ByteArray := if Q4 k then A0e k else P6
def S8 (s : MoS) (pk : ByteArray) (now : Int) : MoS × AnsV :=
 let x := C3 pk
 if x.2.2 ≠ 0 then (s, ⟨9, 0, false, 0⟩)
 else
  let i := M0 (U6 x.1) s.c.sh
  let t := s.tabs.getD i ([], 0)
  let r := D7 t.1 s.pool (U6 x.1) (S0 x.1 x.2.1) now s.c.idle
  ({ s with tabs := s.tabs.set i (r.1, t.2) }, r.2.1)
structure MoOk2 (m : MoH) : Prop extends MoOk m where
 pool : m.pool.length ≤ 1000
 sh : m.c.sh = m.ts.length
 pos : 0 < m.ts.length
theorem A8n {l : List EnV} {p : List G5} {key : ByteArray} {c : Bool} {now idle : Int} (h : (D7 l p key c now idle).2.2 = false) : (D7 l p key c now idle).1 = l := by
 unfold D7 at h ⊢
 split
 ·rfl
 ·rw [if_neg ‹_›] at h
  split
  ·rw [if_pos ‹_›] at h
   simp only at h
   cases hd : T8 l key with
   | none => simp [A03, hd]
   | some u => rw [hd] at h; cases h
  ·rw [if_neg ‹_›] at h
   cases hp : F6 l (A2s l p key now idle) with
   | none => rfl
   | some u => rw [hp] at h; cases h
theorem C0H {κ : Bool} {S : List Nat} {w0 : World} {H : List Res} {K0 : WP} {ts : List (Value × List EnV)} {t : Value × List EnV} (hm : M2 ts ∈ H) (ht : t ∈ ts) (h : t.1.cells = #[t.1] → t.1.cells.size = 1 → t.1.cells.toList.all plain = true → TW κ S w0 H K0) : TW κ S w0 H K0 := fun w hw => by
 obtain ⟨a, c, e⟩ := P3.form ((hw.hold _ hm : A33 ts w) t ht)
 exact h (by rw [e]; rfl) (by rw [e]; rfl) (by rw [e]; rfl) w hw
theorem B2K (s t : ByteArray) (o : Nat) : (W4 s o t).size ≤ o + t.size + s.size := by
 simp only [W4, ByteArray.size_append, ByteArray.size_extract]; omega
theorem B0U (x : Int) : (E4 x 2).size ≤ 2 := by simp
theorem A41 (k : KeyV) : (U6 k).size < 2 ^ 60 := by
 unfold U6
 split
 ·rename_i h
  simp only [Q4, decide_eq_true_eq] at h
  have hl : T3 k.v ≤ 16 := by unfold T3; split <;> (try split) <;> omega
  have h1 := B2K (W4 (W4 z38 0 (E4 (k.v * 256 + k.proto) 2 ++ E4 k.fr 2 ++ E4 k.tp 2)) 6 k.src) k.dst 22
  have h2 := B2K (W4 z38 0 (E4 (k.v * 256 + k.proto) 2 ++ E4 k.fr 2 ++ E4 k.tp 2)) k.src 6
  have h3 := B2K z38 (E4 (k.v * 256 + k.proto) 2 ++ E4 k.fr 2 ++ E4 k.tp 2) 0
  have h4 := B0U (k.v * 256 + k.proto)
  have h5 := B0U k.fr
  have h6 := B0U k.tp
  have h7 := A7F
  simp only [ByteArray.size_append] at h3
  unfold A0e
  omega
 ·simp
theorem B6W (w : World) (m : MoH) (o : OpV) (v : Value) (now : Int) (hv : v.cells = #[v] ∧ plain v = true) (hpk : o.packet.size < 2 ^ 40) (hm : MoOk2 m) (hw : LW false (E2 (D0 m)) w (D0 m) w) :
  Fn PR B5 61 #[.pointer (some ⟨m.b, 0, none⟩), o.val v, .int .i64 now] w (DoR w m (S8 m.st o.packet now)) := by
 refine A4K (TW.goH (κ := false) (S := E2 (D0 m)) ?_ hw)
 unfold w7
 simp only [OpV.val]
 unfold DoR
 have hlen := hm.few
 generalize hS : E2 (D0 m) = S at *
 simp only [D0]
 refine V5 (e := 113) (k := 2) (v := m.sv) (q := m.ts.length) (xs := m.ts.flatMap G6) (by ((repeat (first | exact A0 | exact Up.here | exact Sel.here | apply A1 | apply Up.there | apply Sel.there)); first | done | fail)) ?_
 intro sa sc hsv
 rw [hsv]
 (have hQq := trivial; repeat ((first | clear hQq | (with_reducible first | refine A3 ?_ | refine A4 fun _ => ?_ | refine A5 fun _ => ?_)); (try simp (disch := first | omega | assumption | ((repeat (first | exact A0 | exact Up.here | apply A1 | apply Up.there)); first | done | fail) | (simp; first | done | omega | fail)) [])))
 refine B7 B0K (fun w' hw' => B2s w' o.packet hpk) ?_
 by_cases c1 : (C3 o.packet).2.2 = 0
 case neg =>
  have e : S8 m.st o.packet now = (m.st, ⟨9, 0, false, 0⟩) := by unfold S8; simp only; rw [if_pos c1]
  rw [e]
  (have hQq := trivial; repeat ((first | clear hQq | (with_reducible first | refine A3 ?_ | refine A4 fun _ => ?_ | refine A5 fun _ => ?_)); (try simp (disch := first | omega | assumption | ((repeat (first | exact A0 | exact Up.here | apply A1 | apply Up.there)); first | done | fail) | (simp; first | done | omega | fail)) [packet.val, N7, c1])))
  refine C6 m ⟨by simp [AnsV.val], rfl, rfl⟩ ?_
  simp only [D0, hsv]
  ((repeat (first | exact Sels.nil | (apply Sels.cons; · ((repeat (first | exact A0 | exact Up.here | exact Sel.here | apply A1 | apply Up.there | apply Sel.there)); first | done | fail)))); first | done | fail)
 have hk := A41 (C3 o.packet).1
 (have hQq := trivial; repeat ((first | clear hQq | (with_reducible first | refine A3 ?_ | refine A4 fun _ => ?_ | refine A5 fun _ => ?_)); (try simp (disch := first | omega | assumption | ((repeat (first | exact A0 | exact Up.here | apply A1 | apply Up.there)); first | done | fail) | (simp; first | done | omega | fail)) [packet.val, N7, c1])))
 refine B7 (u := r9 (C3 o.packet).1) B0Z (fun w' hw' => C2J w' (C3 o.packet).1) ?_
 (have hQq := trivial; repeat ((first | clear hQq | (with_reducible first | refine A3 ?_ | refine A4 fun _ => ?_ | refine A5 fun _ => ?_)); (try simp (disch := first | omega | assumption | ((repeat (first | exact A0 | exact Up.here | apply A1 | apply Up.there)); first | done | fail) | (simp; first | done | omega | fail)) [r9])))
 rename_i b4 b6 b7
 have hsh := hm.sh
 have hpos := hm.pos
 rw [show (if Q4 (C3 o.packet).1 = true then A0e (C3 o.packet).1 else P6) = U6 (C3 o.packet).1 from rfl]
 generalize hkey : U6 (C3 o.packet).1 = key at *
 refine B7 B19 (fun w' hw' => C1T w' key m.c.sh hk (by omega)) ?_
 have hlt : M0 key m.c.sh < m.ts.length := by
  unfold M0; rw [if_neg (by omega), hsh, Int.toNat_natCast]; exact Nat.mod_lt _ hpos
 have e : S8 m.st o.packet now = ({ m.st with tabs := m.st.tabs.set (M0 key m.c.sh) ((D7 (m.st.tabs.getD (M0 key m.c.sh) ([], 0)).1 m.pool key (S0 (C3 o.packet).1 (C3 o.packet).2.1) now m.c.idle).1, (m.st.tabs.getD (M0 key m.c.sh) ([], 0)).2) },
   (D7 (m.st.tabs.getD (M0 key m.c.sh) ([], 0)).1 m.pool key (S0 (C3 o.packet).1 (C3 o.packet).2.1) now m.c.idle).2.1) := by
  unfold S8; simp only; rw [if_neg (by rw [c1]; simp), hkey]; rfl
 rw [e]
 generalize M0 key m.c.sh = i at *
 obtain ⟨⟨⟨tv, tl⟩, tn⟩, hx⟩ : ∃ x, m.ts[i]? = some x := ⟨_, List.getElem?_eq_getElem hlt⟩
 have hxm := List.mem_of_getElem? hx
 have hgd : m.st.tabs.getD i ([], 0) = (tl, tn) := by simp [MoH.st, List.getD_eq_getElem?_getD, hx]
 rw [hgd]
 simp only
 generalize hcl : S0 (C3 o.packet).1 (C3 o.packet).2.1 = cl at *
 have h0 : (m.ts.flatMap G6)[i * 2]? = some tv := by
  have := W3 (f := G6) (k := 2) (fun _ => rfl) m.ts i 0 (by omega); rw [hx] at this; exact this
 refine A1T (e := 113) (k := 2) (v := .slice sa m.ts.length sc) (q := m.ts.length) (xs := m.ts.flatMap G6) (by ((repeat (first | exact A0 | exact Up.here | exact Sel.here | apply A1 | apply Up.there | apply Sel.there)); first | done | fail)) (by omega) ?_
 rintro g gc hg
 cases hg
 (have hQq := trivial; repeat ((first | clear hQq | (with_reducible first | refine A3 ?_ | refine A4 fun _ => ?_ | refine A5 fun _ => ?_)); (try simp (disch := first | omega | assumption | ((repeat (first | exact A0 | exact Up.here | apply A1 | apply Up.there)); first | done | fail) | (simp; first | done | omega | fail)) [hlt])))
 cases hnw : (D7 tl m.pool key cl now m.c.idle).2.2 with
 | true =>
  refine B15 (α := Nat × Value) (fun x => x.2.cells = #[x.2] ∧ x.2.cells.size = 1 ∧ x.2.cells.toList.all plain = true) (fun x => [.pt x.1 (.cells #[.int .i64 (D7 tl m.pool key cl now m.c.idle).2.1.err, .int .i64 (D7 tl m.pool key cl now m.c.idle).2.1.bk, .bool (D7 tl m.pool key cl now m.c.idle).2.1.made, .int .i64 (D7 tl m.pool key cl now m.c.idle).2.1.count] 39), F2 x.2 (D7 tl m.pool key cl now m.c.idle).1, 
   .pt b7 (.cells #[.int .i64 (C3 o.packet).1.v, .string (C3 o.packet).1.src, .string (C3 o.packet).1.dst, .int .i64 (C3 o.packet).1.fr, .int .i64 (C3 o.packet).1.tp, .int .i64 (C3 o.packet).1.proto, .int .i64 (C3 o.packet).2.1] 101),
   .pt b6 (.cells #[.int .i64 0, .int .i64 0, .bool false, .int .i64 0] 39),
   .pt m.b (.cells #[.int .i64 m.c.wk, .int .i64 m.c.sh, .int .i64 m.c.cp, .int .i64 m.c.idle, .int .i64 m.c.sl, m.pv, .slice (some ⟨g, 0, none⟩) m.ts.length sc] 109),
   .own 103 2 m.pv m.pool.length (m.pool.flatMap E8), .own 113 2 (.slice (some ⟨g, 0, none⟩) m.ts.length sc) m.ts.length (m.ts.flatMap G6), M2 (m.ts.map (·.1))])
   (fun x => .pointer (some ⟨x.1, 0, none⟩)) (fun x => x.2) ?_ ?_
  ·rintro ⟨ba, r⟩ ⟨hr1, hr2, hr3⟩
   simp only at hr1 hr2 hr3 ⊢
   have hr4 : r.cells.toList = [r] := by rw [hr1]
   (have hQq := trivial; repeat ((first | clear hQq | (with_reducible first | refine A3 ?_ | refine A4 fun _ => ?_ | refine A5 fun _ => ?_)); (try simp (disch := first | omega | assumption | ((repeat (first | exact A0 | exact Up.here | apply A1 | apply Up.there)); first | done | fail) | (simp; first | done | omega | fail)) [hlt])))
   refine f8 (by ((repeat (first | exact A0 | exact Up.here | exact Sel.here | apply A1 | apply Up.there | apply Sel.there)); first | done | fail)) (by simp [hr1]) (by rw [L0 (k := 2) fun _ => rfl]; omega) (by simp [hr3]) ?_
   rw [hr4, B1b (e' := (D7 tl m.pool key cl now m.c.idle).1) hx]
   (have hQq := trivial; repeat ((first | clear hQq | (with_reducible first | refine A3 ?_ | refine A4 fun _ => ?_ | refine A5 fun _ => ?_)); (try simp (disch := first | omega | assumption | ((repeat (first | exact A0 | exact Up.here | apply A1 | apply Up.there)); first | done | fail) | (simp; first | done | omega | fail)) [])))
   refine B5k (r := r) (l := (D7 tl m.pool key cl now m.c.idle).1) (i := i) (by ((repeat (first | exact Part.nil | (apply Part.cons; · ((repeat (first | exact A0 | exact Up.here | exact Sel.here | apply A1 | apply Up.there | apply Sel.there)); first | done | fail)))); first | done | fail)) ?_
   refine C6 { m with sv := .slice (some ⟨g, 0, none⟩) m.ts.length sc, ts := m.ts.set i ((r, (D7 tl m.pool key cl now m.c.idle).1), tn) } ⟨by simp [AnsV.val], rfl, by simp [MoH.st, List.map_set]⟩ ?_
   simp only [D0, List.map_set, List.length_set]
   ((repeat (first | exact Sels.nil | (apply Sels.cons; · ((repeat (first | exact A0 | exact Up.here | exact Sel.here | apply A1 | apply Up.there | apply Sel.there)); first | done | fail)))); first | done | fail)
  ·intro J hJ
   (have hQq := trivial; repeat ((first | clear hQq | (with_reducible first | refine A3 ?_ | refine A4 fun _ => ?_ | refine A5 fun _ => ?_)); (try simp (disch := first | omega | assumption | ((repeat (first | exact A0 | exact Up.here | apply A1 | apply Up.there)); first | done | fail) | (simp; first | done | omega | fail)) [hlt, h0])))
   have hclo : ∀ w', Fn PR B5 106 #[N7 (C3 o.packet).1 (C3 o.packet).2.1] w' (fun u w'' => u = .bool cl ∧ C0 [] w' w'') := fun w' => by rw [← hcl]; exact B1H w' _ _
   refine ⟨?_, ?_⟩
   ·refine B7 c9 (fun w' _ => hclo w') ?_
    (have hQq := trivial; repeat ((first | clear hQq | (with_reducible first | refine A3 ?_ | refine A4 fun _ => ?_ | refine A5 fun _ => ?_)); (try simp (disch := first | omega | assumption | ((repeat (first | exact A0 | exact Up.here | apply A1 | apply Up.there)); first | done | fail) | (simp; first | done | omega | fail)) [h0])))
    refine ⟨?_, ?_⟩
    ·refine F8 U3 (fun w' hw' => A1B w' tv m.pv tl m.pool key cl now m.c.idle hk (hm.keys _ hxm) (hm.len _ hxm) hm.pool (r4 (t := (tv, tl)) hw' (ts := m.ts.map (·.1)) (by ((repeat (first | exact A0 | exact Up.here | exact Sel.here | apply A1 | apply Up.there | apply Sel.there)); first | done | fail)) (List.mem_map.2 ⟨_, hxm, rfl⟩)) (K6.own (e := 103) (k := 2) (by ((repeat (first | exact A0 | exact Up.here | exact Sel.here | apply A1 | apply Up.there | apply Sel.there)); first | done | fail)) w' hw')) ?_
     rintro r _ rfl
     simp only [hnw, if_true]
     refine A1Y (e := 71) (k := 4) (v := r) (q := (D7 tl m.pool key cl now m.c.idle).1.length) (xs := (D7 tl m.pool key cl now m.c.idle).1.flatMap E1) (by ((repeat (first | exact A0 | exact Up.here | exact Sel.here | apply A1 | apply Up.there | apply Sel.there)); first | done | fail)) fun hr1 hr2 hr3 => ?_
     (have hQq := trivial; repeat ((first | clear hQq | (with_reducible first | refine A3 ?_ | refine A4 fun _ => ?_ | refine A5 fun _ => ?_)); (try simp (disch := first | omega | assumption | ((repeat (first | exact A0 | exact Up.here | apply A1 | apply Up.there)); first | done | fail) | (simp; first | done | omega | fail)) [AnsV.val])))
     rename_i bx
     exact Sels.tw (by ((repeat (first | exact Sels.nil | (apply Sels.cons; · ((repeat (first | exact A0 | exact Up.here | exact Sel.here | apply A1 | apply Up.there | apply Sel.there)); first | done | fail)))); first | done | fail)) (hJ (bx, r) ⟨hr1, hr2, hr3⟩)
    ·refine ⟨?_, fun _ _ => trivial⟩
     (have hQq := trivial; repeat ((first | clear hQq | (with_reducible first | refine A3 ?_ | refine A4 fun _ => ?_ | refine A5 fun _ => ?_)); (try simp (disch := first | omega | assumption | ((repeat (first | exact A0 | exact Up.here | apply A1 | apply Up.there)); first | done | fail) | (simp; first | done | omega | fail)) [h0])))
     rename_i bx
     refine F8 U3 (fun w' hw' => A1B w' tv m.pv tl m.pool key cl now m.c.idle hk (hm.keys _ hxm) (hm.len _ hxm) hm.pool (r4 (t := (tv, tl)) hw' (ts := m.ts.map (·.1)) (by ((repeat (first | exact A0 | exact Up.here | exact Sel.here | apply A1 | apply Up.there | apply Sel.there)); first | done | fail)) (List.mem_map.2 ⟨_, hxm, rfl⟩)) (K6.own (e := 103) (k := 2) (by ((repeat (first | exact A0 | exact Up.here | exact Sel.here | apply A1 | apply Up.there | apply Sel.there)); first | done | fail)) w' hw')) ?_
     rintro r _ rfl
     simp only [hnw, if_true]
     refine A1Y (e := 71) (k := 4) (v := r) (q := (D7 tl m.pool key cl now m.c.idle).1.length) (xs := (D7 tl m.pool key cl now m.c.idle).1.flatMap E1) (by ((repeat (first | exact A0 | exact Up.here | exact Sel.here | apply A1 | apply Up.there | apply Sel.there)); first | done | fail)) fun hr1 hr2 hr3 => ?_
     (have hQq := trivial; repeat ((first | clear hQq | (with_reducible first | refine A3 ?_ | refine A4 fun _ => ?_ | refine A5 fun _ => ?_)); (try simp (disch := first | omega | assumption | ((repeat (first | exact A0 | exact Up.here | apply A1 | apply Up.there)); first | done | fail) | (simp; first | done | omega | fail)) [AnsV.val])))
     exact Sels.tw (by ((repeat (first | exact Sels.nil | (apply Sels.cons; · ((repeat (first | exact A0 | exact Up.here | exact Sel.here | apply A1 | apply Up.there | apply Sel.there)); first | done | fail)))); first | done | fail)) (hJ (bx, r) ⟨hr1, hr2, hr3⟩)
   ·refine ⟨?_, fun _ _ => trivial⟩
    (have hQq := trivial; repeat ((first | clear hQq | (with_reducible first | refine A3 ?_ | refine A4 fun _ => ?_ | refine A5 fun _ => ?_)); (try simp (disch := first | omega | assumption | ((repeat (first | exact A0 | exact Up.here | apply A1 | apply Up.there)); first | done | fail) | (simp; first | done | omega | fail)) [h0])))
    rename_i bx
    rw [S6 (by ((repeat (first | exact A0 | exact Up.here | exact Sel.here | apply A1 | apply Up.there | apply Sel.there)); first | done | fail)) (by rfl)]
    (have hQq := trivial; repeat ((first | clear hQq | (with_reducible first | refine A3 ?_ | refine A4 fun _ => ?_ | refine A5 fun _ => ?_)); (try simp (disch := first | omega | assumption | ((repeat (first | exact A0 | exact Up.here | apply A1 | apply Up.there)); first | done | fail) | (simp; first | done | omega | fail)) [h0])))
    refine B7 c9 (fun w' _ => hclo w') ?_
    (have hQq := trivial; repeat ((first | clear hQq | (with_reducible first | refine A3 ?_ | refine A4 fun _ => ?_ | refine A5 fun _ => ?_)); (try simp (disch := first | omega | assumption | ((repeat (first | exact A0 | exact Up.here | apply A1 | apply Up.there)); first | done | fail) | (simp; first | done | omega | fail)) [h0])))
    refine F8 U3 (fun w' hw' => A1B w' tv m.pv tl m.pool key cl now m.c.idle hk (hm.keys _ hxm) (hm.len _ hxm) hm.pool (r4 (t := (tv, tl)) hw' (ts := m.ts.map (·.1)) (by ((repeat (first | exact A0 | exact Up.here | exact Sel.here | apply A1 | apply Up.there | apply Sel.there)); first | done | fail)) (List.mem_map.2 ⟨_, hxm, rfl⟩)) (K6.own (e := 103) (k := 2) (by ((repeat (first | exact A0 | exact Up.here | exact Sel.here | apply A1 | apply Up.there | apply Sel.there)); first | done | fail)) w' hw')) ?_
    rintro r _ rfl
    simp only [hnw, if_true]
    refine A1Y (e := 71) (k := 4) (v := r) (q := (D7 tl m.pool key cl now m.c.idle).1.length) (xs := (D7 tl m.pool key cl now m.c.idle).1.flatMap E1) (by ((repeat (first | exact A0 | exact Up.here | exact Sel.here | apply A1 | apply Up.there | apply Sel.there)); first | done | fail)) fun hr1 hr2 hr3 => ?_
    (have hQq := trivial; repeat ((first | clear hQq | (with_reducible first | refine A3 ?_ | refine A4 fun _ => ?_ | refine A5 fun _ => ?_)); (try simp (disch := first | omega | assumption | ((repeat (first | exact A0 | exact Up.here | apply A1 | apply Up.there)); first | done | fail) | (simp; first | done | omega | fail)) [AnsV.val])))
    exact Sels.tw (by ((repeat (first | exact Sels.nil | (apply Sels.cons; · ((repeat (first | exact A0 | exact Up.here | exact Sel.here | apply A1 | apply Up.there | apply Sel.there)); first | done | fail)))); first | done | fail)) (hJ (bx, r) ⟨hr1, hr2, hr3⟩)
 | false =>
  refine C0H (ts := m.ts.map (·.1)) (t := (tv, tl)) (by ((repeat (first | exact A0 | exact Up.here | exact Sel.here | apply A1 | apply Up.there | apply Sel.there)); first | done | fail)) (List.mem_map.2 ⟨_, hxm, rfl⟩) fun hr1 hr2 hr3 => ?_
  simp only at hr1 hr2 hr3
  refine B15 (α := Nat × Value) (fun x => x.2.cells = #[x.2] ∧ x.2.cells.size = 1 ∧ x.2.cells.toList.all plain = true) (fun x => [.pt x.1 (.cells #[.int .i64 (D7 tl m.pool key cl now m.c.idle).2.1.err, .int .i64 (D7 tl m.pool key cl now m.c.idle).2.1.bk, .bool (D7 tl m.pool key cl now m.c.idle).2.1.made, .int .i64 (D7 tl m.pool key cl now m.c.idle).2.1.count] 39), 
   .pt b7 (.cells #[.int .i64 (C3 o.packet).1.v, .string (C3 o.packet).1.src, .string (C3 o.packet).1.dst, .int .i64 (C3 o.packet).1.fr, .int .i64 (C3 o.packet).1.tp, .int .i64 (C3 o.packet).1.proto, .int .i64 (C3 o.packet).2.1] 101),
   .pt b6 (.cells #[.int .i64 0, .int .i64 0, .bool false, .int .i64 0] 39),
   .pt m.b (.cells #[.int .i64 m.c.wk, .int .i64 m.c.sh, .int .i64 m.c.cp, .int .i64 m.c.idle, .int .i64 m.c.sl, m.pv, .slice (some ⟨g, 0, none⟩) m.ts.length sc] 109),
   .own 103 2 m.pv m.pool.length (m.pool.flatMap E8), .own 113 2 (.slice (some ⟨g, 0, none⟩) m.ts.length sc) m.ts.length (m.ts.flatMap G6), M2 (m.ts.map (·.1))])
   (fun x => .pointer (some ⟨x.1, 0, none⟩)) (fun x => tv) ?_ ?_
  ·rintro ⟨ba, r⟩ _
   simp only
   have hr4 : tv.cells.toList = [tv] := by rw [hr1]
   have hsame : m.ts.set i ((tv, tl), tn) = m.ts := by
    obtain ⟨h, e⟩ := List.getElem?_eq_some_iff.1 hx
    rw [← e]; exact List.set_getElem_self h
   have hst : m.st.tabs.set i (tl, tn) = m.st.tabs := by
    have := congrArg (List.map fun t : ShV => (t.1.2, t.2)) hsame
    rw [List.map_set] at this; exact this
   have hd := A8n hnw
   (have hQq := trivial; repeat ((first | clear hQq | (with_reducible first | refine A3 ?_ | refine A4 fun _ => ?_ | refine A5 fun _ => ?_)); (try simp (disch := first | omega | assumption | ((repeat (first | exact A0 | exact Up.here | apply A1 | apply Up.there)); first | done | fail) | (simp; first | done | omega | fail)) [hlt])))
   refine f8 (by ((repeat (first | exact A0 | exact Up.here | exact Sel.here | apply A1 | apply Up.there | apply Sel.there)); first | done | fail)) (by simp [hr1]) (by rw [L0 (k := 2) fun _ => rfl]; omega) (by simp [hr3]) ?_
   rw [hr4, B1b (e' := tl) hx, hsame]
   (have hQq := trivial; repeat ((first | clear hQq | (with_reducible first | refine A3 ?_ | refine A4 fun _ => ?_ | refine A5 fun _ => ?_)); (try simp (disch := first | omega | assumption | ((repeat (first | exact A0 | exact Up.here | apply A1 | apply Up.there)); first | done | fail) | (simp; first | done | omega | fail)) [])))
   refine C6 m ⟨by simp [AnsV.val], rfl, by rw [hd, hst]⟩ ?_
   simp only [D0, hsv]
   ((repeat (first | exact Sels.nil | (apply Sels.cons; · ((repeat (first | exact A0 | exact Up.here | exact Sel.here | apply A1 | apply Up.there | apply Sel.there)); first | done | fail)))); first | done | fail)
  ·intro J hJ
   (have hQq := trivial; repeat ((first | clear hQq | (with_reducible first | refine A3 ?_ | refine A4 fun _ => ?_ | refine A5 fun _ => ?_)); (try simp (disch := first | omega | assumption | ((repeat (first | exact A0 | exact Up.here | apply A1 | apply Up.there)); first | done | fail) | (simp; first | done | omega | fail)) [hlt, h0])))
   have hclo : ∀ w', Fn PR B5 106 #[N7 (C3 o.packet).1 (C3 o.packet).2.1] w' (fun u w'' => u = .bool cl ∧ C0 [] w' w'') := fun w' => by rw [← hcl]; exact B1H w' _ _
   refine ⟨?_, ?_⟩
   ·refine B7 c9 (fun w' _ => hclo w') ?_
    (have hQq := trivial; repeat ((first | clear hQq | (with_reducible first | refine A3 ?_ | refine A4 fun _ => ?_ | refine A5 fun _ => ?_)); (try simp (disch := first | omega | assumption | ((repeat (first | exact A0 | exact Up.here | apply A1 | apply Up.there)); first | done | fail) | (simp; first | done | omega | fail)) [h0])))
    refine ⟨?_, ?_⟩
    ·refine F8 U3 (fun w' hw' => A1B w' tv m.pv tl m.pool key cl now m.c.idle hk (hm.keys _ hxm) (hm.len _ hxm) hm.pool (r4 (t := (tv, tl)) hw' (ts := m.ts.map (·.1)) (by ((repeat (first | exact A0 | exact Up.here | exact Sel.here | apply A1 | apply Up.there | apply Sel.there)); first | done | fail)) (List.mem_map.2 ⟨_, hxm, rfl⟩)) (K6.own (e := 103) (k := 2) (by ((repeat (first | exact A0 | exact Up.here | exact Sel.here | apply A1 | apply Up.there | apply Sel.there)); first | done | fail)) w' hw')) ?_
     rintro r _ rfl
     simp only [hnw, Bool.false_eq_true, if_false]
     (have hQq := trivial; repeat ((first | clear hQq | (with_reducible first | refine A3 ?_ | refine A4 fun _ => ?_ | refine A5 fun _ => ?_)); (try simp (disch := first | omega | assumption | ((repeat (first | exact A0 | exact Up.here | apply A1 | apply Up.there)); first | done | fail) | (simp; first | done | omega | fail)) [AnsV.val])))
     rename_i bx
     exact Sels.tw (by ((repeat (first | exact Sels.nil | (apply Sels.cons; · ((repeat (first | exact A0 | exact Up.here | exact Sel.here | apply A1 | apply Up.there | apply Sel.there)); first | done | fail)))); first | done | fail)) (hJ (bx, tv) ⟨hr1, hr2, hr3⟩)
    ·refine ⟨?_, fun _ _ => trivial⟩
     (have hQq := trivial; repeat ((first | clear hQq | (with_reducible first | refine A3 ?_ | refine A4 fun _ => ?_ | refine A5 fun _ => ?_)); (try simp (disch := first | omega | assumption | ((repeat (first | exact A0 | exact Up.here | apply A1 | apply Up.there)); first | done | fail) | (simp; first | done | omega | fail)) [h0])))
     rename_i bx
     refine F8 U3 (fun w' hw' => A1B w' tv m.pv tl m.pool key cl now m.c.idle hk (hm.keys _ hxm) (hm.len _ hxm) hm.pool (r4 (t := (tv, tl)) hw' (ts := m.ts.map (·.1)) (by ((repeat (first | exact A0 | exact Up.here | exact Sel.here | apply A1 | apply Up.there | apply Sel.there)); first | done | fail)) (List.mem_map.2 ⟨_, hxm, rfl⟩)) (K6.own (e := 103) (k := 2) (by ((repeat (first | exact A0 | exact Up.here | exact Sel.here | apply A1 | apply Up.there | apply Sel.there)); first | done | fail)) w' hw')) ?_
     rintro r _ rfl
     simp only [hnw, Bool.false_eq_true, if_false]
     (have hQq := trivial; repeat ((first | clear hQq | (with_reducible first | refine A3 ?_ | refine A4 fun _ => ?_ | refine A5 fun _ => ?_)); (try simp (disch := first | omega | assumption | ((repeat (first | exact A0 | exact Up.here | apply A1 | apply Up.there)); first | done | fail) | (simp; first | done | omega | fail)) [AnsV.val])))
     exact Sels.tw (by ((repeat (first | exact Sels.nil | (apply Sels.cons; · ((repeat (first | exact A0 | exact Up.here | exact Sel.here | apply A1 | apply Up.there | apply Sel.there)); first | done | fail)))); first | done | fail)) (hJ (bx, tv) ⟨hr1, hr2, hr3⟩)
   ·refine ⟨?_, fun _ _ => trivial⟩
    (have hQq := trivial; repeat ((first | clear hQq | (with_reducible first | refine A3 ?_ | refine A4 fun _ => ?_ | refine A5 fun _ => ?_)); (try simp (disch := first | omega | assumption | ((repeat (first | exact A0 | exact Up.here | apply A1 | apply Up.there)); first | done | fail) | (simp; first | done | omega | fail)) [h0])))
    rename_i bx
    rw [S6 (by ((repeat (first | exact A0 | exact Up.here | exact Sel.here | apply A1 | apply Up.there | apply Sel.there)); first | done | fail)) (by rfl)]
    (have hQq := trivial; repeat ((first | clear hQq | (with_reducible first | refine A3 ?_ | refine A4 fun _ => ?_ | refine A5 fun _ => ?_)); (try simp (disch := first | omega | assumption | ((repeat (first | exact A0 | exact Up.here | apply A1 | apply Up.there)); first | done | fail) | (simp; first | done | omega | fail)) [h0])))
    refine B7 c9 (fun w' _ => hclo w') ?_
    (have hQq := trivial; repeat ((first | clear hQq | (with_reducible first | refine A3 ?_ | refine A4 fun _ => ?_ | refine A5 fun _ => ?_)); (try simp (disch := first | omega | assumption | ((repeat (first | exact A0 | exact Up.here | apply A1 | apply Up.there)); first | done | fail) | (simp; first | done | omega | fail)) [h0])))
    refine F8 U3 (fun w' hw' => A1B w' tv m.pv tl m.pool key cl now m.c.idle hk (hm.keys _ hxm) (hm.len _ hxm) hm.pool (r4 (t := (tv, tl)) hw' (ts := m.ts.map (·.1)) (by ((repeat (first | exact A0 | exact Up.here | exact Sel.here | apply A1 | apply Up.there | apply Sel.there)); first | done | fail)) (List.mem_map.2 ⟨_, hxm, rfl⟩)) (K6.own (e := 103) (k := 2) (by ((repeat (first | exact A0 | exact Up.here | exact Sel.here | apply A1 | apply Up.there | apply Sel.there)); first | done | fail)) w' hw')) ?_
    rintro r _ rfl
    simp only [hnw, Bool.false_eq_true, if_false]
    (have hQq := trivial; repeat ((first | clear hQq | (with_reducible first | refine A3 ?_ | refine A4 fun _ => ?_ | refine A5 fun _ => ?_)); (try simp (disch := first | omega | assumption | ((repeat (first | exact A0 | exact Up.here | apply A1 | apply Up.there)); first | done | fail) | (simp; first | done | omega | fail)) [AnsV.val])))
    exact Sels.tw (by ((repeat (first | exact Sels.nil | (apply Sels.cons; · ((repeat (first | exact A0 | exact Up.here | exact Sel.here | apply A1 | apply Up.there | apply Sel.there)); first | done | fail)))); first | done | fail)) (hJ (bx, tv) ⟨hr1, hr2, hr3⟩)
end Go.Proofs.YtggakcpabomliaaGreat
namespace Go.Proofs.YtggakcpabomliaaGreat
open Go
theorem bdF (a b c d : FuncId) (K : Value → WP) : A2 PR (Instr.build 117 #[(0, .func (.func a) #[] #[]), (1, .func (.func b) #[] #[]), (2, .func (.func c) #[] #[]), (3, .func (.func d) #[] #[])]) K = K (.agg #[.func (.func a) #[] #[], .func (.func b) #[] #[], .func (.func c) #[] #[], .func (.func d) #[] #[]]) :=
 B53 B8q B8c (by rw [show (#[(0, Value.func (.func a) #[] #[]), (1, .func (.func b) #[] #[]), (2, .func (.func c) #[] #[]), (3, .func (.func d) #[] #[])] : Array (Nat × Value)).toList = [(0, .func (.func a) #[] #[]), (1, .func (.func b) #[] #[]), (2, .func (.func c) #[] #[]), (3, .func (.func d) #[] #[])] from rfl, B3 rfl rfl (by simp), B3 rfl rfl (by simp [B9]), B3 rfl rfl (by simp [B9]), B3 rfl rfl (by simp [B9])]; rfl)
def S5 (s : MoS) (o : OpV) (now : Int) : MoS × AnsV :=
 if o.kind = 0 then S8 s o.packet now else if o.kind = 1 then A3S s o.pool else if o.kind = 2 then A02 s o.shard now else if o.kind = 3 then A7E s else (s, ⟨1, 0, false, 0⟩)
theorem C7N (w : World) (m : MoH) (o : OpV) (v : Value) (now : Int) (hv : PoolAt w m v o.pool) (hpk : o.packet.size < 2 ^ 40) (hm : MoOk2 m) (hw : LW false (E2 (D0 m)) w (D0 m) w) :
  Fn PR B5 20 #[.pointer (some ⟨m.b, 0, none⟩), o.val v, .int .i64 now] w (DoR w m (S5 m.st o now)) := by
 refine A9m (TW.goH (κ := false) (S := E2 (D0 m)) ?_ hw)
 unfold A25
 simp only [OpV.val]
 unfold DoR
 generalize hS : E2 (D0 m) = S at *
 have hc1 : v.cells.size = 1 := by rw [hv.form.1]; rfl
 by_cases c0 : o.kind < 0
 ·have e : S5 m.st o now = (m.st, ⟨1, 0, false, 0⟩) := by unfold S5; rw [if_neg (by omega), if_neg (by omega), if_neg (by omega), if_neg (by omega)]
  rw [e]
  simp only [D0]
  (have hQq := trivial; repeat ((first | clear hQq | (with_reducible first | refine A3 ?_ | refine A4 fun _ => ?_ | refine A5 fun _ => ?_)); (try simp (disch := first | omega | assumption | ((repeat (first | exact A0 | exact Up.here | apply A1 | apply Up.there)); first | done | fail) | (simp; first | done | omega | fail)) [c0, bdF])))
  refine C6 m ⟨by simp [AnsV.val], rfl, rfl⟩ ?_
  simp only [D0]
  ((repeat (first | exact Sels.nil | (apply Sels.cons; · ((repeat (first | exact A0 | exact Up.here | exact Sel.here | apply A1 | apply Up.there | apply Sel.there)); first | done | fail)))); first | done | fail)
 by_cases c4 : 4 ≤ o.kind
 ·have e : S5 m.st o now = (m.st, ⟨1, 0, false, 0⟩) := by unfold S5; rw [if_neg (by omega), if_neg (by omega), if_neg (by omega), if_neg (by omega)]
  rw [e]
  simp only [D0]
  (have hQq := trivial; repeat ((first | clear hQq | (with_reducible first | refine A3 ?_ | refine A4 fun _ => ?_ | refine A5 fun _ => ?_)); (try simp (disch := first | omega | assumption | ((repeat (first | exact A0 | exact Up.here | apply A1 | apply Up.there)); first | done | fail) | (simp; first | done | omega | fail)) [c0, c4, bdF])))
  refine C6 m ⟨by simp [AnsV.val], rfl, rfl⟩ ?_
  simp only [D0]
  ((repeat (first | exact Sels.nil | (apply Sels.cons; · ((repeat (first | exact A0 | exact Up.here | exact Sel.here | apply A1 | apply Up.there | apply Sel.there)); first | done | fail)))); first | done | fail)
 have hk : o.kind = 0 ∨ o.kind = 1 ∨ o.kind = 2 ∨ o.kind = 3 := by omega
 rcases hk with hk | hk | hk | hk
 ·rw [show S5 m.st o now = S8 m.st o.packet now by simp [S5, hk]]
  simp only [D0]
  (have hQq := trivial; repeat ((first | clear hQq | (with_reducible first | refine A3 ?_ | refine A4 fun _ => ?_ | refine A5 fun _ => ?_)); (try simp (disch := first | omega | assumption | ((repeat (first | exact A0 | exact Up.here | apply A1 | apply Up.there)); first | done | fail) | (simp; first | done | omega | fail)) [hk, bdF])))
  refine H7 (Hc := D0 m) A3n (fun w' hw' hs => by have := B6W w' m o v now hv.form hpk hm hs; rw [OpV.val, hk] at this; exact this) (by simp only [D0]; ((repeat (first | exact Part.nil | (apply Part.cons; · ((repeat (first | exact A0 | exact Up.here | exact Sel.here | apply A1 | apply Up.there | apply Sel.there)); first | done | fail)))); first | done | fail)) ?_
  rintro m' _ ⟨rfl, hb, hst⟩
  simp only [D0]
  (have hQq := trivial; repeat ((first | clear hQq | (with_reducible first | refine A3 ?_ | refine A4 fun _ => ?_ | refine A5 fun _ => ?_)); (try simp (disch := first | omega | assumption | ((repeat (first | exact A0 | exact Up.here | apply A1 | apply Up.there)); first | done | fail) | (simp; first | done | omega | fail)) [AnsV.val])))
  refine C6 m' ⟨by simp [AnsV.val], hb, hst⟩ ?_
  simp only [D0]
  ((repeat (first | exact Sels.nil | (apply Sels.cons; · ((repeat (first | exact A0 | exact Up.here | exact Sel.here | apply A1 | apply Up.there | apply Sel.there)); first | done | fail)))); first | done | fail)
 ·rw [show S5 m.st o now = A3S m.st o.pool by simp [S5, hk]]
  simp only [D0]
  (have hQq := trivial; repeat ((first | clear hQq | (with_reducible first | refine A3 ?_ | refine A4 fun _ => ?_ | refine A5 fun _ => ?_)); (try simp (disch := first | omega | assumption | ((repeat (first | exact A0 | exact Up.here | apply A1 | apply Up.there)); first | done | fail) | (simp; first | done | omega | fail)) [hk, bdF])))
  refine H7 (Hc := D0 m) A5x (fun w' hw' hs => by have := C1A w' m o v now ⟨hv.at (by rw [hS]; exact hw'.ks), hv.off, hv.len, hv.form⟩ hs; rw [OpV.val, hk] at this; exact this) (by simp only [D0]; ((repeat (first | exact Part.nil | (apply Part.cons; · ((repeat (first | exact A0 | exact Up.here | exact Sel.here | apply A1 | apply Up.there | apply Sel.there)); first | done | fail)))); first | done | fail)) ?_
  rintro m' _ ⟨rfl, hb, hst⟩
  simp only [D0]
  (have hQq := trivial; repeat ((first | clear hQq | (with_reducible first | refine A3 ?_ | refine A4 fun _ => ?_ | refine A5 fun _ => ?_)); (try simp (disch := first | omega | assumption | ((repeat (first | exact A0 | exact Up.here | apply A1 | apply Up.there)); first | done | fail) | (simp; first | done | omega | fail)) [AnsV.val])))
  refine C6 m' ⟨by simp [AnsV.val], hb, hst⟩ ?_
  simp only [D0]
  ((repeat (first | exact Sels.nil | (apply Sels.cons; · ((repeat (first | exact A0 | exact Up.here | exact Sel.here | apply A1 | apply Up.there | apply Sel.there)); first | done | fail)))); first | done | fail)
 ·rw [show S5 m.st o now = A02 m.st o.shard now by simp [S5, hk]]
  simp only [D0]
  (have hQq := trivial; repeat ((first | clear hQq | (with_reducible first | refine A3 ?_ | refine A4 fun _ => ?_ | refine A5 fun _ => ?_)); (try simp (disch := first | omega | assumption | ((repeat (first | exact A0 | exact Up.here | apply A1 | apply Up.there)); first | done | fail) | (simp; first | done | omega | fail)) [hk, bdF])))
  refine H7 (Hc := D0 m) A5b (fun w' hw' hs => by have := C1D w' m o v now hv.form hm.toMoOk hs; rw [OpV.val, hk] at this; exact this) (by simp only [D0]; ((repeat (first | exact Part.nil | (apply Part.cons; · ((repeat (first | exact A0 | exact Up.here | exact Sel.here | apply A1 | apply Up.there | apply Sel.there)); first | done | fail)))); first | done | fail)) ?_
  rintro m' _ ⟨rfl, hb, hst⟩
  simp only [D0]
  (have hQq := trivial; repeat ((first | clear hQq | (with_reducible first | refine A3 ?_ | refine A4 fun _ => ?_ | refine A5 fun _ => ?_)); (try simp (disch := first | omega | assumption | ((repeat (first | exact A0 | exact Up.here | apply A1 | apply Up.there)); first | done | fail) | (simp; first | done | omega | fail)) [AnsV.val])))
  refine C6 m' ⟨by simp [AnsV.val], hb, hst⟩ ?_
  simp only [D0]
  ((repeat (first | exact Sels.nil | (apply Sels.cons; · ((repeat (first | exact A0 | exact Up.here | exact Sel.here | apply A1 | apply Up.there | apply Sel.there)); first | done | fail)))); first | done | fail)
 ·rw [show S5 m.st o now = A7E m.st by simp [S5, hk]]
  simp only [D0]
  (have hQq := trivial; repeat ((first | clear hQq | (with_reducible first | refine A3 ?_ | refine A4 fun _ => ?_ | refine A5 fun _ => ?_)); (try simp (disch := first | omega | assumption | ((repeat (first | exact A0 | exact Up.here | apply A1 | apply Up.there)); first | done | fail) | (simp; first | done | omega | fail)) [hk, bdF])))
  refine H7 (Hc := D0 m) A6J (fun w' hw' hs => by have := C1m w' m o v now hv.form hm.toMoOk hs; rw [OpV.val, hk] at this; exact this) (by simp only [D0]; ((repeat (first | exact Part.nil | (apply Part.cons; · ((repeat (first | exact A0 | exact Up.here | exact Sel.here | apply A1 | apply Up.there | apply Sel.there)); first | done | fail)))); first | done | fail)) ?_
  rintro m' _ ⟨rfl, hb, hst⟩
  simp only [D0]
  (have hQq := trivial; repeat ((first | clear hQq | (with_reducible first | refine A3 ?_ | refine A4 fun _ => ?_ | refine A5 fun _ => ?_)); (try simp (disch := first | omega | assumption | ((repeat (first | exact A0 | exact Up.here | apply A1 | apply Up.there)); first | done | fail) | (simp; first | done | omega | fail)) [AnsV.val])))
  refine C6 m' ⟨by simp [AnsV.val], hb, hst⟩ ?_
  simp only [D0]
  ((repeat (first | exact Sels.nil | (apply Sels.cons; · ((repeat (first | exact A0 | exact Up.here | exact Sel.here | apply A1 | apply Up.there | apply Sel.there)); first | done | fail)))); first | done | fail)
end Go.Proofs.YtggakcpabomliaaGreat
namespace Go.Proofs.YtggakcpabomliaaGreat
open Go
theorem A66 {l : List EnV} {j : Nat} {x : EnV} (h : H6 l) (hx : x.key.size < 2 ^ 60) : H6 (l.set j x) := fun y hy => by
 rcases List.mem_or_eq_of_mem_set hy with h1 | rfl
 ·exact h y h1
 ·exact hx
theorem B4s (n : Nat) : H6 (newE n) := fun x hx => by
 unfold newE at hx
 rw [(List.mem_replicate.1 hx).2]; simp [W9]
theorem C0z {a : List EnV} {x : EnV} (h : H6 a) (hx : x.key.size < 2 ^ 60) : H6 (T7 a x) := by
 unfold T7
 cases hp : F6 a x with
 | none => exact h
 | some u => obtain ⟨j, _, rfl⟩ := B0g hp; exact A66 h hx
theorem C03 {l : List EnV} (h : H6 l) : H6 (V8 l) := by
 unfold V8
 have : ∀ (L : List (Nat × EnV)) (a : List EnV), (∀ p ∈ L, p.2.key.size < 2 ^ 60) → H6 a → H6 (L.foldl (fun acc p => T7 acc p.2) a) := by
  intro L
  induction L with
  | nil => intro a _ h; exact h
  | cons p L ih => intro a hL ha; rw [List.foldl_cons]; exact ih _ (fun q hq => hL q (List.mem_cons_of_mem _ hq)) (C0z ha (hL p (List.mem_cons_self ..)))
 exact this _ _ (fun p hp => h _ (B3g p hp).1) (B4s _)
theorem B6c {l : List EnV} (h : H6 l) : H6 (H0 l) := by
 unfold H0; split
 ·exact C03 h
 ·exact h
theorem B5V : P4.key.size < 2 ^ 60 := by simp [P4]
structure TabOk (n : Nat) (l : List EnV) : Prop where
 len : l.length = n
 few : n ≤ 64
 keys : H6 l
 right : U2 l = true
theorem TabOk.new {n : Nat} (h : n ≤ 64) : TabOk n (newE n) := ⟨by rw [A3W]; omega, h, B4s _, B3k _⟩
theorem TabOk.settle {n : Nat} {l : List EnV} (h : TabOk n l) : TabOk n (H0 l) := ⟨by rw [B8n (by rw [h.len]; exact h.few), h.len], h.few, B6c h.keys, B59 h.right⟩
theorem TabOk.tomb {n : Nat} {l : List EnV} {j : Nat} (h : TabOk n l) (hj : j < l.length) : TabOk n (l.set j P4) := ⟨by rw [List.length_set, h.len], h.few, A66 h.keys B5V, B81 hj h.right⟩
theorem TabOk.put {n : Nat} {l u : List EnV} {x : EnV} (h : TabOk n l) (hx : x.key.size < 2 ^ 60) (h1 : x.st = 1) (hp : F6 l x = some u) : TabOk n u :=
 ⟨by rw [A7j hp, h.len], h.few, by obtain ⟨j, _, rfl⟩ := B0g hp; exact A66 h.keys hx, B3S h1 hp h.right⟩
theorem TabOk.perm {n : Nat} {l : List EnV} (h : TabOk n l) : (D8 (H0 l)).Perm (D8 l) := B2N h.right (by rw [h.len]; exact h.few)
theorem A2J {l : List EnV} {key : ByteArray} (h : 0 ≤ D9 l key) : l[(D9 l key).toNat]? = some (W7 l key) ∧ (W7 l key).st = 1 ∧ (W7 l key).key = key := by
 obtain ⟨x, h1, h2, h3⟩ := B52 (l := l) (key := key) (j := (D9 l key).toNat) (by omega)
 have e : W7 l key = x := by unfold W7; rw [List.getD_eq_getElem?_getD, h1]; rfl
 rw [e]; exact ⟨h1, h2, h3⟩
theorem B96 {l u : List EnV} {key : ByteArray} (h : T8 l key = some u) : 0 ≤ D9 l key ∧ (D9 l key).toNat < l.length ∧ u = l.set (D9 l key).toNat P4 ∧ (W7 l key :: D8 u).Perm (D8 l) := by
 unfold T8 at h
 split at h
 ·cases h
 ·rename_i c
  injection h with h
  subst h
  have h0 : 0 ≤ D9 l key := by omega
  obtain ⟨h1, h2, h3⟩ := A2J h0
  have hs := A2N (x := P4) h1
  unfold A7B at hs
  rw [if_pos h2, if_neg (by simp [P4])] at hs
  exact ⟨h0, q5 h0, rfl, by simpa using hs⟩
theorem B8w {l u : List EnV} {x : EnV} (h1 : x.st = 1) (hp : F6 l x = some u) : (0 ≤ D9 l x.key ∧ (W7 l x.key :: D8 u).Perm (x :: D8 l)) ∨ (D9 l x.key < 0 ∧ (D8 u).Perm (x :: D8 l)) := by
 obtain ⟨j, hj, rfl, hf, hc⟩ := A8u hp h1
 have hj1 : l[j]? = some l[j] := List.getElem?_eq_getElem hj
 have hs := A2N (x := x) hj1
 unfold A7B at hs
 rw [if_pos h1] at hs
 rcases hc with hc | ⟨hc, hr⟩
 ·left
  have h0 : 0 ≤ D9 l x.key := by omega
  obtain ⟨e1, e2, e3⟩ := A2J h0
  have : (D9 l x.key).toNat = j := by omega
  rw [this, hj1] at e1
  injection e1 with e1
  rw [e1, if_pos e2] at hs
  exact ⟨h0, by simpa using hs⟩
 ·right
  refine ⟨hc, ?_⟩
  have hm : ∀ L, M5 L = (j : Nat) → ∃ y, (j, y) ∈ L ∧ y.st ≠ 1 := by
   intro L
   induction L with
   | nil => intro h; simp [M5] at h <;> omega
   | cons p L ih =>
    intro h
    simp only [M5] at h
    split at h
    ·obtain ⟨y, h1, h2⟩ := ih h; exact ⟨y, List.mem_cons_of_mem _ h1, h2⟩
    ·rename_i c2
     have : p.1 = j := by omega
     exact ⟨p.2, by rw [← this]; simp, c2⟩
  obtain ⟨y, h2, h3⟩ := hm _ hr
  have h4 := B0a h2
  rw [hj1] at h4
  injection h4 with h4
  rw [if_neg (by rw [h4]; exact h3)] at hs
  simpa using hs
structure Decided (l u : List EnV) (key : ByteArray) (made : Bool) : Prop where
 up : (D8 u).length ≤ (D8 l).length + 1
 down : (D8 l).length ≤ (D8 u).length + 1
 new : (D8 l).length < (D8 u).length → made = true
 from' : ∀ x ∈ D8 u, x ∈ D8 l ∨ x.key = key
theorem Decided.refl (l : List EnV) (key : ByteArray) (made : Bool) : Decided l l key made := ⟨by omega, by omega, by omega, fun x hx => Or.inl hx⟩
theorem B1m {l : List EnV} {p : List G5} {key : ByteArray} {now : Int} (h : D9 l key < 0) : (G1 l p key now).2 = false := by
 unfold G1; rw [if_pos (Or.inl h)]
theorem B7v {n : Nat} {l : List EnV} {p : List G5} {key : ByteArray} {closing : Bool} {now idle : Int} (h : TabOk n l) (hk : key.size < 2 ^ 60) :
  TabOk n (D7 l p key closing now idle).1 ∧ Decided l (D7 l p key closing now idle).1 key (D7 l p key closing now idle).2.1.made := by
 unfold D7
 split
 ·exact ⟨h, .refl _ _ _⟩
 ·split
  ·unfold A03
   cases hd : T8 l key with
   | none => exact ⟨h, .refl _ _ _⟩
   | some u =>
    obtain ⟨h0, hlt, rfl, hp⟩ := B96 hd
    have ht := h.tomb hlt
    have hp2 := (ht.perm.cons (W7 l key)).trans hp
    have hl := hp2.length_eq
    simp only [List.length_cons] at hl
    exact ⟨ht.settle, by simp only; omega, by simp only; omega, fun h => by simp only at h; omega, fun x hx => Or.inl (hp2.subset (List.mem_cons_of_mem _ hx))⟩
  ·cases hp : F6 l (A2s l p key now idle) with
   | none => exact ⟨h, .refl _ _ _⟩
   | some u =>
    refine ⟨h.put hk rfl hp, ?_⟩
    rcases B8w (x := A2s l p key now idle) rfl hp with ⟨h0, h1⟩ | ⟨h0, h1⟩
    ·have hl := h1.length_eq
     simp only [List.length_cons] at hl
     exact ⟨by simp only; omega, by simp only; omega, fun h => by simp only at h; omega, fun x hx => by
      rcases List.mem_cons.1 (h1.subset (List.mem_cons_of_mem _ hx)) with rfl | h2
      ·exact Or.inr rfl
      ·exact Or.inl h2⟩
    ·have hl := h1.length_eq
     simp only [List.length_cons] at hl
     exact ⟨by simp only; omega, by simp only; omega, fun h => by simp [B1m (p := p) (now := now) (show D9 l key < 0 from h0)], fun x hx => by
      rcases List.mem_cons.1 (h1.subset hx) with rfl | h2
      ·exact Or.inr rfl
      ·exact Or.inl h2⟩
def A1s (now : Int) (l u : List EnV) (k : Nat) : Prop := ∃ r, (r ++ D8 u).Perm (D8 l) ∧ (∀ x ∈ r, A0z x now = true) ∧ r.length = k
theorem A1s.trans {now : Int} {a b c : List EnV} {i j : Nat} (h : A1s now a b i) (h' : A1s now b c j) : A1s now a c (i + j) := by
 obtain ⟨r, h1, h2, h3⟩ := h
 obtain ⟨s, h4, h5, h6⟩ := h'
 refine ⟨r ++ s, ?_, ?_, by rw [List.length_append, h3, h6]⟩
 ·rw [List.append_assoc]; exact (h4.append_left r).trans h1
 ·intro x hx
  rcases List.mem_append.1 hx with hx | hx
  ·exact h2 x hx
  ·exact h5 x hx
theorem C11 {n : Nat} {l : List EnV} {now : Int} {c j : Nat} (h : TabOk n l) (hj : j < l.length) : TabOk n (P5 now (l, c) j).1 ∧ ∃ k, (P5 now (l, c) j).2 = c + k ∧ A1s now l (P5 now (l, c) j).1 k ∧ (∀ i x, (P5 now (l, c) j).1[i]? = some x → A0z x now = true → i ≠ j ∧ l[i]? = some x) := by
 have hj1 : l[j]? = some l[j] := List.getElem?_eq_getElem hj
 have hd : l.getD j W9 = l[j] := by rw [List.getD_eq_getElem?_getD, hj1]; rfl
 unfold P5
 simp only [hd]
 by_cases c1 : A0z l[j] now = true
 ·rw [if_pos c1]
  have hst : l[j].st = 1 := by unfold A0z at c1; simp at c1; exact c1.1
  have hs := A2N (x := P4) hj1
  unfold A7B at hs
  rw [if_pos hst, if_neg (by simp [P4])] at hs
  refine ⟨h.tomb hj, 1, rfl, ⟨[l[j]], by simpa using hs, by simpa using c1, rfl⟩, fun i x hx hdx => ?_⟩
  rcases getElem?_set_some hx with ⟨_, rfl⟩ | h2
  ·simp [A0z, P4] at hdx
  ·exact h2
 ·rw [if_neg c1]
  refine ⟨h, 0, rfl, ⟨[], by simp, by simp, rfl⟩, fun i x hx hdx => ⟨fun e => ?_, hx⟩⟩
  subst e
  rw [hj1] at hx
  injection hx with hx
  rw [hx] at c1
  exact c1 hdx
theorem C4a {n : Nat} {now : Int} : ∀ (L : List Nat) (l : List EnV) (c : Nat), TabOk n l → (∀ j ∈ L, j < n) → TabOk n (L.foldl (P5 now) (l, c)).1 ∧ ∃ k, (L.foldl (P5 now) (l, c)).2 = c + k ∧ A1s now l (L.foldl (P5 now) (l, c)).1 k ∧ (∀ i x, (L.foldl (P5 now) (l, c)).1[i]? = some x → A0z x now = true → i ∉ L ∧ l[i]? = some x) := by
 intro L
 induction L with
 | nil => intro l c h _; exact ⟨h, 0, rfl, ⟨[], by simp, by simp, rfl⟩, fun i x hx _ => ⟨by simp, hx⟩⟩
 | cons j L ih =>
  intro l c h hL
  obtain ⟨h1, k, h2, h3, h3'⟩ := C11 (now := now) (c := c) h (by rw [h.len]; exact hL j (List.mem_cons_self ..))
  obtain ⟨h4, k', h5, h6, h6'⟩ := ih (P5 now (l, c) j).1 (P5 now (l, c) j).2 h1 fun q hq => hL q (List.mem_cons_of_mem _ hq)
  rw [List.foldl_cons]
  refine ⟨h4, k + k', by rw [h5, h2]; omega, h3.trans h6, fun i x hx hd => ?_⟩
  obtain ⟨a, b⟩ := h6' i x hx hd
  obtain ⟨c, d⟩ := h3' i x b hd
  exact ⟨by simp [a, c], d⟩
theorem A1s.zero {now : Int} {l u : List EnV} (h : (D8 u).Perm (D8 l)) : A1s now l u 0 := ⟨[], h, by simp, rfl⟩
theorem C0c {f n m : Nat} (hm : 0 < m) : ∀ j ∈ M8 f n m, j < m := fun j hj => by
 unfold M8 at hj
 obtain ⟨i, _, rfl⟩ := List.mem_map.1 hj
 exact Nat.mod_lt _ hm
theorem C0Z {n : Nat} {l : List EnV} {f k now : Int} (h : TabOk n l) (hn : 0 < n) : TabOk n (E6 l f k now).1 ∧ A1s now l (E6 l f k now).1 (E6 l f k now).2.2 := by
 obtain ⟨h1, q, h2, h3⟩ : TabOk n (U9 l (G0 l f) (Q2 l k) now).1 ∧ ∃ q, (U9 l (G0 l f) (Q2 l k) now).2 = q ∧ A1s now l (U9 l (G0 l f) (Q2 l k) now).1 q := by
  obtain ⟨h1, q, h2, h3, _⟩ := C4a (now := now) (M8 (G0 l f) (Q2 l k) l.length) l 0 h (by rw [← h.len]; exact C0c (by rw [h.len]; exact hn))
  exact ⟨h1, q, by rw [Nat.zero_add] at h2; exact h2, h3⟩
 unfold E6
 simp only
 by_cases c : 0 < (U9 l (G0 l f) (Q2 l k) now).2
 ·rw [if_pos c]
  refine ⟨h1.settle, ?_⟩
  have := h3.trans (A1s.zero (now := now) h1.perm)
  rw [h2]; simpa using this
 ·rw [if_neg c]
  exact ⟨h1, by rw [h2]; exact h3⟩
structure Inv (c : CfgV) (s : MoS) : Prop where
 cfg : s.c = c
 ok : V3 c = true
 pool : N5 s.pool = 0
 sh : (s.tabs.length : Int) = c.sh
 tab : ∀ t ∈ s.tabs, TabOk c.cp.toNat t.1
 own : ∀ (i : Nat) t, s.tabs[i]? = some t → ∀ x ∈ D8 t.1, M0 x.key c.sh = i
theorem l7 {c : CfgV} (h : V3 c = true) : 1 ≤ c.wk ∧ c.wk ≤ 64 ∧ 1 ≤ c.sh ∧ c.sh ≤ 16 ∧ 1 ≤ c.cp ∧ c.cp ≤ 64 ∧ 0 ≤ c.idle ∧ c.idle ≤ 1000000 := by
 simp [V3, V2] at h; omega
theorem Inv.new {c : CfgV} (h : V3 c = true) : Inv c ⟨c, [], A2K c⟩ := by
 have hb := l7 h
 refine ⟨rfl, h, rfl, by simp [A2K]; omega, fun t ht => ?_, fun i t ht x hx => ?_⟩
 ·rw [A2K] at ht
  rw [(List.mem_replicate.1 ht).2]
  exact TabOk.new (by omega)
 ·have ht := List.mem_of_getElem? ht
  rw [A2K] at ht
  rw [(List.mem_replicate.1 ht).2, A2L] at hx
  cases hx
theorem C0M {key : ByteArray} {n : Int} (h : 1 ≤ n) : M0 key n < n.toNat := by
 unfold M0; rw [if_neg (by omega)]; exact Nat.mod_lt _ (by omega)
theorem Inv.set {c : CfgV} {s : MoS} (h : Inv c s) {i : Nat} {t u : List EnV × Nat} (ht : s.tabs[i]? = some t) (hu : TabOk c.cp.toNat u.1) (hf : ∀ x ∈ D8 u.1, x ∈ D8 t.1 ∨ M0 x.key c.sh = i) : Inv c { s with tabs := s.tabs.set i u } := by
 refine ⟨h.cfg, h.ok, h.pool, by rw [List.length_set]; exact h.sh, fun v hv => ?_, fun j v hv x hx => ?_⟩
 ·rcases List.mem_or_eq_of_mem_set hv with h1 | rfl
  ·exact h.tab v h1
  ·exact hu
 ·rcases getElem?_set_some hv with ⟨rfl, rfl⟩ | ⟨_, h2⟩
  ·rcases hf x hx with h1 | h1
   ·exact h.own j t ht x h1
   ·exact h1
  ·exact h.own j v h2 x hx
theorem Inv.at {c : CfgV} {s : MoS} (h : Inv c s) {i : Nat} (hi : i < c.sh.toNat) : s.tabs[i]? = some (s.tabs.getD i ([], 0)) := getD_some _ (by have := h.sh; omega)
theorem Inv.do' {c : CfgV} {s : MoS} (h : Inv c s) (o : OpV) (now : Int) : Inv c (S5 s o now).1 := by
 have hb := l7 h.ok
 obtain ⟨sc, sp, st⟩ := s
 obtain rfl : sc = c := h.cfg
 unfold S5
 split
 ·unfold S8
  simp only
  split
  ·exact h
  ·have hi := C0M (key := U6 (C3 o.packet).1) hb.2.2.1
   have hat := h.at hi
   have ht := h.tab _ (List.mem_of_getElem? hat)
   obtain ⟨h1, h2⟩ := B7v (p := sp) (closing := S0 (C3 o.packet).1 (C3 o.packet).2.1) (now := now) (idle := sc.idle) ht (A41 (C3 o.packet).1)
   exact h.set (u := (_, _)) hat h1 fun x hx => by
    rcases h2.from' x hx with h3 | h3
    ·exact Or.inl h3
    ·exact Or.inr (by rw [h3])
 split
 ·unfold A3S
  split
  ·rename_i hc
   exact ⟨h.cfg, h.ok, hc, h.sh, h.tab, h.own⟩
  ·exact h
 split
 ·unfold A02
  split
  ·exact h
  ·rename_i hc
   have hat := h.at (i := o.shard.toNat) (by have := h.sh; omega)
   have ht := h.tab _ (List.mem_of_getElem? hat)
   simp only
   obtain ⟨h1, h2⟩ := C0Z (f := (st.getD o.shard.toNat ([], 0)).2) (k := 4) (now := now) ht (by omega)
   refine h.set (u := (_, _)) hat h1 fun x hx => ?_
   obtain ⟨r, h3, _⟩ := h2
   exact Or.inl (h3.subset (List.mem_append_right _ hx))
 split
 ·exact h
 ·exact h
theorem Inv.ok2 {m : MoH} {c : CfgV} (h : Inv c m.st) : MoOk2 m := by
 have hb := l7 h.ok
 have hl : m.st.tabs.length = m.ts.length := by simp [MoH.st]
 have hsh := h.sh
 have hm : ∀ t ∈ m.ts, TabOk c.cp.toNat t.1.2 := fun t ht => h.tab (t.1.2, t.2) (List.mem_map.2 ⟨t, ht, rfl⟩)
 have hc : m.c = c := h.cfg
 have hp := h.pool
 refine ⟨⟨by omega, fun t ht => by rw [(hm t ht).len]; omega, fun t ht => (hm t ht).keys⟩, ?_, by rw [hc]; omega, by omega⟩
 have : m.st.pool = m.pool := rfl
 rw [this] at hp
 unfold N5 at hp
 split at hp
 ·rename_i hc; simp at hc; omega
 ·cases hp
end Go.Proofs.YtggakcpabomliaaGreat
namespace Go.Proofs.YtggakcpabomliaaGreat
open Go
def Y9 : KeyV := ⟨4, ByteArray.mk #[97, 98, 99, 100], ByteArray.mk #[101, 102, 103, 104], 1, 2, 17⟩
def wkC : CfgV := ⟨1, 1, 1, 5, 2⟩
theorem C4w : (M9 Y9 0).2 = 0 := by kernel_rfl
theorem C2b : C3 (M9 Y9 0).1 = (Y9, 0, 0) := by kernel_rfl
theorem A9Y : (M9 Y9 0).1.size < 2 ^ 40 := by
 rw [show (M9 Y9 0).1.size = 28 by kernel_rfl]; omega
theorem B78 : S0 Y9 0 = false := by kernel_rfl
theorem C5U : V3 wkC = true := by kernel_rfl
theorem C3z : V3 ⟨0, 0, 0, 0, 0⟩ = false := by kernel_rfl
theorem C2x (key : ByteArray) : M0 key 1 = 0 := by unfold M0; simp [Nat.mod_one]
theorem B5n (x : EnV) (key : ByteArray) : L8 [x] key = [(0, x)] := by unfold L8; simp [Nat.mod_one, List.range_succ]
theorem B7G (h : Nat) : A7T [(7, 1)] h = 7 := by
 have hm : ∀ x ∈ H5 (F9 [(7, 1)]), x.2 = 7 := fun x hx => by
  unfold H5 at hx
  have hx := (List.mergeSort_perm _ _).mem_iff.1 hx
  simp only [F9, n9, List.flatMap_cons, List.flatMap_nil, List.append_nil, List.mem_map] at hx
  obtain ⟨_, _, rfl⟩ := hx; rfl
 have hl : (H5 (F9 [(7, 1)])).length = 8 := by
  unfold H5; rw [List.length_mergeSort]; rfl
 unfold A7T A0v
 generalize H5 (F9 [(7, 1)]) = l at *
 rw [if_neg (by omega)]
 have hi : H3 (geP l h) 0 l.length % l.length < l.length := Nat.mod_lt _ (by omega)
 rw [List.getD_eq_getElem?_getD, List.getElem?_eq_getElem hi]
 exact hm _ (List.getElem_mem hi)
def wk0 : MoS := ⟨wkC, [], [([W9], 0)]⟩
def wk1 : MoS := ⟨wkC, [(7, 1)], [([W9], 0)]⟩
def wkE (now : Int) : EnV := ⟨1, U6 Y9, 7, now + 5⟩
def wk2 (now : Int) : MoS := ⟨wkC, [(7, 1)], [([wkE now], 0)]⟩
theorem B2v (s : MoS) (hs : s.c = wkC) (now : Int) : S8 s (M9 Y9 0).1 now = ({ s with tabs := s.tabs.set 0 ((D7 (s.tabs.getD 0 ([], 0)).1 s.pool (U6 Y9) false now 5).1, (s.tabs.getD 0 ([], 0)).2) }, (D7 (s.tabs.getD 0 ([], 0)).1 s.pool (U6 Y9) false now 5).2.1) := by
 unfold S8
 rw [C2b]
 simp only [hs, wkC, C2x, B78, ne_eq, not_true_eq_false, if_false]
 rfl
theorem B0S : D9 [W9] (U6 Y9) = -1 := by unfold D9; rw [B5n]; rfl
theorem B0k (now : Int) : D9 [wkE now] (U6 Y9) = 0 := by unfold D9; rw [B5n]; simp [H4, wkE]
theorem C9d : S8 wk0 (M9 Y9 0).1 0 = (wk0, ⟨11, 0, false, 0⟩) := by
 rw [B2v _ rfl]
 have : D7 [W9] [] (U6 Y9) false 0 5 = ([W9], ⟨11, 0, false, 0⟩, false) := by
  unfold D7 G1
  rw [B0S]; simp
 simp only [wk0, List.getD_cons_zero, this]
 rfl
theorem D0B : A3S wk0 [(7, 1)] = (wk1, ⟨0, 0, false, 0⟩) := by kernel_rfl
theorem B9y (now : Int) (l : List EnV) (h : D9 l (U6 Y9) = -1) : G1 l [(7, 1)] (U6 Y9) now = (0, false) := by
 unfold G1; rw [h]; simp
theorem C9g : S8 wk1 (M9 Y9 0).1 0 = (wk2 0, ⟨0, 7, true, 0⟩) := by
 rw [B2v _ rfl]
 have : D7 [W9] [(7, 1)] (U6 Y9) false 0 5 = ([wkE 0], ⟨0, 7, true, 0⟩, true) := by
  unfold D7 M6 A2s
  unfold F6 Q8
  simp only [M6, B9y 0 _ B0S, B0S, B5n, B7G]
  simp [M5, W9, wkE]
 simp only [wk1, List.getD_cons_zero, this]
 rfl
theorem B7g (at' now : Int) (h : now ≤ at' + 5) : G1 [wkE at'] [(7, 1)] (U6 Y9) now = (7, true) := by
 unfold G1 W7
 rw [B0k]
 have : V6 [(7, 1)] 7 = 0 := by kernel_rfl
 simp [wkE, this]
 omega
theorem B7S (at' now : Int) (h : at' + 5 < now) : G1 [wkE at'] [(7, 1)] (U6 Y9) now = (0, false) := by
 unfold G1 W7
 rw [B0k]
 simp [wkE, h]
theorem B48 (at' now : Int) (a : AnsV) (hk : M6 [wkE at'] [(7, 1)] (U6 Y9) now = 7) (ha : a = ⟨0, 7, !(G1 [wkE at'] [(7, 1)] (U6 Y9) now).2, 0⟩) (hw : IntKind.i64.wrap (now + 5) = now + 5) : S8 (wk2 at') (M9 Y9 0).1 now = (wk2 now, a) := by
 rw [B2v _ rfl]
 have : D7 [wkE at'] [(7, 1)] (U6 Y9) false now 5 = ([wkE now], a, true) := by
  unfold D7 A2s
  unfold F6
  rw [hk, hw]
  simp only [B0k]
  simp [wkE, ha]
 simp only [wk2, List.getD_cons_zero, this]
 rfl
theorem C99 : S8 (wk2 0) (M9 Y9 0).1 5 = (wk2 5, ⟨0, 7, false, 0⟩) :=
 B48 0 5 _ (by unfold M6; rw [B7g 0 5 (by omega)]; rfl) (by rw [B7g 0 5 (by omega)]; rfl) (by decide)
theorem D0Z : S8 (wk2 5) (M9 Y9 0).1 11 = (wk2 11, ⟨0, 7, true, 0⟩) :=
 B48 5 11 _ (by unfold M6; rw [B7S 5 11 (by omega)]; exact B7G _) (by rw [B7S 5 11 (by omega)]; rfl) (by decide)
theorem C9s : A7E (wk2 11) = (wk2 11, ⟨0, 0, false, 1⟩) := rfl
theorem D0G : C3 (ByteArray.mk #[]) = (noK, 0, 2) := by kernel_rfl
end Go.Proofs.YtggakcpabomliaaGreat
namespace Go.Proofs.YtggakcpabomliaaGreat
open Go
@[simp] theorem D0l (a b c d : Value) (K : Value → WP) : A2 PR (Instr.field 39 (.agg #[a, b, c, d]) 0) K = K a := C04 rfl K
section
variable {κ : Bool} {S : List Nat} {w0 w : World} {H Hk : List Res} {K : Value → WP}
theorem l2 {A B : List Res} : Part A (A ++ B) B := by
 induction A with
 | nil => exact Part.nil
 | cons r A ih => exact Part.cons Sel.here ih
theorem Part.skip {x : Res} {Hc : List Res} (h : Part Hc H Hk) : Part Hc (x :: H) (x :: Hk) := by
 induction h with
 | nil => exact Part.nil
 | cons h1 _ ih => exact Part.cons (Sel.there h1) ih
theorem A2D (s : MoS) (o : OpV) (now : Int) (h : o.kind = 0) : S5 s o now = S8 s o.packet now := by unfold S5; rw [if_pos h]
theorem B5z (s : MoS) (o : OpV) (now : Int) (h : o.kind = 1) : S5 s o now = A3S s o.pool := by unfold S5; rw [if_neg (by omega), if_pos h]
theorem C0U (s : MoS) (o : OpV) (now : Int) (h : o.kind = 2) : S5 s o now = A02 s o.shard now := by unfold S5; rw [if_neg (by omega), if_neg (by omega), if_pos h]
theorem B21 (s : MoS) (o : OpV) (now : Int) (h : o.kind = 3) : S5 s o now = A7E s := by unfold S5; rw [if_neg (by omega), if_neg (by omega), if_neg (by omega), if_pos h]
theorem B2x (s : MoS) (o : OpV) (now : Int) (h : o.kind < 0 ∨ 3 < o.kind) : S5 s o now = (s, ⟨1, 0, false, 0⟩) := by unfold S5; rw [if_neg (by omega), if_neg (by omega), if_neg (by omega), if_neg (by omega)]
theorem l8 {m : MoH} : PoolAt w m (.slice none 0 0) [] := ⟨Or.inl ⟨rfl, rfl, none, 0, rfl⟩, fun h => by simp at h, by simp, rfl, rfl⟩
theorem B79 {m : MoH} {v : Value} {p : List G5} {e : TypeId} (hw : LW κ S w0 (D0 m ++ Hk) w) (hm : Res.own e 2 v p.length (p.flatMap E8) ∈ Hk) (hl : p.length ≤ 1000) : PoolAt w m v p := by
 have h := hw.hold _ (List.mem_append_right _ hm)
 obtain ⟨a, c, e⟩ := P3.form h
 refine ⟨P3.rd h, fun _ g hg hf => ?_, hl, by rw [e]; rfl, by rw [e]; rfl⟩
 obtain ⟨s, hs, hbs⟩ := N9.1 hf
 exact (List.pairwise_append.1 hw.dis).2.2 s hs _ hm g hbs hg
theorem C2z {v : Value} {n : Nat} {xs : List Value} (h : E3 w v n xs) (hn : 0 < n → 0 < xs.length) : 0 < n → ∀ g ∈ L6 v, g < sz w := fun h0 g hg => by
 obtain ⟨a, c, rfl, hr⟩ := h.form
 obtain ⟨b, o, rfl, hrow⟩ := hr h0
 simp only [L6, List.mem_cons, List.not_mem_nil, or_false] at hg
 subst hg
 have h1 := hrow 0 (hn h0)
 rw [List.getElem?_eq_getElem (hn h0)] at h1
 obtain ⟨c', t', z', h1, h2⟩ := j7 h1
 exact K1 h1
theorem B1g {m : MoH} {v : Value} {p : List G5} (hw : LW κ [] w0 (D0 m ++ Hk) w) (h : E3 w0 v p.length (p.flatMap E8)) (hl : p.length ≤ 1000) : PoolAt w m v p := by
 refine ⟨h.ks hw.ks (by simp), fun h0 g hg hf => ?_, hl, by obtain ⟨a, c, e, _⟩ := h.form; rw [e]; exact ⟨rfl, rfl⟩⟩
 have h1 := C2z h (by rw [L0 (k := 2) fun _ => rfl]; omega) h0 g hg
 obtain ⟨s, hs, hbs⟩ := N9.1 hf
 rcases (hw.own s (List.mem_append_left _ hs) g hbs).1 with h2 | h2
 ·cases h2
 ·omega
theorem A5Y {m : MoH} {o : OpV} {v : Value} {now : Int} {c : CfgV} (r : MoS × AnsV) (hi : Inv c m.st) (hp : Part (D0 m) H Hk) (hpa : ∀ w, LW false S w0 (D0 m ++ Hk) w → PoolAt w m v o.pool) (hpk : o.packet.size < 2 ^ 40) (hr : S5 m.st o now = r)
  (hK : ∀ m' : MoH, m'.b = m.b → m'.st = r.1 → Inv c m'.st → TW false S w0 (D0 m' ++ Hk) (K r.2.val)) : TW false S w0 H (B2 PR B5 20 [.pointer (some ⟨m.b, 0, none⟩), o.val v, .int .i64 now] K) := by
 subst hr
 refine H7 (Hc := D0 m) A8e (fun w' hw hs => C7N w' m o v now (hpa w' hw) hpk hi.ok2 hs) hp ?_
 rintro m' _ ⟨rfl, hb, hst⟩
 exact hK m' hb hst (by rw [hst]; exact hi.do' o now)
theorem Inv.tabs {c : CfgV} {m : MoH} (hi : Inv c m.st) : ∀ t ∈ m.ts, TabOk c.cp.toNat t.1.2 := fun t ht => hi.tab (t.1.2, t.2) (List.mem_map.2 ⟨t, ht, rfl⟩)
theorem C4F {m : MoH} : M2 (m.ts.map (·.1)) ∈ D0 m := by simp [D0]
theorem C5D (hw : LW κ S w0 H w) {m : MoH} (hm : ∀ r ∈ D0 m, r ∈ H) : ∀ t ∈ m.ts, E3 w t.1.1 t.1.2.length (t.1.2.flatMap E1) := fun t ht =>
 r4 hw (hm _ C4F) (List.mem_map.2 ⟨t, ht, rfl⟩)
theorem C3G {m : MoH} : Res.pt m.b (.cells #[.int .i64 m.c.wk, .int .i64 m.c.sh, .int .i64 m.c.cp, .int .i64 m.c.idle, .int .i64 m.c.sl, m.pv, m.sv] 109) ∈ D0 m := A0
theorem C6J (hw : LW κ S w0 H w) {m : MoH} (hm : ∀ r ∈ D0 m, r ∈ H) : w.cell? ⟨m.b, 5, none⟩ = some m.pv := hw.cell (hm _ C3G) rfl
theorem C7U (hw : LW κ S w0 H w) {m : MoH} (hm : ∀ r ∈ D0 m, r ∈ H) : w.cell? ⟨m.b, 6, none⟩ = some m.sv := hw.cell (hm _ C3G) rfl
theorem C7m (hw : LW κ S w0 H w) {m : MoH} (hm : ∀ r ∈ D0 m, r ∈ H) : E3 w m.pv m.pool.length (m.pool.flatMap E8) := P3.rd (hw.hold _ (hm _ (A1 A0)))
theorem C62 (hw : LW κ S w0 H w) {m : MoH} (hm : ∀ r ∈ D0 m, r ∈ H) : E3 w m.sv m.ts.length (m.ts.flatMap G6) := P3.rd (hw.hold _ (hm _ (A1 (A1 A0))))
theorem B2L {m : MoH} {i : Int} {c : CfgV} (hi : Inv c m.st) (hp : Part (D0 m) H Hk) (hK : ∀ r, TW false S w0 (F2 r (j6 m.ts i) :: (D0 m ++ Hk)) (K r)) : TW false S w0 H (B2 PR B5 25 [.pointer (some ⟨m.b, 0, none⟩), .int .i64 i] K) := by
 have hb := l7 hi.ok
 have hsh := hi.sh
 have hl : m.st.tabs.length = m.ts.length := by simp [MoH.st]
 refine TW.perm ?_ hp.perm
 refine F8 A6S (fun w' hw' => C09 w' m.b m.sv m.ts i (by omega) (C7U hw' fun r hr => List.mem_append_left _ hr) (C62 hw' fun r hr => List.mem_append_left _ hr) (C5D hw' fun r hr => List.mem_append_left _ hr)
  fun t ht => by rw [(hi.tabs t ht).len]; omega) ?_
 intro r v hv
 subst hv
 exact hK _
theorem C06 {m : MoH} {c : CfgV} (hi : Inv c m.st) (hp : Part (D0 m) H Hk) (hK : ∀ r, TW false S w0 (.own 103 2 r m.pool.length (m.pool.flatMap E8) :: (D0 m ++ Hk)) (K r)) : TW false S w0 H (B2 PR B5 23 [.pointer (some ⟨m.b, 0, none⟩)] K) := by
 refine TW.perm ?_ hp.perm
 refine F8 A7Z (fun w' hw' => C1r w' m.b m.pv m.pool (by have := hi.ok2.pool; omega) (C6J hw' fun r hr => List.mem_append_left _ hr) (C7m hw' fun r hr => List.mem_append_left _ hr)) ?_
 intro r v hv
 subst hv
 exact hK _
theorem B7m {c : CfgV} (h0 : V3 c = false → TW false S w0 H (K (.tuple #[.pointer none, .int .i64 1])))
  (h1 : ∀ m : MoH, V3 c = true → m.st = ⟨c, [], A2K c⟩ → Inv c m.st → TW false S w0 (D0 m ++ H) (K (.tuple #[.pointer (some ⟨m.b, 0, none⟩), .int .i64 0]))) : TW false S w0 H (B2 PR B5 16 [c.val] K) := by
 refine F8 B4L (fun w' _ => C4V w' c) ?_
 rintro m u hm
 cases hc : V3 c with
 | false =>
  simp only [hc, Bool.false_eq_true, if_false] at hm ⊢
  subst hm
  exact h0 hc
 | true =>
  simp only [hc, if_true] at hm ⊢
  obtain ⟨rfl, hmc, hmp, hmt⟩ := hm
  have e : m.st = ⟨c, [], A2K c⟩ := by unfold MoH.st; rw [hmc, hmp, hmt]
  exact h1 m hc e (by rw [e]; exact Inv.new hc)
end
end Go.Proofs.YtggakcpabomliaaGreat
namespace Go.Proofs.YtggakcpabomliaaGreat
open Go
theorem B82 (w : World) : Fn PR B5 14 #[] w (fun v w' => v = .bool true ∧ C0 [] w w') := by
 refine Fn.pure (A4G (TW.go (κ := false) (S := []) ?_))
 unfold v7
 (have hQq := trivial; repeat ((first | clear hQq | (with_reducible first | refine A3 ?_ | refine A4 fun _ => ?_ | refine A5 fun _ => ?_)); (try simp (disch := first | omega | assumption | ((repeat (first | exact A0 | exact Up.here | apply A1 | apply Up.there)); first | done | fail) | (simp; first | done | omega | fail)) [])))
 rename_i bc
 refine B7m (c := wkC) (fun h => by rw [C5U] at h; cases h) fun m _ hst hi => ?_
 (have hQq := trivial; repeat ((first | clear hQq | (with_reducible first | refine A3 ?_ | refine A4 fun _ => ?_ | refine A5 fun _ => ?_)); (try simp (disch := first | omega | assumption | ((repeat (first | exact A0 | exact Up.here | apply A1 | apply Up.there)); first | done | fail) | (simp; first | done | omega | fail)) [])))
 refine B7m (c := ⟨0, 0, 0, 0, 0⟩) (fun _ => ?_) (fun _ h => by rw [C3z] at h; cases h)
 (have hQq := trivial; repeat ((first | clear hQq | (with_reducible first | refine A3 ?_ | refine A4 fun _ => ?_ | refine A5 fun _ => ?_)); (try simp (disch := first | omega | assumption | ((repeat (first | exact A0 | exact Up.here | apply A1 | apply Up.there)); first | done | fail) | (simp; first | done | omega | fail)) [])))
 refine B7 B2c (fun w' _ => B41 w' Y9 0) ?_
 rw [C4w]
 (have hQq := trivial; repeat ((first | clear hQq | (with_reducible first | refine A3 ?_ | refine A4 fun _ => ?_ | refine A5 fun _ => ?_)); (try simp (disch := first | omega | assumption | ((repeat (first | exact A0 | exact Up.here | apply A1 | apply Up.there)); first | done | fail) | (simp; first | done | omega | fail)) [])))
 refine A5Y (o := ⟨0, (M9 Y9 0).1, [], 0⟩) (wk0, ⟨11, 0, false, 0⟩) hi (by ((repeat (first | exact l2 | apply Part.skip)); first | done | fail)) (fun _ _ => l8) A9Y (by rw [hst, A2D _ _ _ rfl]; exact C9d) fun m1 hb1 hst1 hi1 => ?_
 rw [← hb1]
 clear hst hi hb1
 (have hQq := trivial; repeat ((first | clear hQq | (with_reducible first | refine A3 ?_ | refine A4 fun _ => ?_ | refine A5 fun _ => ?_ | refine D4 fun _ => ?_ | refine D3 (hK := fun _ => ?_) | refine D1 (hK := fun _ => ?_) | refine D2 (hK := fun _ => ?_) | refine D6 (hK := fun _ => ?_) | refine D5 (hK := fun _ => ?_))); (try simp (disch := first | omega | assumption | ((repeat (first | exact A0 | exact Up.here | apply A1 | apply Up.there)); first | done | fail) | (simp; first | done | omega | fail)) [AnsV.val])))
 refine A5Y (o := ⟨1, P6, [(7, 1)], 0⟩) (wk1, ⟨0, 0, false, 0⟩) hi1 (by ((repeat (first | exact l2 | apply Part.skip)); first | done | fail)) (fun _ h => B79 (p := [(7, 1)]) h A0 (by decide)) (by simp) (by rw [hst1, B5z _ _ _ rfl]; exact D0B) fun m2 hb2 hst2 hi2 => ?_
 rw [← hb2]
 clear hst1 hi1 hb2
 (have hQq := trivial; repeat ((first | clear hQq | (with_reducible first | refine A3 ?_ | refine A4 fun _ => ?_ | refine A5 fun _ => ?_)); (try simp (disch := first | omega | assumption | ((repeat (first | exact A0 | exact Up.here | apply A1 | apply Up.there)); first | done | fail) | (simp; first | done | omega | fail)) [AnsV.val])))
 refine A5Y (o := ⟨0, (M9 Y9 0).1, [], 0⟩) (wk2 0, ⟨0, 7, true, 0⟩) hi2 (by ((repeat (first | exact l2 | apply Part.skip)); first | done | fail)) (fun _ _ => l8) A9Y (by rw [hst2, A2D _ _ _ rfl]; exact C9g) fun m1 hb1 hst1 hi1 => ?_
 rw [← hb1]
 clear hst2 hi2 hb1
 (have hQq := trivial; repeat ((first | clear hQq | (with_reducible first | refine A3 ?_ | refine A4 fun _ => ?_ | refine A5 fun _ => ?_)); (try simp (disch := first | omega | assumption | ((repeat (first | exact A0 | exact Up.here | apply A1 | apply Up.there)); first | done | fail) | (simp; first | done | omega | fail)) [AnsV.val])))
 refine A5Y (o := ⟨0, (M9 Y9 0).1, [], 0⟩) (wk2 5, ⟨0, 7, false, 0⟩) hi1 (by ((repeat (first | exact l2 | apply Part.skip)); first | done | fail)) (fun _ _ => l8) A9Y (by rw [hst1, A2D _ _ _ rfl]; exact C99) fun m2 hb2 hst2 hi2 => ?_
 rw [← hb2]
 clear hst1 hi1 hb2
 (have hQq := trivial; repeat ((first | clear hQq | (with_reducible first | refine A3 ?_ | refine A4 fun _ => ?_ | refine A5 fun _ => ?_)); (try simp (disch := first | omega | assumption | ((repeat (first | exact A0 | exact Up.here | apply A1 | apply Up.there)); first | done | fail) | (simp; first | done | omega | fail)) [AnsV.val])))
 refine A5Y (o := ⟨0, (M9 Y9 0).1, [], 0⟩) (wk2 11, ⟨0, 7, true, 0⟩) hi2 (by ((repeat (first | exact l2 | apply Part.skip)); first | done | fail)) (fun _ _ => l8) A9Y (by rw [hst2, A2D _ _ _ rfl]; exact D0Z) fun m1 hb1 hst1 hi1 => ?_
 rw [← hb1]
 clear hst2 hi2 hb1
 (have hQq := trivial; repeat ((first | clear hQq | (with_reducible first | refine A3 ?_ | refine A4 fun _ => ?_ | refine A5 fun _ => ?_)); (try simp (disch := first | omega | assumption | ((repeat (first | exact A0 | exact Up.here | apply A1 | apply Up.there)); first | done | fail) | (simp; first | done | omega | fail)) [AnsV.val])))
 refine A5Y (o := ⟨3, P6, [], 0⟩) (wk2 11, ⟨0, 0, false, 1⟩) hi1 (by ((repeat (first | exact l2 | apply Part.skip)); first | done | fail)) (fun _ _ => l8) (by simp) (by rw [hst1, B21 _ _ _ rfl]; exact C9s) fun m2 hb2 hst2 hi2 => ?_
 rw [← hb2]
 clear hst1 hi1 hb2
 simp only [D0, List.cons_append, List.nil_append]
 (have hQq := trivial; repeat ((first | clear hQq | (with_reducible first | refine A3 ?_ | refine A4 fun _ => ?_ | refine A5 fun _ => ?_)); (try simp (disch := first | omega | assumption | ((repeat (first | exact A0 | exact Up.here | apply A1 | apply Up.there)); first | done | fail) | (simp; first | done | omega | fail)) [AnsV.val])))
 refine C06 hi2 (by simp only [D0]; ((repeat (first | exact Part.nil | (apply Part.cons; · ((repeat (first | exact A0 | exact Up.here | exact Sel.here | apply A1 | apply Up.there | apply Sel.there)); first | done | fail)))); first | done | fail)) fun r => ?_
 obtain ⟨hp2, va, hts⟩ : m2.pool = [(7, 1)] ∧ ∃ a, m2.ts = [((a, [wkE 11]), 0)] := by
  have := hst2; unfold MoH.st wk2 at this; simp at this; exact this.2
 have e0 : j6 m2.ts 0 = [wkE 11] := by simp [j6, hts]
 have e1 : j6 m2.ts 1 = [] := by simp [j6, hts]
 rw [hp2]
 simp only [D0, List.cons_append, List.nil_append]
 refine V5 (by ((repeat (first | exact A0 | exact Up.here | exact Sel.here | apply A1 | apply Up.there | apply Sel.there)); first | done | fail)) fun ra rc hr => ?_
 subst hr
 (have hQq := trivial; repeat ((first | clear hQq | (with_reducible first | refine A3 ?_ | refine A4 fun _ => ?_ | refine A5 fun _ => ?_)); (try simp (disch := first | omega | assumption | ((repeat (first | exact A0 | exact Up.here | apply A1 | apply Up.there)); first | done | fail) | (simp; first | done | omega | fail)) [])))
 refine B2L hi2 (by simp only [D0]; ((repeat (first | exact Part.nil | (apply Part.cons; · ((repeat (first | exact A0 | exact Up.here | exact Sel.here | apply A1 | apply Up.there | apply Sel.there)); first | done | fail)))); first | done | fail)) fun r => ?_
 rw [e0]
 simp only [D0, List.cons_append, List.nil_append]
 refine V5 (by ((repeat (first | exact A0 | exact Up.here | exact Sel.here | apply A1 | apply Up.there | apply Sel.there)); first | done | fail)) fun ra rc hr => ?_
 subst hr
 (have hQq := trivial; repeat ((first | clear hQq | (with_reducible first | refine A3 ?_ | refine A4 fun _ => ?_ | refine A5 fun _ => ?_)); (try simp (disch := first | omega | assumption | ((repeat (first | exact A0 | exact Up.here | apply A1 | apply Up.there)); first | done | fail) | (simp; first | done | omega | fail)) [])))
 refine B2L hi2 (by simp only [D0]; ((repeat (first | exact Part.nil | (apply Part.cons; · ((repeat (first | exact A0 | exact Up.here | exact Sel.here | apply A1 | apply Up.there | apply Sel.there)); first | done | fail)))); first | done | fail)) fun r => ?_
 rw [e1]
 simp only [D0, List.cons_append, List.nil_append]
 refine V5 (by ((repeat (first | exact A0 | exact Up.here | exact Sel.here | apply A1 | apply Up.there | apply Sel.there)); first | done | fail)) fun ra rc hr => ?_
 subst hr
 (have hQq := trivial; repeat ((first | clear hQq | (with_reducible first | refine A3 ?_ | refine A4 fun _ => ?_ | refine A5 fun _ => ?_)); (try simp (disch := first | omega | assumption | ((repeat (first | exact A0 | exact Up.here | apply A1 | apply Up.there)); first | done | fail) | (simp; first | done | omega | fail)) [])))
 refine A5Y (o := ⟨0, P6, [], 0⟩) (wk2 11, ⟨9, 0, false, 0⟩) hi2 (by simp only [D0]; ((repeat (first | exact Part.nil | (apply Part.cons; · ((repeat (first | exact A0 | exact Up.here | exact Sel.here | apply A1 | apply Up.there | apply Sel.there)); first | done | fail)))); first | done | fail)) (fun _ _ => l8) (by simp) (by rw [hst2, A2D _ _ _ rfl]; unfold S8; rw [D0G]; rfl) fun m1 hb1 hst1 hi1 => ?_
 rw [← hb1]
 (have hQq := trivial; repeat ((first | clear hQq | (with_reducible first | refine A3 ?_ | refine A4 fun _ => ?_ | refine A5 fun _ => ?_)); (try simp (disch := first | omega | assumption | ((repeat (first | exact A0 | exact Up.here | apply A1 | apply Up.there)); first | done | fail) | (simp; first | done | omega | fail)) [AnsV.val])))
 refine A5Y (o := ⟨9, P6, [], 0⟩) (wk2 11, ⟨1, 0, false, 0⟩) hi1 (by ((repeat (first | exact l2 | apply Part.skip)); first | done | fail)) (fun _ _ => l8) (by simp) (by rw [hst1, B2x _ _ _ (Or.inr (by decide))]) fun m2 hb2 hst2 hi2 => ?_
 (have hQq := trivial; repeat ((first | clear hQq | (with_reducible first | refine A3 ?_ | refine A4 fun _ => ?_ | refine A5 fun _ => ?_)); (try simp (disch := first | omega | assumption | ((repeat (first | exact A0 | exact Up.here | apply A1 | apply Up.there)); first | done | fail) | (simp; first | done | omega | fail)) [AnsV.val])))
 exact A9 rfl
end Go.Proofs.YtggakcpabomliaaGreat
namespace Go.Proofs.YtggakcpabomliaaGreat
open Go
def x7 (X : Nat → Prop) (t0 : Value) (R : Value → WP) : WP :=
 B1 PR X (Instr.box 23 t0) fun t1 =>
 jn (n := 1) (fun t2 =>
 R (.int .i64 1)) fun J1 =>
 A2 PR (Instr.fieldAt 23 t1 0) fun t3 =>
 A6 PR (Instr.loadAt 3 t3) fun t4 =>
 B2 PR X 58 [t4, (.int .i64 1), (.int .i64 64)] fun t5 =>
 gj t5 true (fun J => A2 PR (Instr.fieldAt 23 t1 1) J) fun t7 =>
 gj t5 true (fun J => A6 PR (Instr.loadAt 3 t7) J) fun t8 =>
 gj t5 true (fun J => B2 PR X 58 [t8, (.int .i64 1), (.int .i64 16)] J) fun t9 =>
 A2 PR (do pure (if ← asBool t5 then t9 else (.bool false))) fun t10 =>
 gj t10 true (fun J => A2 PR (Instr.fieldAt 23 t1 2) J) fun t12 =>
 gj t10 true (fun J => A6 PR (Instr.loadAt 3 t12) J) fun t13 =>
 gj t10 true (fun J => B2 PR X 58 [t13, (.int .i64 1), (.int .i64 64)] J) fun t14 =>
 A2 PR (do pure (if ← asBool t10 then t14 else (.bool false))) fun t15 =>
 gj t15 true (fun J => A2 PR (Instr.fieldAt 23 t1 3) J) fun t17 =>
 gj t15 true (fun J => A6 PR (Instr.loadAt 3 t17) J) fun t18 =>
 gj t15 true (fun J => B2 PR X 58 [t18, (.int .i64 0), (.int .i64 1000000)] J) fun t19 =>
 A2 PR (do pure (if ← asBool t15 then t19 else (.bool false))) fun t20 =>
 gj t20 true (fun J => A2 PR (Instr.fieldAt 23 t1 4) J) fun t22 =>
 gj t20 true (fun J => A6 PR (Instr.loadAt 3 t22) J) fun t23 =>
 gj t20 true (fun J => B2 PR X 58 [t23, (.int .i64 2), (.int .i64 8)] J) fun t24 =>
 A2 PR (do pure (if ← asBool t20 then t24 else (.bool false))) fun t25 =>
 B6 t25 (
 R (.int .i64 0)) (
 J1 (.int .i64 0))
theorem r6 : B0 PR 17 := A8 Tryz.func17 (by kernel_rfl) rfl
theorem A4L {X : Nat → Prop} {t0 : Value} {R : Value → WP} {w : World} (h : x7 X t0 R w) : Fn PR X 17 #[t0] w R := C7 (args := [t0]) mixed Tryz.func17 (by kernel_rfl) h
def A1C (X : Nat → Prop) (t0 : Value) (R : Value → WP) : WP :=
 B1 PR X (Instr.box 23 t0) fun t1 =>
 B1 PR X (Instr.alloc 36 true (.tuple #[])) fun t2 =>
 drw <|
 kt (n := 1) (fun t3 =>
 jn (n := 1) (fun t4 =>
 A6 PR (Instr.loadAt 36 t3) fun t24 =>
 B4 PR X (Instr.storeAt 36 t2 t24) <|
 A6 PR (E0 [.c 36 t2]) R) fun J1 =>
 lp (n := 1) (fun L2 t4_1 =>
 jn (n := 0) (
 jn (n := 0) (
 A2 PR (binOp .add 3 t4_1 (.int .i64 1)) fun t15 =>
 L2 t15) fun J3 =>
 drw <|
 A2 PR (Instr.fieldAt 36 t3 2) fun t16 =>
 A6 PR (Instr.loadAt 33 t16) fun t17 =>
 A2 PR (Instr.fieldAt 23 t1 2) fun t18 =>
 A6 PR (Instr.loadAt 3 t18) fun t19 =>
 B2 PR X 60 [t19] fun t20 =>
 watch PR [(none, (Instr.loadAt 33 t16), t17)] <|
 B1 PR X (Instr.buildSlice 33 1 #[(0, t20)]) fun t21 =>
 watch PR [(none, (Instr.loadAt 33 t16), t17)] <|
 B1 PR X (A7 .append #[33, 33] 33 [t17, t21]) fun t22 =>
 A2 PR (Instr.fieldAt 36 t3 2) fun t23 =>
 B4 PR X (Instr.storeAt 33 t23 t22) <|
 J3) fun J4 =>
 A2 PR (Instr.fieldAt 23 t1 1) fun t11 =>
 A6 PR (Instr.loadAt 3 t11) fun t12 =>
 A2 PR (binOp .lss 3 t4_1 t12) fun t13 =>
 B6 t13 (
 J4) (
 J1 t4_1)) (.int .i64 0)) fun C5 =>
 A6 PR (Instr.loadAt 23 t1) fun t5_1 =>
 A2 PR (Instr.fieldAt 23 t1 1) fun t6_1 =>
 A6 PR (Instr.loadAt 3 t6_1) fun t7_1 =>
 both (B1 PR X (Instr.makeSlice 34 t7_1 t7_1) fun t8_2 =>
 watch PR [(none, (Instr.loadAt 23 t1), t5_1)] <|
 A2 PR (Instr.build 36 #[(0, t5_1), (3, t8_2)]) fun t9_2 =>
 B1 PR X (Instr.alloc 36 true (.tuple #[])) fun t3_2 =>
 watch PR [(none, (Instr.loadAt 23 t1), t5_1)] <|
 B4 PR X (Instr.storeAt 36 t3_2 t9_2) <|
 C5 t3_2) (both (B1 PR X (Instr.alloc 36 true (.tuple #[])) fun t3_1 =>
 watch PR [(none, (Instr.loadAt 3 t6_1), t7_1), (none, (Instr.loadAt 23 t1), t5_1)] <|
 B1 PR X (Instr.makeSlice 34 t7_1 t7_1) fun t8_1 =>
 watch PR [(none, (Instr.loadAt 23 t1), t5_1)] <|
 A2 PR (Instr.build 36 #[(0, t5_1), (3, t8_1)]) fun t9_1 =>
 B4 PR X (Instr.storeAt 36 t3_1 t9_1) <|
 C5 t3_1) ((fun _ => True)))
theorem A5a : B0 PR 19 := A8 Tryz.func19 (by kernel_rfl) rfl
theorem A61 {X : Nat → Prop} {t0 : Value} {R : Value → WP} {w : World} (h : A1C X t0 R w) : Fn PR X 19 #[t0] w R := C7 (args := [t0]) mixed Tryz.func19 (by kernel_rfl) h
def H9 (X : Nat → Prop) (t0 t1 t2 : Value) (R : Value → WP) : WP :=
 B1 PR X (Instr.box 36 t0) fun t3 =>
 B1 PR X (Instr.box 42 t1) fun t4 =>
 B1 PR X (Instr.alloc 36 true (.tuple #[])) fun t6 =>
 B1 PR X (Instr.alloc 39 true (.tuple #[])) fun t7 =>
 jn (n := 0) (
 A6 PR (Instr.loadAt 36 t3) fun t146 =>
 A2 PR (Instr.build 39 #[(0, (.int .i64 1))]) fun t147 =>
 B4 PR X (Instr.storeAt 36 t6 t146) <|
 B4 PR X (Instr.storeAt 39 t7 t147) <|
 A6 PR (E0 [.c 36 t6, .c 39 t7]) R) fun J1 =>
 A2 PR (Instr.fieldAt 42 t4 0) fun t17 =>
 A6 PR (Instr.loadAt 3 t17) fun t18 =>
 A2 PR (binOp .eql 3 t18 (.int .i64 0)) fun t20 =>
 B6 t20 (
 A2 PR (Instr.fieldAt 42 t4 1) fun t21 =>
 A6 PR (Instr.loadAt 9 t21) fun t22 =>
 A2 PR (Instr.fieldAt 36 t3 0) fun t23 =>
 A2 PR (Instr.fieldAt 23 t23 1) fun t24 =>
 A6 PR (Instr.loadAt 3 t24) fun t25 =>
 B2 PR X 65 [t22, t25] fun t26 =>
 B1 PR X (Instr.alloc 119 true (.tuple #[])) fun t8 =>
 B4 PR X (Instr.storeAt 119 t8 t26) <|
 jn (n := 0) (
 drw <|
 kt (n := 2) (fun t10 t9 =>
 drw <|
 A6 PR (Instr.loadAt 36 t3) fun t54 =>
 A2 PR (Instr.fieldAt 119 t8 1) fun t55 =>
 A6 PR (Instr.loadAt 3 t55) fun t56 =>
 A6 PR (Instr.loadAt 39 t10) fun t59 =>
 B2 PR X 66 [t54, t56, t9] fun t58 =>
 watch PR [(none, (Instr.loadAt 39 t10), t59)] <|
 B4 PR X (Instr.storeAt 36 t6 t58) <|
 watch PR [(none, (Instr.loadAt 39 t10), t59)] <|
 B4 PR X (Instr.storeAt 39 t7 t59) <|
 A6 PR (E0 [.c 36 t6, .c 39 t7]) R) fun C2 =>
 A2 PR (Instr.fieldAt 36 t3 2) fun t35_1 =>
 A6 PR (Instr.loadAt 33 t35_1) fun t36_1 =>
 A2 PR (Instr.fieldAt 119 t8 1) fun t37_1 =>
 A6 PR (Instr.loadAt 3 t37_1) fun t38_1 =>
 A2 PR (Instr.indexAt 33 t36_1 t38_1) fun t39_1 =>
 A6 PR (Instr.loadAt 50 t39_1) fun t40_1 =>
 A2 PR (Instr.fieldAt 36 t3 1) fun t41_1 =>
 A6 PR (Instr.loadAt 32 t41_1) fun t42_1 =>
 A2 PR (Instr.fieldAt 119 t8 0) fun t43_1 =>
 A6 PR (Instr.loadAt 9 t43_1) fun t44_1 =>
 A2 PR (Instr.fieldAt 119 t8 2) fun t45_1 =>
 A6 PR (Instr.loadAt 4 t45_1) fun t46_1 =>
 A2 PR (Instr.fieldAt 36 t3 0) fun t48_1 =>
 A2 PR (Instr.fieldAt 23 t48_1 3) fun t49_1 =>
 A6 PR (Instr.loadAt 3 t49_1) fun t50_1 =>
 both (B2 PR X 28 [t40_1, t42_1, t44_1, t46_1, t2, t50_1] fun t51_2 =>
 A2 PR (Instr.extract t51_2 0) fun t52_2 =>
 A2 PR (Instr.extract t51_2 1) fun t53_2 =>
 B1 PR X (Instr.alloc 39 true (.tuple #[])) fun t10_2 =>
 B4 PR X (Instr.storeAt 39 t10_2 t53_2) <|
 C2 t10_2 t52_2) (both (B1 PR X (Instr.alloc 39 true (.tuple #[])) fun t10_1 =>
 watch PR [(none, (Instr.loadAt 3 t49_1), t50_1), (none, (Instr.loadAt 4 t45_1), t46_1), (none, (Instr.loadAt 9 t43_1), t44_1), (none, (Instr.loadAt 32 t41_1), t42_1), (none, (Instr.loadAt 50 t39_1), t40_1), (none, (Instr.loadAt 3 t37_1), t38_1), (none, (Instr.loadAt 33 t35_1), t36_1)] <|
 B2 PR X 28 [t40_1, t42_1, t44_1, t46_1, t2, t50_1] fun t51_1 =>
 A2 PR (Instr.extract t51_1 0) fun t52_1 =>
 A2 PR (Instr.extract t51_1 1) fun t53_1 =>
 B4 PR X (Instr.storeAt 39 t10_1 t53_1) <|
 C2 t10_1 t52_1) ((fun _ => True)))) fun J3 =>
 A2 PR (Instr.fieldAt 119 t8 3) fun t27 =>
 A6 PR (Instr.loadAt 28 t27) fun t28 =>
 A2 PR (binOp .neq 28 t28 (.int .i64 0)) fun t29 =>
 B6 t29 (
 drw <|
 A6 PR (Instr.loadAt 36 t3) fun t30 =>
 A2 PR (Instr.fieldAt 119 t8 3) fun t31 =>
 A6 PR (Instr.loadAt 28 t31) fun t32 =>
 A2 PR (Instr.build 39 #[(0, t32)]) fun t33 =>
 B4 PR X (Instr.storeAt 36 t6 t30) <|
 watch PR [(none, (Instr.loadAt 28 t31), t32)] <|
 B4 PR X (Instr.storeAt 39 t7 t33) <|
 A6 PR (E0 [.c 36 t6, .c 39 t7]) R) (
 J3)) (
 A2 PR (binOp .eql 3 t18 (.int .i64 1)) fun t61 =>
 B6 t61 (
 A2 PR (Instr.fieldAt 42 t4 2) fun t62 =>
 A6 PR (Instr.loadAt 32 t62) fun t63 =>
 B2 PR X 67 [t63] fun t64 =>
 jn (n := 0) (
 A2 PR (Instr.fieldAt 42 t4 2) fun t70 =>
 A6 PR (Instr.loadAt 32 t70) fun t71 =>
 A2 PR (Instr.fieldAt 36 t3 1) fun t72 =>
 B4 PR X (Instr.storeAt 32 t72 t71) <|
 A6 PR (Instr.loadAt 36 t3) fun t73 =>
 A2 PR (Instr.build 39 #[]) fun t74 =>
 B4 PR X (Instr.storeAt 36 t6 t73) <|
 B4 PR X (Instr.storeAt 39 t7 t74) <|
 A6 PR (E0 [.c 36 t6, .c 39 t7]) R) fun J4 =>
 A2 PR (binOp .neq 28 t64 (.int .i64 0)) fun t66 =>
 B6 t66 (
 A6 PR (Instr.loadAt 36 t3) fun t67 =>
 A2 PR (Instr.build 39 #[(0, t64)]) fun t69 =>
 B4 PR X (Instr.storeAt 36 t6 t67) <|
 B4 PR X (Instr.storeAt 39 t7 t69) <|
 A6 PR (E0 [.c 36 t6, .c 39 t7]) R) (
 J4)) (
 A2 PR (binOp .eql 3 t18 (.int .i64 2)) fun t76 =>
 B6 t76 (
 jn (n := 0) (
 drw <|
 A2 PR (Instr.fieldAt 36 t3 2) fun t91 =>
 A6 PR (Instr.loadAt 33 t91) fun t92 =>
 A2 PR (Instr.fieldAt 42 t4 3) fun t93 =>
 A6 PR (Instr.loadAt 3 t93) fun t94 =>
 A2 PR (Instr.indexAt 33 t92 t94) fun t95 =>
 A6 PR (Instr.loadAt 50 t95) fun t96 =>
 A2 PR (Instr.fieldAt 36 t3 3) fun t97 =>
 A6 PR (Instr.loadAt 34 t97) fun t98 =>
 A2 PR (Instr.fieldAt 42 t4 3) fun t99 =>
 A6 PR (Instr.loadAt 3 t99) fun t100 =>
 A2 PR (Instr.indexAt 34 t98 t100) fun t101 =>
 A6 PR (Instr.loadAt 3 t101) fun t102 =>
 B2 PR X 68 [t96, t102, (.int .i64 4), t2] fun t104 =>
 A2 PR (Instr.extract t104 0) fun t105 =>
 A2 PR (Instr.extract t104 1) fun t106 =>
 A2 PR (Instr.extract t104 2) fun t107 =>
 B1 PR X (Instr.buildSlice 34 0 #[]) fun t108 =>
 A2 PR (Instr.fieldAt 36 t3 3) fun t109 =>
 A6 PR (Instr.loadAt 34 t109) fun t110 =>
 B1 PR X (A7 .append #[34, 34] 34 [t108, t110]) fun t111 =>
 A2 PR (Instr.fieldAt 36 t3 3) fun t112 =>
 B4 PR X (Instr.storeAt 34 t112 t111) <|
 A2 PR (Instr.fieldAt 36 t3 3) fun t113 =>
 A6 PR (Instr.loadAt 34 t113) fun t114 =>
 A2 PR (Instr.fieldAt 42 t4 3) fun t115 =>
 A6 PR (Instr.loadAt 3 t115) fun t116 =>
 A2 PR (Instr.indexAt 34 t114 t116) fun t118 =>
 B4 PR X (Instr.storeAt 3 t118 t106) <|
 A6 PR (Instr.loadAt 36 t3) fun t119 =>
 A2 PR (Instr.fieldAt 42 t4 3) fun t120 =>
 A6 PR (Instr.loadAt 3 t120) fun t121 =>
 B2 PR X 66 [t119, t121, t105] fun t123 =>
 A2 PR (Instr.build 39 #[(3, t107)]) fun t125 =>
 B4 PR X (Instr.storeAt 36 t6 t123) <|
 B4 PR X (Instr.storeAt 39 t7 t125) <|
 A6 PR (E0 [.c 36 t6, .c 39 t7]) R) fun J5 =>
 A2 PR (Instr.fieldAt 42 t4 3) fun t77 =>
 A6 PR (Instr.loadAt 3 t77) fun t78 =>
 A2 PR (binOp .lss 3 t78 (.int .i64 0)) fun t79 =>
 gj t79 false (fun J => A2 PR (Instr.fieldAt 42 t4 3) J) fun t81 =>
 gj t79 false (fun J => A6 PR (Instr.loadAt 3 t81) J) fun t82 =>
 gj t79 false (fun J => A2 PR (Instr.fieldAt 36 t3 0) J) fun t83 =>
 gj t79 false (fun J => A2 PR (Instr.fieldAt 23 t83 1) J) fun t84 =>
 gj t79 false (fun J => A6 PR (Instr.loadAt 3 t84) J) fun t85 =>
 gj t79 false (fun J => A2 PR (binOp .geq 3 t82 t85) J) fun t86 =>
 A2 PR (do pure (if ← asBool t79 then (.bool true) else t86)) fun t87 =>
 B6 t87 (
 A6 PR (Instr.loadAt 36 t3) fun t88 =>
 A2 PR (Instr.build 39 #[(0, (.int .i64 1))]) fun t89 =>
 B4 PR X (Instr.storeAt 36 t6 t88) <|
 B4 PR X (Instr.storeAt 39 t7 t89) <|
 A6 PR (E0 [.c 36 t6, .c 39 t7]) R) (
 J5)) (
 A2 PR (binOp .eql 3 t18 (.int .i64 3)) fun t127 =>
 B6 t127 (
 jn (n := 2) (fun t15 t16 =>
 A6 PR (Instr.loadAt 36 t3) fun t143 =>
 A2 PR (Instr.build 39 #[(3, t15)]) fun t145 =>
 B4 PR X (Instr.storeAt 36 t6 t143) <|
 B4 PR X (Instr.storeAt 39 t7 t145) <|
 A6 PR (E0 [.c 36 t6, .c 39 t7]) R) fun J6 =>
 lp (n := 2) (fun L7 t15_1 t16_1 =>
 jn (n := 0) (
 jn (n := 1) (fun t15_2 =>
 A2 PR (binOp .add 3 t16_1 (.int .i64 1)) fun t134 =>
 L7 t15_2 t134) fun J8 =>
 A2 PR (Instr.fieldAt 36 t3 2) fun t136 =>
 A6 PR (Instr.loadAt 33 t136) fun t137 =>
 A2 PR (Instr.indexAt 33 t137 t16_1) fun t139 =>
 A6 PR (Instr.loadAt 50 t139) fun t140 =>
 B2 PR X 69 [t140, (.int .i64 1)] fun t141 =>
 A2 PR (binOp .add 3 t15_1 t141) fun t142 =>
 J8 t142) fun J9 =>
 A2 PR (Instr.fieldAt 36 t3 2) fun t129 =>
 A6 PR (Instr.loadAt 33 t129) fun t130 =>
 A2 PR (A7 .len #[33] 0 [t130]) fun t131 =>
 A2 PR (binOp .lss 3 t16_1 t131) fun t132 =>
 B6 t132 (
 J9) (
 J6 t15_1 t16_1)) (.int .i64 0) (.int .i64 0)) (
 J1))))
theorem K8 : B0 PR 21 := A8 Tryz.func21 (by kernel_rfl) rfl
theorem M1 {X : Nat → Prop} {t0 t1 t2 : Value} {R : Value → WP} {w : World} (h : H9 X t0 t1 t2 R w) : Fn PR X 21 #[t0, t1, t2] w R := C7 (args := [t0, t1, t2]) mixed Tryz.func21 (by kernel_rfl) h
def s0 (X : Nat → Prop) (t0 t1 t2 t3 t4 t5 : Value) (R : Value → WP) : WP :=
 B1 PR X (Instr.alloc 39 true (.tuple #[])) fun t13 =>
 B2 PR X 75 [t0, t2] fun t23 =>
 A2 PR (binOp .geq 3 t23 (.int .i64 0)) fun t25 =>
 gj t25 true (fun J => J t0) fun t27 =>
 gj t25 true (fun J => J t23) fun t28 =>
 gj t25 true (fun J => A2 PR (A7 .max #[3, 3] 0 [t28, (.int .i64 0)]) J) fun t29 =>
 gj t25 true (fun J => A2 PR (Instr.indexAt 50 t27 t29) J) fun t30 =>
 gj t25 true (fun J => A2 PR (Instr.fieldAt 71 t30 3) J) fun t31 =>
 gj t25 true (fun J => A6 PR (Instr.loadAt 3 t31) J) fun t32 =>
 gj t25 true (fun J => J t4) fun t33 =>
 gj t25 true (fun J => A2 PR (binOp .geq 3 t32 t33) J) fun t34 =>
 A2 PR (do pure (if ← asBool t25 then t34 else (.bool false))) fun t35 =>
 gj t35 true (fun J => J t1) fun t37 =>
 gj t35 true (fun J => J t0) fun t38 =>
 gj t35 true (fun J => J t23) fun t39 =>
 gj t35 true (fun J => A2 PR (A7 .max #[3, 3] 0 [t39, (.int .i64 0)]) J) fun t40 =>
 gj t35 true (fun J => A2 PR (Instr.indexAt 50 t38 t40) J) fun t41 =>
 gj t35 true (fun J => A2 PR (Instr.fieldAt 71 t41 2) J) fun t42 =>
 gj t35 true (fun J => A6 PR (Instr.loadAt 3 t42) J) fun t43 =>
 gj t35 true (fun J => B2 PR X 76 [t37, t43] J) fun t44 =>
 gj t35 true (fun J => A2 PR (binOp .geq 3 t44 (.int .i64 0)) J) fun t45 =>
 A2 PR (do pure (if ← asBool t35 then t45 else (.bool false))) fun t46 =>
 B2 PR X 78 [t2] fun t49 =>
 B2 PR X 77 [t1, t49] fun t50 =>
 jn (n := 2) (fun t16 t12 =>
 jn (n := 1) (fun t12_1 =>
 A2 PR (binOp .add 3 t4 t5) fun t78 =>
 B2 PR X 80 [t0, t2, t16, t78] fun t79 =>
 A2 PR (Instr.extract t79 0) fun t80 =>
 A2 PR (Instr.extract t79 1) fun t81 =>
 jn (n := 1) (fun t12_2 =>
 A2 PR (Op.unary .not t46) fun t90 =>
 A2 PR (Instr.build 39 #[(1, t16), (2, t90)]) fun t91 =>
 B4 PR X (Instr.storeAt 39 t13 t91) <|
 A6 PR (E0 [.v t80, .c 39 t13]) R) fun J1 =>
 A2 PR (binOp .neq 28 t81 (.int .i64 0)) fun t83 =>
 B6 t83 (
 A2 PR (Instr.build 39 #[(0, t81)]) fun t86 =>
 B4 PR X (Instr.storeAt 39 t13 t86) <|
 A6 PR (E0 [.v t0, .c 39 t13]) R) (
 J1 t12_1)) fun J2 =>
 B6 t3 (
 B2 PR X 79 [t0, t2] fun t66 =>
 A2 PR (Instr.extract t66 0) fun t67 =>
 A2 PR (Instr.extract t66 1) fun t68 =>
 A2 PR (Instr.build 39 #[(1, t16)]) fun t71 =>
 B4 PR X (Instr.storeAt 39 t13 t71) <|
 A6 PR (E0 [.v t67, .c 39 t13]) R) (
 J2 t12)) fun J3 =>
 B6 t46 (
 A2 PR (Instr.indexAt 50 t0 t23) fun t54 =>
 A2 PR (Instr.fieldAt 71 t54 2) fun t55 =>
 A6 PR (Instr.loadAt 3 t55) fun t56 =>
 J3 t56 (.slice none 0 0)) (
 A2 PR (A7 .len #[32] 0 [t1]) fun t58 =>
 A2 PR (binOp .eql 3 t58 (.int .i64 0)) fun t59 =>
 B6 t59 (
 A2 PR (Instr.build 39 #[(0, (.int .i64 11))]) fun t61 =>
 B4 PR X (Instr.storeAt 39 t13 t61) <|
 A6 PR (E0 [.v t0, .c 39 t13]) R) (
 J3 t50 (.slice none 0 0)))
theorem p5 : B0 PR 28 := A8 Tryz.func28 (by kernel_rfl) rfl
theorem A3m {X : Nat → Prop} {t0 t1 t2 t3 t4 t5 : Value} {R : Value → WP} {w : World} (h : s0 X t0 t1 t2 t3 t4 t5 R w) : Fn PR X 28 #[t0, t1, t2, t3, t4, t5] w R := C7 (args := [t0, t1, t2, t3, t4, t5]) mixed Tryz.func28 (by kernel_rfl) h
def w9 (X : Nat → Prop) (t0 t1 : Value) (R : Value → WP) : WP :=
 jn (n := 1) (fun t4 =>
 B2 PR X 78 [t0] fun t8 =>
 A2 PR (binOp .quo 68 t8 (.int .u64 4294967296)) fun t9 =>
 A2 PR (convert 3 68 t1) fun t11 =>
 A2 PR (binOp .rem 68 t9 t11) fun t12 =>
 A2 PR (convert 68 3 t12) fun t13 =>
 R t13) fun J1 =>
 A2 PR (binOp .lss 3 t1 (.int .i64 1)) fun t6 =>
 B6 t6 (
 R (.int .i64 0)) (
 J1 (.int .i64 0))
theorem A35 : B0 PR 30 := A8 Tryz.func30 (by kernel_rfl) rfl
theorem A4c {X : Nat → Prop} {t0 t1 : Value} {R : Value → WP} {w : World} (h : w9 X t0 t1 R w) : Fn PR X 30 #[t0, t1] w R := C7 (args := [t0, t1]) mixed Tryz.func30 (by kernel_rfl) h
def z7 (X : Nat → Prop) (t0 : Value) (R : Value → WP) : WP :=
 B1 PR X (Instr.box 23 t0) fun t1 =>
 A2 PR (Instr.fieldAt 23 t1 0) fun t3 =>
 A6 PR (Instr.loadAt 3 t3) fun t4 =>
 A2 PR (binOp .leq 3 t4 (.int .i64 6)) fun t5 =>
 gj t5 true (fun J => A2 PR (Instr.fieldAt 23 t1 1) J) fun t7 =>
 gj t5 true (fun J => A6 PR (Instr.loadAt 3 t7) J) fun t8 =>
 gj t5 true (fun J => A2 PR (binOp .leq 3 t8 (.int .i64 6)) J) fun t9 =>
 A2 PR (do pure (if ← asBool t5 then t9 else (.bool false))) fun t10 =>
 gj t10 true (fun J => A2 PR (Instr.fieldAt 23 t1 2) J) fun t12 =>
 gj t10 true (fun J => A6 PR (Instr.loadAt 3 t12) J) fun t13 =>
 gj t10 true (fun J => A2 PR (binOp .leq 3 t13 (.int .i64 12)) J) fun t14 =>
 A2 PR (do pure (if ← asBool t10 then t14 else (.bool false))) fun t15 =>
 R t15
theorem q7 : B0 PR 55 := A8 Tryz.func55 (by kernel_rfl) rfl
theorem A4b {X : Nat → Prop} {t0 : Value} {R : Value → WP} {w : World} (h : z7 X t0 R w) : Fn PR X 55 #[t0] w R := C7 (args := [t0]) mixed Tryz.func55 (by kernel_rfl) h
def A08 (X : Nat → Prop) (t0 t1 : Value) (R : Value → WP) : WP :=
 jn (n := 1) (fun t4 =>
 jn (n := 2) (fun t4_1 t5 =>
 R (.bool true)) fun J1 =>
 lp (n := 2) (fun L2 t4_2 t5_1 =>
 jn (n := 0) (
 jn (n := 1) (fun t4_3 =>
 A2 PR (binOp .add 3 t5_1 (.int .i64 1)) fun t15 =>
 L2 t4_3 t15) fun J3 =>
 A2 PR (Instr.indexAt 104 t0 t5_1) fun t18 =>
 A2 PR (Instr.fieldAt 42 t18 1) fun t19 =>
 A6 PR (Instr.loadAt 9 t19) fun t20 =>
 A2 PR (A7 .len #[9] 0 [t20]) fun t21 =>
 A2 PR (binOp .gtr 3 t21 (.int .i64 100)) fun t22 =>
 gj t22 false (fun J => J t0) fun t24 =>
 gj t22 false (fun J => J t5_1) fun t25 =>
 gj t22 false (fun J => A2 PR (Instr.indexAt 104 t24 t25) J) fun t26 =>
 gj t22 false (fun J => A2 PR (Instr.fieldAt 42 t26 2) J) fun t27 =>
 gj t22 false (fun J => A6 PR (Instr.loadAt 32 t27) J) fun t28 =>
 gj t22 false (fun J => A2 PR (A7 .len #[32] 0 [t28]) J) fun t29 =>
 gj t22 false (fun J => A2 PR (binOp .gtr 3 t29 (.int .i64 8)) J) fun t30 =>
 A2 PR (do pure (if ← asBool t22 then (.bool true) else t30)) fun t31 =>
 B6 t31 (
 R (.bool false)) (
 J3 t4_2)) fun J4 =>
 A2 PR (A7 .len #[104] 0 [t0]) fun t12 =>
 A2 PR (binOp .lss 3 t5_1 t12) fun t13 =>
 B6 t13 (
 J4) (
 J1 t4_2 t5_1)) t4 (.int .i64 0)) fun J5 =>
 A2 PR (A7 .len #[104] 0 [t0]) fun t7 =>
 A2 PR (binOp .gtr 3 t7 t1) fun t9 =>
 B6 t9 (
 R (.bool false)) (
 J5 (.bool false))
theorem A5M : B0 PR 56 := A8 Tryz.func56 (by kernel_rfl) rfl
theorem A6Z {X : Nat → Prop} {t0 t1 : Value} {R : Value → WP} {w : World} (h : A08 X t0 t1 R w) : Fn PR X 56 #[t0, t1] w R := C7 (args := [t0, t1]) mixed Tryz.func56 (by kernel_rfl) h
def A1N (X : Nat → Prop) (t0 t1 t2 : Value) (R : Value → WP) : WP :=
 A2 PR (binOp .geq 3 t0 t1) fun t9 =>
 gj t9 true (fun J => J t0) fun t11 =>
 gj t9 true (fun J => J t2) fun t12 =>
 gj t9 true (fun J => A2 PR (binOp .leq 3 t11 t12) J) fun t13 =>
 A2 PR (do pure (if ← asBool t9 then t13 else (.bool false))) fun t14 =>
 R t14
theorem S4 : B0 PR 58 := A8 Tryz.func58 (by kernel_rfl) rfl
theorem A7G {X : Nat → Prop} {t0 t1 t2 : Value} {R : Value → WP} {w : World} (h : A1N X t0 t1 t2 R w) : Fn PR X 58 #[t0, t1, t2] w R := C7 (args := [t0, t1, t2]) mixed Tryz.func58 (by kernel_rfl) h
def A0c (X : Nat → Prop) (t0 t1 : Value) (R : Value → WP) : WP :=
 B1 PR X (Instr.alloc 119 true (.tuple #[])) fun t4 =>
 B2 PR X 108 [t0] fun t11 =>
 A2 PR (Instr.extract t11 0) fun t12 =>
 A2 PR (Instr.extract t11 1) fun t13 =>
 B1 PR X (Instr.alloc 101 true (.tuple #[])) fun t5 =>
 B4 PR X (Instr.storeAt 101 t5 t12) <|
 jn (n := 0) (
 A2 PR (Instr.fieldAt 101 t5 0) fun t18 =>
 A6 PR (Instr.loadAt 99 t18) fun t19 =>
 B2 PR X 109 [t19] fun t20 =>
 A2 PR (Instr.extract t20 0) fun t21 =>
 A2 PR (Instr.extract t20 1) fun t22 =>
 drw <|
 A6 PR (Instr.loadAt 101 t5) fun t27 =>
 B2 PR X 30 [t21, t1] fun t26 =>
 watch PR [(none, (Instr.loadAt 101 t5), t27)] <|
 B2 PR X 110 [t27] fun t28 =>
 A2 PR (Instr.build 119 #[(0, t21), (1, t26), (2, t28)]) fun t29 =>
 B4 PR X (Instr.storeAt 119 t4 t29) <|
 A6 PR (E0 [.c 119 t4]) R) fun J1 =>
 A2 PR (binOp .neq 28 t13 (.int .i64 0)) fun t15 =>
 B6 t15 (
 A2 PR (Instr.build 119 #[(3, (.int .i64 9))]) fun t16 =>
 B4 PR X (Instr.storeAt 119 t4 t16) <|
 A6 PR (E0 [.c 119 t4]) R) (
 J1)
theorem x9 : B0 PR 65 := A8 Tryz.func65 (by kernel_rfl) rfl
theorem A57 {X : Nat → Prop} {t0 t1 : Value} {R : Value → WP} {w : World} (h : A0c X t0 t1 R w) : Fn PR X 65 #[t0, t1] w R := C7 (args := [t0, t1]) mixed Tryz.func65 (by kernel_rfl) h
def k7 (X : Nat → Prop) (t0 t1 t2 : Value) (R : Value → WP) : WP :=
 B1 PR X (Instr.box 36 t0) fun t3 =>
 B1 PR X (Instr.alloc 36 true (.tuple #[])) fun t6 =>
 jn (n := 2) (fun t7 t8 =>
 A2 PR (Instr.fieldAt 36 t3 2) fun t32 =>
 B4 PR X (Instr.storeAt 33 t32 t7) <|
 A6 PR (Instr.loadAt 36 t3) fun t33 =>
 B4 PR X (Instr.storeAt 36 t6 t33) <|
 A6 PR (E0 [.c 36 t6]) R) fun J1 =>
 lp (n := 2) (fun L2 t7_1 t8_1 =>
 jn (n := 0) (
 jn (n := 1) (fun t7_2 =>
 A2 PR (binOp .add 3 t8_1 (.int .i64 1)) fun t15 =>
 L2 t7_2 t15) fun J3 =>
 A2 PR (binOp .eql 3 t8_1 t1) fun t18 =>
 B6 t18 (
 B1 PR X (Instr.buildSlice 33 1 #[(0, t2)]) fun t21 =>
 B1 PR X (A7 .append #[33, 33] 33 [t7_1, t21]) fun t22 =>
 J3 t22) (
 A2 PR (Instr.fieldAt 36 t3 2) fun t24 =>
 A6 PR (Instr.loadAt 33 t24) fun t25 =>
 A2 PR (Instr.indexAt 33 t25 t8_1) fun t27 =>
 A6 PR (Instr.loadAt 50 t27) fun t28 =>
 B1 PR X (Instr.buildSlice 33 1 #[(0, t28)]) fun t29 =>
 B1 PR X (A7 .append #[33, 33] 33 [t7_1, t29]) fun t30 =>
 J3 t30)) fun J4 =>
 A2 PR (Instr.fieldAt 36 t3 2) fun t10 =>
 A6 PR (Instr.loadAt 33 t10) fun t11 =>
 A2 PR (A7 .len #[33] 0 [t11]) fun t12 =>
 A2 PR (binOp .lss 3 t8_1 t12) fun t13 =>
 B6 t13 (
 J4) (
 J1 t7_1 t8_1)) (.slice none 0 0) (.int .i64 0)
theorem g9 : B0 PR 66 := A8 Tryz.func66 (by kernel_rfl) rfl
theorem A2f {X : Nat → Prop} {t0 t1 t2 : Value} {R : Value → WP} {w : World} (h : k7 X t0 t1 t2 R w) : Fn PR X 66 #[t0, t1, t2] w R := C7 (args := [t0, t1, t2]) mixed Tryz.func66 (by kernel_rfl) h
end Go.Proofs.YtggakcpabomliaaGreat
namespace Go.Proofs.YtggakcpabomliaaGreat
open Go
theorem M4.partAt {w : World} {b o k : Nat} {α : Type} {l : List α} {f : α → List Value} (h : M4 w b o (l.flatMap f)) (hk : ∀ x, (f x).length = k) {i : Nat} {x : α} (hx : l[i]? = some x) (j n : Nat) (hn : j + n ≤ k) : e9 w b (o + i * k + j) n = some (((f x).drop j).take n) := by
 have hl : (((f x).drop j).take n).length = n := by simp [hk]; omega
 have h1 : M4 w b (o + i * k + j) (((f x).drop j).take n) := fun q hq => by
  rw [hl] at hq
  have h2 := h.cellAt hk hx (j := j + q) (u := (f x)[j + q]'(by rw [hk]; omega)) (List.getElem?_eq_getElem _)
  rw [Nat.add_assoc, h2, List.getElem?_take_of_lt hq, List.getElem?_drop, List.getElem?_eq_getElem (by rw [hk]; omega)]
 have := A6m h1
 rwa [hl] at this
def r5 (o : OpV × Value) : List Value := [.int .i64 o.1.kind, .string o.1.packet, o.2, .int .i64 o.1.shard]
def A3Z (s : (OpV × Value) × Int) : List Value := [.int .i64 s.1.1.kind, .string s.1.1.packet, s.1.2, .int .i64 s.1.1.shard, .int .i64 s.2]
def B6A (o : OpV × Value) : Prop := ∃ a c, o.2 = .slice a o.1.pool.length c
def u4 (c : CfgV) : Bool := decide (c.wk ≤ 6) && decide (c.sh ≤ 6) && decide (c.cp ≤ 12)
def B0d (o : OpV) : Bool := decide (o.packet.size ≤ 100) && decide (o.pool.length ≤ 8)
def A1V (l : List OpV) (most : Int) : Bool := decide ((l.length : Int) ≤ most) && l.all B0d
theorem B5r (w : World) (c : CfgV) : Fn PR B5 55 #[c.val] w (fun r w' => r = .bool (u4 c) ∧ C0 [] w w') := by
 refine Fn.pure (A4b (TW.go (κ := false) (S := []) ?_))
 unfold z7
 simp only [CfgV.val]
 by_cases c1 : c.wk ≤ 6
 ·by_cases c2 : c.sh ≤ 6
  ·(have hQq := trivial; repeat ((first | clear hQq | (with_reducible first | refine A3 ?_ | refine A4 fun _ => ?_ | refine A5 fun _ => ?_)); (try simp (disch := first | omega | assumption | ((repeat (first | exact A0 | exact Up.here | apply A1 | apply Up.there)); first | done | fail) | (simp; first | done | omega | fail)) [c1, c2])))
   exact A9 (by simp [u4, c1, c2])
  ·(have hQq := trivial; repeat ((first | clear hQq | (with_reducible first | refine A3 ?_ | refine A4 fun _ => ?_ | refine A5 fun _ => ?_)); (try simp (disch := first | omega | assumption | ((repeat (first | exact A0 | exact Up.here | apply A1 | apply Up.there)); first | done | fail) | (simp; first | done | omega | fail)) [c1, c2])))
   exact A9 (by simp [u4, c1, c2])
 ·(have hQq := trivial; repeat ((first | clear hQq | (with_reducible first | refine A3 ?_ | refine A4 fun _ => ?_ | refine A5 fun _ => ?_)); (try simp (disch := first | omega | assumption | ((repeat (first | exact A0 | exact Up.here | apply A1 | apply Up.there)); first | done | fail) | (simp; first | done | omega | fail)) [c1])))
  exact A9 (by simp [u4, c1])
theorem C12 (w : World) (v : Value) (l : List (OpV × Value)) (most : Int) (hn : l.length ≤ 9223372036854775807) (hv : E3 w v l.length (l.flatMap r5)) (hp : ∀ o ∈ l, B6A o) :
  Fn PR B5 56 #[v, .int .i64 most] w (fun r w' => r = .bool (A1V (l.map (·.1)) most) ∧ C0 [] w w') := by
 refine Fn.pure (A6Z (TW.go (κ := false) (S := []) ?_))
 unfold A08
 obtain ⟨a, c, rfl, hr⟩ := hv.form
 by_cases c0 : most < (l.length : Int)
 ·(have hQq := trivial; repeat ((first | clear hQq | (with_reducible first | refine A3 ?_ | refine A4 fun _ => ?_ | refine A5 fun _ => ?_)); (try simp (disch := first | omega | assumption | ((repeat (first | exact A0 | exact Up.here | apply A1 | apply Up.there)); first | done | fail) | (simp; first | done | omega | fail)) [c0])))
  exact A9 (by simp [A1V]; omega)
 (have hQq := trivial; repeat ((first | clear hQq | (with_reducible first | refine A3 ?_ | refine A4 fun _ => ?_ | refine A5 fun _ => ?_)); (try simp (disch := first | omega | assumption | ((repeat (first | exact A0 | exact Up.here | apply A1 | apply Up.there)); first | done | fail) | (simp; first | done | omega | fail)) [c0])))
 refine K3 l.length (fun _ _ => .bool false) (fun _ (_ : Unit) => []) (fun i _ => ∀ (j : Nat) x, j < i → l[j]? = some x → B0d x.1 = true) () (by intros; omega) ?_
 rintro i _ hi hφ L hL
 by_cases hlt : i < l.length
 ·have hx := List.getElem?_eq_getElem hlt
  obtain ⟨b, o, rfl, hrow⟩ := hr (by omega)
  have h1 := hrow.cellAt (f := r5) (k := 4) (j := 1) (fun _ => rfl) hx rfl
  have h2 := hrow.cellAt (f := r5) (k := 4) (j := 2) (fun _ => rfl) hx rfl
  obtain ⟨pa, pc, hpl⟩ := hp l[i] (List.getElem_mem hlt)
  rw [hpl] at h2
  have bad : B0d l[i].1 = false → A1V (l.map (·.1)) most = false := fun h => by
   unfold A1V
   rw [Bool.and_eq_false_iff]; right
   rw [List.all_eq_false]
   exact ⟨l[i].1, List.mem_map_of_mem (List.getElem_mem hlt), by simp [h]⟩
  by_cases c1 : (100 : Int) < l[i].1.packet.size
  ·(have hQq := trivial; repeat ((first | clear hQq | (with_reducible first | refine A3 ?_ | refine A4 fun _ => ?_ | refine A5 fun _ => ?_)); (try simp (disch := first | omega | assumption | ((repeat (first | exact A0 | exact Up.here | apply A1 | apply Up.there)); first | done | fail) | (simp; first | done | omega | fail)) [hlt, h1, h2, c1])))
   exact A9 (by rw [bad (by simp [B0d]; omega)])
  by_cases c2 : (8 : Int) < l[i].1.pool.length
  ·(have hQq := trivial; repeat ((first | clear hQq | (with_reducible first | refine A3 ?_ | refine A4 fun _ => ?_ | refine A5 fun _ => ?_)); (try simp (disch := first | omega | assumption | ((repeat (first | exact A0 | exact Up.here | apply A1 | apply Up.there)); first | done | fail) | (simp; first | done | omega | fail)) [hlt, h1, h2, c1, c2])))
   exact A9 (by rw [bad (by simp [B0d]; omega)])
  (have hQq := trivial; repeat ((first | clear hQq | (with_reducible first | refine A3 ?_ | refine A4 fun _ => ?_ | refine A5 fun _ => ?_)); (try simp (disch := first | omega | assumption | ((repeat (first | exact A0 | exact Up.here | apply A1 | apply Up.there)); first | done | fail) | (simp; first | done | omega | fail)) [hlt, h1, h2, c1, c2])))
  refine hL hlt () fun j x hj hx' => ?_
  by_cases e : j < i
  ·exact hφ j x e hx'
  ·obtain rfl : j = i := by omega
   rw [hx] at hx'; injection hx' with hx'; subst hx'
   simp [B0d]; omega
 ·(have hQq := trivial; repeat ((first | clear hQq | (with_reducible first | refine A3 ?_ | refine A4 fun _ => ?_ | refine A5 fun _ => ?_)); (try simp (disch := first | omega | assumption | ((repeat (first | exact A0 | exact Up.here | apply A1 | apply Up.there)); first | done | fail) | (simp; first | done | omega | fail)) [hlt])))
  refine A9 ?_
  have : A1V (l.map (·.1)) most = true := by
   unfold A1V
   rw [Bool.and_eq_true]
   refine ⟨by simp; omega, ?_⟩
   rw [List.all_eq_true]
   intro x hx
   obtain ⟨y, hy, rfl⟩ := List.mem_map.1 hx
   obtain ⟨j, hj, e⟩ := List.getElem_of_mem hy
   exact hφ j y (by omega) (by simp [hj, e])
  rw [this]
def A7Y (c : CfgV) (l : List OpV) : Bool := u4 c && A1V (l.take 13) 12
theorem C5d (w : World) (c : CfgV) (v : Value) (l : List ((OpV × Value) × Int)) (hn : l.length ≤ 9223372036854775807) (hv : E3 w v l.length (l.flatMap A3Z)) (hp : ∀ s ∈ l, B6A s.1) :
  Fn PR B5 15 #[c.val, v] w (fun r w' => r = .bool (A7Y c (l.map (·.1.1))) ∧ C0 [] w w') := by
 refine Fn.pure (A6q (TW.go (κ := false) (S := []) ?_))
 unfold A05
 obtain ⟨a, cc, rfl, hr⟩ := hv.form
 obtain ⟨n, hnn⟩ : ∃ n, n = min l.length 13 := ⟨_, rfl⟩
 simp only [CfgV.val]
 (have hQq := trivial; repeat ((first | clear hQq | (with_reducible first | refine A3 ?_ | refine A4 fun _ => ?_ | refine A5 fun _ => ?_)); (try simp (disch := first | omega | assumption | ((repeat (first | exact A0 | exact Up.here | apply A1 | apply Up.there)); first | done | fail) | (simp; first | done | omega | fail)) [])))
 rename_i bc
 refine l6 42 4 ?_
 refine K3 n (fun i (x : Option Addr × Nat) => .slice x.1 i x.2) (fun i x => [.own 42 4 (.slice x.1 i x.2) i (((l.map (·.1)).take i).flatMap r5), .pt bc (.cells #[.int .i64 c.wk, .int .i64 c.sh, .int .i64 c.cp, .int .i64 c.idle, .int .i64 c.sl] 23)]) (fun i x => True) (none, 0) trivial ?_ (by simp)
 rintro i ⟨xa, xc⟩ hi _ L hL
 by_cases hlt : i < n
 ·have hil : i < l.length := by omega
  have hx := List.getElem?_eq_getElem hil
  obtain ⟨b, o, rfl, hrow⟩ := hr (by omega)
  have h1 := hrow.partAt (f := A3Z) (k := 5) (fun _ => rfl) hx 0 4 (by omega)
  rw [show ((A3Z l[i]).drop 0).take 4 = r5 l[i].1 from rfl, Nat.add_zero] at h1
  have c1 : (i : Int) ≤ 12 := by omega
  have hst : ((l.map (·.1)).take (i + 1)).flatMap r5 = ((l.map (·.1)).take i).flatMap r5 ++ r5 l[i].1 := by
   rw [List.take_add_one, List.getElem?_map, hx]; simp [List.flatMap_append]
  (have hQq := trivial; repeat ((first | clear hQq | (with_reducible first | refine A3 ?_ | refine A4 fun _ => ?_ | refine A5 fun _ => ?_ | refine D4 fun _ => ?_ | refine D3 (hK := fun _ => ?_) | refine D1 (hK := fun _ => ?_) | refine D2 (hK := fun _ => ?_) | refine D6 (hK := fun _ => ?_) | refine D5 (hK := fun _ => ?_))); (try simp (disch := first | omega | assumption | ((repeat (first | exact A0 | exact Up.here | apply A1 | apply Up.there)); first | done | fail) | (simp; first | done | omega | fail)) [hil, h1, c1, r5])))
  obtain ⟨pa, pc, hpl⟩ := hp l[i] (List.getElem_mem hil)
  refine l0 (e := 42) (k := 4) (q := i) (r := 1) (xs := ((l.map (·.1)).take i).flatMap r5) (news := r5 l[i].1) (by ((repeat (first | exact A0 | exact Up.here | exact Sel.here | apply A1 | apply Up.there | apply Sel.there)); first | done | fail)) (K6.own (by ((repeat (first | exact A0 | exact Up.here | exact Sel.here | apply A1 | apply Up.there | apply Sel.there)); first | done | fail))) (by decide) rfl (by simp [r5, hpl]) (by simp only [maxLen]; omega) (by omega) fun a' c' => ?_
  (have hQq := trivial; repeat ((first | clear hQq | (with_reducible first | refine A3 ?_ | refine A4 fun _ => ?_ | refine A5 fun _ => ?_)); (try simp (disch := first | omega | assumption | ((repeat (first | exact A0 | exact Up.here | apply A1 | apply Up.there)); first | done | fail) | (simp; first | done | omega | fail)) [])))
  have h2 := hL hlt (a', c') trivial
  rw [hst] at h2
  exact Sels.tw (by ((repeat (first | exact Sels.nil | (apply Sels.cons; · ((repeat (first | exact A0 | exact Up.here | exact Sel.here | apply A1 | apply Up.there | apply Sel.there)); first | done | fail)))); first | done | fail)) h2
 ·have hin : i = n := by omega
  have hce : (c.val : Value) = .agg #[.int .i64 c.wk, .int .i64 c.sh, .int .i64 c.cp, .int .i64 c.idle, .int .i64 c.sl] := rfl
  have hlen : (((l.map (·.1)).take i)).length = i := by simp; omega
  have hm : ((l.map (·.1)).take i).map (·.1) = (l.map (·.1.1)).take 13 := by
   rw [List.map_take, List.map_map, hin, hnn]
   by_cases h : l.length ≤ 13
   ·rw [Nat.min_eq_left h, List.take_of_length_le (by simp), List.take_of_length_le (by simp; omega)]; rfl
   ·rw [Nat.min_eq_right (by omega)]; rfl
  have hfin : u4 c = true → ∀ K : Value → WP, (∀ H : List Res, TW false [] w H (K (.bool (A7Y c (l.map (·.1.1)))))) → TW false [] w [.own 42 4 (.slice xa i xc) i (((l.map (·.1)).take i).flatMap r5), .pt bc (.cells #[.int .i64 c.wk, .int .i64 c.sh, .int .i64 c.cp, .int .i64 c.idle, .int .i64 c.sl] 23)]
    (B2 PR B5 56 [.slice xa i xc, .int .i64 12] K) := fun hs K hK => by
   refine B7 A5M (fun w' hw' => by
    have := C12 w' (.slice xa i xc) ((l.map (·.1)).take i) 12 (by omega) (by rw [hlen]; exact K6.own (by ((repeat (first | exact A0 | exact Up.here | exact Sel.here | apply A1 | apply Up.there | apply Sel.there)); first | done | fail)) w' hw') fun o ho => by
     obtain ⟨s, hs, rfl⟩ := List.mem_map.1 (List.mem_of_mem_take ho)
     exact hp s hs
    exact this) ?_
   have e : A7Y c (l.map (·.1.1)) = A1V (((l.map (·.1)).take i).map (·.1)) 12 := by rw [hm, A7Y, hs]; simp
   rw [← e]; exact hK _
  by_cases hil : i < l.length
  ·have c1 : ¬ (i : Int) ≤ 12 := by omega
   (have hQq := trivial; repeat ((first | clear hQq | (with_reducible first | refine A3 ?_ | refine A4 fun _ => ?_ | refine A5 fun _ => ?_)); (try simp (disch := first | omega | assumption | ((repeat (first | exact A0 | exact Up.here | apply A1 | apply Up.there)); first | done | fail) | (simp; first | done | omega | fail)) [hil, c1])))
   refine B7 q7 (fun w' _ => B5r w' c) ?_
   cases hs : u4 c with
   | true =>
    (have hQq := trivial; repeat ((first | clear hQq | (with_reducible first | refine A3 ?_ | refine A4 fun _ => ?_ | refine A5 fun _ => ?_)); (try simp (disch := first | omega | assumption | ((repeat (first | exact A0 | exact Up.here | apply A1 | apply Up.there)); first | done | fail) | (simp; first | done | omega | fail)) [])))
    refine hfin hs _ fun H => ?_
    (have hQq := trivial; repeat ((first | clear hQq | (with_reducible first | refine A3 ?_ | refine A4 fun _ => ?_ | refine A5 fun _ => ?_)); (try simp (disch := first | omega | assumption | ((repeat (first | exact A0 | exact Up.here | apply A1 | apply Up.there)); first | done | fail) | (simp; first | done | omega | fail)) [])))
    exact A9 rfl
   | false => (have hQq := trivial; repeat ((first | clear hQq | (with_reducible first | refine A3 ?_ | refine A4 fun _ => ?_ | refine A5 fun _ => ?_)); (try simp (disch := first | omega | assumption | ((repeat (first | exact A0 | exact Up.here | apply A1 | apply Up.there)); first | done | fail) | (simp; first | done | omega | fail)) []))); exact A9 (by simp [A7Y, hs])
  ·(have hQq := trivial; repeat ((first | clear hQq | (with_reducible first | refine A3 ?_ | refine A4 fun _ => ?_ | refine A5 fun _ => ?_)); (try simp (disch := first | omega | assumption | ((repeat (first | exact A0 | exact Up.here | apply A1 | apply Up.there)); first | done | fail) | (simp; first | done | omega | fail)) [hil])))
   refine B7 q7 (fun w' _ => B5r w' c) ?_
   cases hs : u4 c with
   | true =>
    (have hQq := trivial; repeat ((first | clear hQq | (with_reducible first | refine A3 ?_ | refine A4 fun _ => ?_ | refine A5 fun _ => ?_)); (try simp (disch := first | omega | assumption | ((repeat (first | exact A0 | exact Up.here | apply A1 | apply Up.there)); first | done | fail) | (simp; first | done | omega | fail)) [])))
    refine hfin hs _ fun H => ?_
    (have hQq := trivial; repeat ((first | clear hQq | (with_reducible first | refine A3 ?_ | refine A4 fun _ => ?_ | refine A5 fun _ => ?_)); (try simp (disch := first | omega | assumption | ((repeat (first | exact A0 | exact Up.here | apply A1 | apply Up.there)); first | done | fail) | (simp; first | done | omega | fail)) [])))
    exact A9 rfl
   | false => (have hQq := trivial; repeat ((first | clear hQq | (with_reducible first | refine A3 ?_ | refine A4 fun _ => ?_ | refine A5 fun _ => ?_)); (try simp (disch := first | omega | assumption | ((repeat (first | exact A0 | exact Up.here | apply A1 | apply Up.there)); first | done | fail) | (simp; first | done | omega | fail)) []))); exact A9 (by simp [A7Y, hs])
end Go.Proofs.YtggakcpabomliaaGreat
namespace Go.Proofs.YtggakcpabomliaaGreat
open Go
abbrev StA : Type := (OpV × Value) × Int
def C5Z (s : MoS) (l : List StA) : MoS := l.foldl (fun s x => (S5 s x.1.1 x.2).1) s
theorem Inv.run {c : CfgV} {s : MoS} (h : Inv c s) (l : List StA) : Inv c (C5Z s l) := by
 unfold C5Z
 induction l generalizing s with
 | nil => exact h
 | cons x l ih => rw [List.foldl_cons]; exact ih (h.do' x.1.1 x.2)
theorem C2L {c : CfgV} {l : List OpV} (h : A7Y c l = true) : (c.wk ≤ 6 ∧ c.sh ≤ 6 ∧ c.cp ≤ 12) ∧ l.length ≤ 12 ∧ ∀ o ∈ l, o.packet.size ≤ 100 ∧ o.pool.length ≤ 8 := by
 unfold A7Y A1V at h
 rw [Bool.and_eq_true, Bool.and_eq_true, List.all_eq_true] at h
 obtain ⟨h1, h2, h3⟩ := h
 have hl : l.length ≤ 12 := by
  simp only [decide_eq_true_eq, List.length_take] at h2; omega
 refine ⟨by simp [u4] at h1; omega, hl, fun o ho => ?_⟩
 rw [List.take_of_length_le (by omega)] at h3
 have := h3 o ho
 simp [B0d] at this; exact this
end Go.Proofs.YtggakcpabomliaaGreat
namespace Go.Proofs.YtggakcpabomliaaGreat
open Go
def A6C (w : World) (x : StA) : Prop := E3 w x.1.2 x.1.1.pool.length (x.1.1.pool.flatMap E8)
theorem A6C.sl {w : World} {x : StA} (h : A6C w x) : B6A x.1 := let ⟨a, c, e, _⟩ := h.form; ⟨a, c, e⟩
theorem C4Y {w : World} {b o : Nat} {l : List StA} (hrow : M4 w b o (l.flatMap A3Z)) {i : Nat} {x : StA} (hx : l[i]? = some x) : e9 w b (o + i * 5) 4 = some (r5 x.1) ∧ w.cell? ⟨b, o + i * 5 + 4, none⟩ = some (.int .i64 x.2) := by
 have h1 := hrow.partAt (f := A3Z) (k := 5) (fun _ => rfl) hx 0 4 (by omega)
 rw [show ((A3Z x).drop 0).take 4 = r5 x.1 from rfl, Nat.add_zero] at h1
 exact ⟨h1, hrow.cellAt (f := A3Z) (k := 5) (j := 4) (fun _ => rfl) hx rfl⟩
theorem C0f {m : MoH} {i : Nat} (h : i < m.st.tabs.length) : j6 m.ts i = (m.st.tabs.getD i ([], 0)).1 := by
 have htl : m.st.tabs.length = m.ts.length := by simp [MoH.st]
 unfold j6
 rw [if_neg (by omega), Int.toNat_natCast]
 simp only [MoH.st, List.getD_eq_getElem?_getD, List.getElem?_map]
 cases m.ts[i]? <;> rfl
end Go.Proofs.YtggakcpabomliaaGreat
namespace Go.Proofs.YtggakcpabomliaaGreat
open Go Go.ChangeShapes Go.WideShapes Go.ChangeAt Go.RowKit
set_option maxRecDepth 10000
section
variable {H : Type} {enc : TypeId × Value → H} {w : World} {base : Nat} {spare : Nat → Bool} {held : Bool} {fuel : Nat} {cs : List Value} {x : DataW H × List MemPlace}
theorem C1y (h : DataW.trod enc PR w base spare held fuel 23 cs = some x) : ∃ c : CfgV, cs = [.int .i64 c.wk, .int .i64 c.sh, .int .i64 c.cp, .int .i64 c.idle, .int .i64 c.sl] ∧ True := by
 obtain ⟨xs, n, _, rfl, hl, hxl, hf⟩ := DataW.trod_struct A2m.und h
 have hl4 : cs.length = 5 := hl.trans (by kernel_rfl)
 have hx4 : xs.length = 5 := hxl.trans (by kernel_rfl)
 match cs, hl4 with
 | [c0, c1, c2, c3, c4], _ =>
  have f0 := hf 0 _ rfl
  have f1 := hf 1 _ rfl
  have f2 := hf 2 _ rfl
  have f3 := hf 3 _ rfl
  have f4 := hf 4 _ rfl
  rw [List.getElem?_eq_getElem (by omega)] at f0 f1 f2 f3 f4
  obtain ⟨a0, e0, _⟩ := Y5 Tryz.underlying3 f0
  obtain ⟨a1, e1, _⟩ := Y5 Tryz.underlying3 f1
  obtain ⟨a2, e2, _⟩ := Y5 Tryz.underlying3 f2
  obtain ⟨a3, e3, _⟩ := Y5 Tryz.underlying3 f3
  obtain ⟨a4, e4, _⟩ := Y5 Tryz.underlying3 f4
  have e0 : [c0] = [.int .i64 a0] := e0
  have e1 : [c1] = [.int .i64 a1] := e1
  have e2 : [c2] = [.int .i64 a2] := e2
  have e3 : [c3] = [.int .i64 a3] := e3
  have e4 : [c4] = [.int .i64 a4] := e4
  cases e0; cases e1; cases e2; cases e3; cases e4
  exact ⟨⟨a0, a1, a2, a3, a4⟩, rfl, trivial⟩
theorem C4g (h : DataW.trod enc PR w base spare held fuel 42 cs = some x) : ∃ o : OpV × Value, cs = r5 o ∧ E3 w o.2 o.1.pool.length (o.1.pool.flatMap E8) := by
 obtain ⟨xs, n, _, rfl, hl, hxl, hf⟩ := DataW.trod_struct A2B.und h
 have hl4 : cs.length = 4 := hl.trans (by kernel_rfl)
 have hx4 : xs.length = 4 := hxl.trans (by kernel_rfl)
 match cs, hl4 with
 | [c0, c1, c2, c3], _ =>
  have f0 := hf 0 _ rfl
  have f1 := hf 1 _ rfl
  have f2 := hf 2 _ rfl
  have f3 := hf 3 _ rfl
  rw [List.getElem?_eq_getElem (by omega)] at f0 f1 f2 f3
  obtain ⟨a0, e0, _⟩ := Y5 Tryz.underlying3 f0
  obtain ⟨a1, e1, _⟩ := C1J Tryz.underlying9 f1
  obtain ⟨v, l, e2, hv, _⟩ := C1U f2
  obtain ⟨a3, e3, _⟩ := Y5 Tryz.underlying3 f3
  have e0 : [c0] = [.int .i64 a0] := e0
  have e1 : [c1] = [.string a1] := e1
  have e2 : [c2] = [v] := e2
  have e3 : [c3] = [.int .i64 a3] := e3
  cases e0; cases e1; cases e2; cases e3
  exact ⟨(⟨a0, a1, l, a3⟩, c2), rfl, hv⟩
theorem C02 (h : DataW.trod enc PR w base spare held fuel 44 cs = some x) : ∃ s : StA, cs = A3Z s ∧ A6C w s := by
 obtain ⟨xs, n, _, rfl, hl, hxl, hf⟩ := DataW.trod_struct B8A.und h
 have hl4 : cs.length = 5 := hl.trans (by kernel_rfl)
 have hx4 : xs.length = 2 := hxl.trans (by kernel_rfl)
 match cs, hl4 with
 | [c0, c1, c2, c3, c4], _ =>
  have f0 := hf 0 _ rfl
  have f1 := hf 1 _ rfl
  rw [List.getElem?_eq_getElem (by omega)] at f0 f1
  obtain ⟨o, e0, ho⟩ := C4g f0
  obtain ⟨a1, e1, _⟩ := Y5 Tryz.underlying3 f1
  have g0 : [c0, c1, c2, c3] = [.int .i64 o.1.kind, .string o.1.packet, o.2, .int .i64 o.1.shard] := e0
  have g1 : [c4] = [.int .i64 a1] := e1
  simp only [List.cons.injEq, and_true] at g0 g1
  clear e0 e1
  obtain ⟨rfl, rfl, rfl, rfl⟩ := g0
  subst g1
  exact ⟨(o, a1), rfl, ho⟩
theorem B2a {r : Reach} {b0 : Nat} {v : Value} {d : DataW H} {ps : List MemPlace} (hval : Value.okWide PR w r b0 24 v) (hd : DataW.Trod enc PR w base spare held 24 v d ps) : ∃ l : List StA, E3 w v l.length (l.flatMap A3Z) ∧ (∀ a ∈ l, A6C w a) ∧ l.length ≤ maxLen :=
 B86 Tryz.underlying24 hval hd fun _ _ _ h => B7L (f := A3Z) (k := 5) (Q := A6C w) (fun _ => rfl) (by omega) Tryz.underlying24 (by kernel_rfl) h (fun n cs' y hy => C02 hy)
theorem C45 {v : Value} {cs : Array Value} {l : List Value} (hv : v = .agg cs) (h : v.cells.toList = l) : v = .agg l.toArray := by
 subst hv
 have : cs.toList = l := h
 rw [← this]
theorem B5T {r : Reach} {b0 : Nat} {v : Value} {d : DataW H} {ps : List MemPlace} (hval : Value.okWide PR w r b0 23 v) (hd : DataW.Trod enc PR w base spare held 23 v d ps) : ∃ c : CfgV, v = c.val := by
 obtain ⟨cs, e, _⟩ := okWide_struct A2m.und hval
 obtain ⟨fuel, hf⟩ := hd
 obtain ⟨c, h, _⟩ := C1y hf
 exact ⟨c, C45 e h⟩
end
end Go.Proofs.YtggakcpabomliaaGreat
namespace Go.Proofs.YtggakcpabomliaaGreat
open Go
@[simp] theorem C5Y {κ : Bool} {S : List Nat} {w0 : World} {H : List Res} {K0 : WP} {t : TypeId} {n : Nat} {z : Value} [h : TG t n z] {b o : Nat} {xs : Array Value} {l : List Rd} (hc : e9 w0 b o n = some xs.toList) (hS : b ∉ S) :
  TW κ S w0 H (watch PR ((none, Instr.loadAt t (.pointer (some ⟨b, o, none⟩)), .agg xs) :: l) K0) = TW κ S w0 H (watch PR l K0) := by
 obtain ⟨_, _, h, hd⟩ := h.ti
 refine A62 fun w hw => ?_
 have h2 := f7 hc
 have := k6 h hd h2.1 (hw.ks.row hS h2.2)
 simpa using this
end Go.Proofs.YtggakcpabomliaaGreat
namespace Go.Proofs.YtggakcpabomliaaGreat
open Go
def A0Q (X : Nat → Prop) (t0 t1 : Value) (R : Value → WP) : WP :=
 jn (n := 1) (fun t4 =>
 jn (n := 2) (fun t4_1 t5 =>
 R (.bool true)) fun J1 =>
 lp (n := 2) (fun L2 t4_2 t5_1 =>
 jn (n := 0) (
 jn (n := 1) (fun t4_3 =>
 A2 PR (binOp .add 3 t5_1 (.int .i64 1)) fun t16 =>
 L2 t4_3 t16) fun J3 =>
 drw <|
 A2 PR (Instr.indexAt 32 t0 t5_1) fun t19 =>
 A6 PR (Instr.loadAt 103 t19) fun t20 =>
 A2 PR (Instr.indexAt 32 t1 t5_1) fun t23 =>
 A6 PR (Instr.loadAt 103 t23) fun t24 =>
 A6 PR (N2 .neq 103 (.tmp 20) (.tmp 24) t20 t24) fun t25 =>
 B6 t25 (
 R (.bool false)) (
 J3 t4_2)) fun J4 =>
 A2 PR (A7 .len #[32] 0 [t0]) fun t13 =>
 A2 PR (binOp .lss 3 t5_1 t13) fun t14 =>
 B6 t14 (
 J4) (
 J1 t4_2 t5_1)) t4 (.int .i64 0)) fun J5 =>
 A2 PR (A7 .len #[32] 0 [t0]) fun t7 =>
 A2 PR (A7 .len #[32] 0 [t1]) fun t9 =>
 A2 PR (binOp .neq 3 t7 t9) fun t10 =>
 B6 t10 (
 R (.bool false)) (
 J5 (.bool false))
theorem A4Z : B0 PR 22 := A8 Tryz.func22 (by kernel_rfl) rfl
theorem A5p {X : Nat → Prop} {t0 t1 : Value} {R : Value → WP} {w : World} (h : A0Q X t0 t1 R w) : Fn PR X 22 #[t0, t1] w R := C7 (args := [t0, t1]) mixed Tryz.func22 (by kernel_rfl) h
def x3 (X : Nat → Prop) (t0 : Value) (R : Value → WP) : WP :=
 jn (n := 1) (fun t2 =>
 jn (n := 2) (fun t2_1 t3 =>
 R (.int .i64 0)) fun J1 =>
 lp (n := 2) (fun L2 t2_2 t3_1 =>
 jn (n := 0) (
 jn (n := 1) (fun t2_3 =>
 A2 PR (binOp .add 3 t3_1 (.int .i64 1)) fun t13 =>
 L2 t2_3 t13) fun J3 =>
 A2 PR (Instr.indexAt 32 t0 t3_1) fun t16 =>
 A6 PR (Instr.loadAt 103 t16) fun t17 =>
 B1 PR X (Instr.alloc 103 true (.tuple #[])) fun t4 =>
 B4 PR X (Instr.storeAt 103 t4 t17) <|
 A2 PR (Instr.fieldAt 103 t4 0) fun t18 =>
 A6 PR (Instr.loadAt 3 t18) fun t19 =>
 A2 PR (binOp .lss 3 t19 (.int .i64 1)) fun t20 =>
 gj t20 false (fun J => A2 PR (Instr.fieldAt 103 t4 0) J) fun t22 =>
 gj t20 false (fun J => A6 PR (Instr.loadAt 3 t22) J) fun t23 =>
 gj t20 false (fun J => A2 PR (binOp .gtr 3 t23 (.int .i64 65535)) J) fun t24 =>
 A2 PR (do pure (if ← asBool t20 then (.bool true) else t24)) fun t25 =>
 gj t25 false (fun J => A2 PR (Instr.fieldAt 103 t4 1) J) fun t27 =>
 gj t25 false (fun J => A6 PR (Instr.loadAt 3 t27) J) fun t28 =>
 gj t25 false (fun J => A2 PR (binOp .lss 3 t28 (.int .i64 1)) J) fun t29 =>
 A2 PR (do pure (if ← asBool t25 then (.bool true) else t29)) fun t30 =>
 gj t30 false (fun J => A2 PR (Instr.fieldAt 103 t4 1) J) fun t32 =>
 gj t30 false (fun J => A6 PR (Instr.loadAt 3 t32) J) fun t33 =>
 gj t30 false (fun J => A2 PR (binOp .gtr 3 t33 (.int .i64 16)) J) fun t34 =>
 A2 PR (do pure (if ← asBool t30 then (.bool true) else t34)) fun t35 =>
 gj t35 false (fun J => J t0) fun t37 =>
 gj t35 false (fun J => A2 PR (Instr.fieldAt 103 t4 0) J) fun t38 =>
 gj t35 false (fun J => A6 PR (Instr.loadAt 3 t38) J) fun t39 =>
 gj t35 false (fun J => B2 PR X 76 [t37, t39] J) fun t40 =>
 gj t35 false (fun J => J t3_1) fun t41 =>
 gj t35 false (fun J => A2 PR (binOp .neq 3 t40 t41) J) fun t42 =>
 A2 PR (do pure (if ← asBool t35 then (.bool true) else t42)) fun t43 =>
 B6 t43 (
 R (.int .i64 10)) (
 J3 t2_2)) fun J4 =>
 A2 PR (A7 .len #[32] 0 [t0]) fun t10 =>
 A2 PR (binOp .lss 3 t3_1 t10) fun t11 =>
 B6 t11 (
 J4) (
 J1 t2_2 t3_1)) t2 (.int .i64 0)) fun J5 =>
 A2 PR (A7 .len #[32] 0 [t0]) fun t6 =>
 A2 PR (binOp .gtr 3 t6 (.int .i64 32)) fun t7 =>
 B6 t7 (
 R (.int .i64 10)) (
 J5 (.int .i64 0))
theorem A3a : B0 PR 67 := A8 Tryz.func67 (by kernel_rfl) rfl
theorem A4J {X : Nat → Prop} {t0 : Value} {R : Value → WP} {w : World} (h : x3 X t0 R w) : Fn PR X 67 #[t0] w R := C7 (args := [t0]) mixed Tryz.func67 (by kernel_rfl) h
def A0u (X : Nat → Prop) (t0 t1 : Value) (R : Value → WP) : WP :=
 jn (n := 2) (fun t4 t5 =>
 R (.int .i64 (-1))) fun J1 =>
 lp (n := 2) (fun L2 t4_1 t5_1 =>
 jn (n := 0) (
 jn (n := 1) (fun t4_2 =>
 A2 PR (binOp .add 3 t5_1 (.int .i64 1)) fun t11 =>
 L2 t4_2 t11) fun J3 =>
 A2 PR (Instr.indexAt 32 t0 t5_1) fun t14 =>
 A2 PR (Instr.fieldAt 103 t14 0) fun t15 =>
 A6 PR (Instr.loadAt 3 t15) fun t16 =>
 A2 PR (binOp .eql 3 t16 t1) fun t18 =>
 B6 t18 (
 R t5_1) (
 J3 t4_1)) fun J4 =>
 A2 PR (A7 .len #[32] 0 [t0]) fun t8 =>
 A2 PR (binOp .lss 3 t5_1 t8) fun t9 =>
 B6 t9 (
 J4) (
 J1 t4_1 t5_1)) (.int .i64 0) (.int .i64 0)
theorem y9 : B0 PR 76 := A8 Tryz.func76 (by kernel_rfl) rfl
theorem A5r {X : Nat → Prop} {t0 t1 : Value} {R : Value → WP} {w : World} (h : A0u X t0 t1 R w) : Fn PR X 76 #[t0, t1] w R := C7 (args := [t0, t1]) mixed Tryz.func76 (by kernel_rfl) h
end Go.Proofs.YtggakcpabomliaaGreat
namespace Go.Proofs.YtggakcpabomliaaGreat
open Go
def A1J (X : Nat → Prop) (t0 : Value) (R : Value → WP) : WP :=
 A2 PR (A7 .min #[3, 3] 0 [t0, (.int .i64 64)]) fun t4 =>
 A2 PR (A7 .max #[3, 3] 0 [(.int .i64 0), t4]) fun t5 =>
 B1 PR X (Instr.makeSlice 50 t5 t5) fun t6 =>
 R t6
theorem A0U : B0 PR 60 := A8 Tryz.func60 (by kernel_rfl) rfl
theorem A6d {X : Nat → Prop} {t0 : Value} {R : Value → WP} {w : World} (h : A1J X t0 R w) : Fn PR X 60 #[t0] w R := C7 (args := [t0]) mixed Tryz.func60 (by kernel_rfl) h
def r8 (X : Nat → Prop) (t0 t1 : Value) (R : Value → WP) : WP :=
 B2 PR X 75 [t0, t1] fun t9 =>
 jn (n := 2) (fun t4 t5 =>
 B2 PR X 112 [t0, t9] fun t15 =>
 B2 PR X 113 [t15] fun t16 =>
 R (.tuple #[t16, (.bool true)])) fun J1 =>
 A2 PR (binOp .lss 3 t9 (.int .i64 0)) fun t11 =>
 B6 t11 (
 R (.tuple #[t0, (.bool false)])) (
 J1 (.slice none 0 0) (.bool false))
theorem A26 : B0 PR 79 := A8 Tryz.func79 (by kernel_rfl) rfl
theorem A3f {X : Nat → Prop} {t0 t1 : Value} {R : Value → WP} {w : World} (h : r8 X t0 t1 R w) : Fn PR X 79 #[t0, t1] w R := C7 (args := [t0, t1]) mixed Tryz.func79 (by kernel_rfl) h
def A07 (X : Nat → Prop) (t0 t1 t2 t3 : Value) (R : Value → WP) : WP :=
 B2 PR X 75 [t0, t1] fun t13 =>
 jn (n := 1) (fun t10 =>
 jn (n := 2) (fun t8 t9 =>
 A2 PR (Instr.build 71 #[(0, (.int .i64 1)), (1, t1), (2, t2), (3, t3)]) fun t27 =>
 B2 PR X 125 [t0, t10, t27] fun t28 =>
 R (.tuple #[t28, (.int .i64 0)])) fun J1 =>
 A2 PR (binOp .lss 3 t10 (.int .i64 0)) fun t20 =>
 B6 t20 (
 R (.tuple #[t0, (.int .i64 12)])) (
 J1 (.slice none 0 0) (.int .i64 0))) fun J2 =>
 A2 PR (binOp .lss 3 t13 (.int .i64 0)) fun t15 =>
 B6 t15 (
 B2 PR X 124 [t0, t1] fun t18 =>
 J2 t18) (
 J2 t13)
theorem d8 : B0 PR 80 := A8 Tryz.func80 (by kernel_rfl) rfl
theorem A6a {X : Nat → Prop} {t0 t1 t2 t3 : Value} {R : Value → WP} {w : World} (h : A07 X t0 t1 t2 t3 R w) : Fn PR X 80 #[t0, t1, t2, t3] w R := C7 (args := [t0, t1, t2, t3]) mixed Tryz.func80 (by kernel_rfl) h
def A0b (X : Nat → Prop) (t0 t1 : Value) (R : Value → WP) : WP :=
 A2 PR (Instr.build 71 #[(0, (.int .i64 2))]) fun t7 =>
 B2 PR X 125 [t0, t1, t7] fun t8 =>
 R t8
theorem A0D : B0 PR 112 := A8 Tryz.func112 (by kernel_rfl) rfl
theorem A5w {X : Nat → Prop} {t0 t1 : Value} {R : Value → WP} {w : World} (h : A0b X t0 t1 R w) : Fn PR X 112 #[t0, t1] w R := C7 (args := [t0, t1]) mixed Tryz.func112 (by kernel_rfl) h
def s5 (X : Nat → Prop) (t0 : Value) (R : Value → WP) : WP :=
 jn (n := 1) (fun t2 =>
 R t0) fun J1 =>
 B2 PR X 69 [t0, (.int .i64 2)] fun t4 =>
 A2 PR (binOp .mul 3 (.int .i64 2) t4) fun t5 =>
 A2 PR (A7 .len #[50] 0 [t0]) fun t7 =>
 A2 PR (binOp .gtr 3 t5 t7) fun t8 =>
 B6 t8 (
 B2 PR X 161 [t0] fun t10 =>
 R t10) (
 J1 (.slice none 0 0))
theorem A3G : B0 PR 113 := A8 Tryz.func113 (by kernel_rfl) rfl
theorem A3V {X : Nat → Prop} {t0 : Value} {R : Value → WP} {w : World} (h : s5 X t0 R w) : Fn PR X 113 #[t0] w R := C7 (args := [t0]) mixed Tryz.func113 (by kernel_rfl) h
def A0n (X : Nat → Prop) (t0 t1 t2 : Value) (R : Value → WP) : WP :=
 B1 PR X (Instr.box 71 t2) fun t5 =>
 jn (n := 2) (fun t7 t8 =>
 R t7) fun J1 =>
 lp (n := 2) (fun L2 t7_1 t8_1 =>
 jn (n := 0) (
 jn (n := 1) (fun t7_2 =>
 A2 PR (binOp .add 3 t8_1 (.int .i64 1)) fun t14 =>
 L2 t7_2 t14) fun J3 =>
 A2 PR (binOp .eql 3 t8_1 t1) fun t17 =>
 B6 t17 (
 A6 PR (Instr.loadAt 71 t5) fun t19 =>
 B1 PR X (Instr.buildSlice 50 1 #[(0, t19)]) fun t20 =>
 B1 PR X (A7 .append #[50, 50] 50 [t7_1, t20]) fun t21 =>
 J3 t21) (
 A2 PR (Instr.indexAt 50 t0 t8_1) fun t25 =>
 A6 PR (Instr.loadAt 71 t25) fun t26 =>
 B1 PR X (Instr.buildSlice 50 1 #[(0, t26)]) fun t27 =>
 B1 PR X (A7 .append #[50, 50] 50 [t7_1, t27]) fun t28 =>
 J3 t28)) fun J4 =>
 A2 PR (A7 .len #[50] 0 [t0]) fun t11 =>
 A2 PR (binOp .lss 3 t8_1 t11) fun t12 =>
 B6 t12 (
 J4) (
 J1 t7_1 t8_1)) (.slice none 0 0) (.int .i64 0)
theorem y6 : B0 PR 125 := A8 Tryz.func125 (by kernel_rfl) rfl
theorem A6A {X : Nat → Prop} {t0 t1 t2 : Value} {R : Value → WP} {w : World} (h : A0n X t0 t1 t2 R w) : Fn PR X 125 #[t0, t1, t2] w R := C7 (args := [t0, t1, t2]) mixed Tryz.func125 (by kernel_rfl) h
def A0L (X : Nat → Prop) (t0 : Value) (R : Value → WP) : WP :=
 A2 PR (A7 .len #[50] 0 [t0]) fun t8 =>
 B2 PR X 60 [t8] fun t9 =>
 jn (n := 2) (fun t3 t4 =>
 R t3) fun J1 =>
 lp (n := 2) (fun L2 t3_1 t4_1 =>
 jn (n := 0) (
 jn (n := 1) (fun t3_2 =>
 A2 PR (binOp .add 3 t4_1 (.int .i64 1)) fun t15 =>
 L2 t3_2 t15) fun J3 =>
 A2 PR (Instr.indexAt 50 t0 t4_1) fun t18 =>
 A2 PR (Instr.fieldAt 71 t18 0) fun t19 =>
 A6 PR (Instr.loadAt 3 t19) fun t20 =>
 A2 PR (binOp .eql 3 t20 (.int .i64 1)) fun t21 =>
 B6 t21 (
 drw <|
 A2 PR (Instr.indexAt 50 t0 t4_1) fun t26 =>
 A2 PR (Instr.fieldAt 71 t26 1) fun t27 =>
 A6 PR (Instr.loadAt 9 t27) fun t28 =>
 A2 PR (Instr.indexAt 50 t0 t4_1) fun t31 =>
 A2 PR (Instr.fieldAt 71 t31 2) fun t32 =>
 A6 PR (Instr.loadAt 3 t32) fun t33 =>
 A2 PR (Instr.indexAt 50 t0 t4_1) fun t36 =>
 A2 PR (Instr.fieldAt 71 t36 3) fun t37 =>
 A6 PR (Instr.loadAt 3 t37) fun t38 =>
 B2 PR X 80 [t3_1, t28, t33, t38] fun t39 =>
 A2 PR (Instr.extract t39 0) fun t40 =>
 A2 PR (Instr.extract t39 1) fun t41 =>
 J3 t40) (
 J3 t3_1)) fun J4 =>
 A2 PR (A7 .len #[50] 0 [t0]) fun t12 =>
 A2 PR (binOp .lss 3 t4_1 t12) fun t13 =>
 B6 t13 (
 J4) (
 J1 t3_1 t4_1)) t9 (.int .i64 0)
theorem A4T : B0 PR 161 := A8 Tryz.func161 (by kernel_rfl) rfl
theorem A5e {X : Nat → Prop} {t0 : Value} {R : Value → WP} {w : World} (h : A0L X t0 R w) : Fn PR X 161 #[t0] w R := C7 (args := [t0]) mixed Tryz.func161 (by kernel_rfl) h
end Go.Proofs.YtggakcpabomliaaGreat
namespace Go.Proofs.YtggakcpabomliaaGreat
open Go
def A0N (X : Nat → Prop) (t0 t1 : Value) (R : Value → WP) : WP :=
 jn (n := 1) (fun t4 =>
 jn (n := 2) (fun t4_1 t5 =>
 R (.bool true)) fun J1 =>
 lp (n := 2) (fun L2 t4_2 t5_1 =>
 jn (n := 0) (
 jn (n := 1) (fun t4_3 =>
 A2 PR (binOp .add 3 t5_1 (.int .i64 1)) fun t16 =>
 L2 t4_3 t16) fun J3 =>
 drw <|
 A2 PR (Instr.indexAt 50 t0 t5_1) fun t19 =>
 A6 PR (Instr.loadAt 71 t19) fun t20 =>
 A2 PR (Instr.indexAt 50 t1 t5_1) fun t23 =>
 A6 PR (Instr.loadAt 71 t23) fun t24 =>
 A6 PR (N2 .neq 71 (.tmp 20) (.tmp 24) t20 t24) fun t25 =>
 B6 t25 (
 R (.bool false)) (
 J3 t4_2)) fun J4 =>
 A2 PR (A7 .len #[50] 0 [t0]) fun t13 =>
 A2 PR (binOp .lss 3 t5_1 t13) fun t14 =>
 B6 t14 (
 J4) (
 J1 t4_2 t5_1)) t4 (.int .i64 0)) fun J5 =>
 A2 PR (A7 .len #[50] 0 [t0]) fun t7 =>
 A2 PR (A7 .len #[50] 0 [t1]) fun t9 =>
 A2 PR (binOp .neq 3 t7 t9) fun t10 =>
 B6 t10 (
 R (.bool false)) (
 J5 (.bool false))
theorem A4N : B0 PR 24 := A8 Tryz.func24 (by kernel_rfl) rfl
theorem A5y {X : Nat → Prop} {t0 t1 : Value} {R : Value → WP} {w : World} (h : A0N X t0 t1 R w) : Fn PR X 24 #[t0, t1] w R := C7 (args := [t0, t1]) mixed Tryz.func24 (by kernel_rfl) h
def A0B (X : Nat → Prop) (t0 t1 : Value) (R : Value → WP) : WP :=
 jn (n := 2) (fun t5 t6 =>
 R t5) fun J1 =>
 lp (n := 2) (fun L2 t5_1 t6_1 =>
 jn (n := 0) (
 jn (n := 1) (fun t5_2 =>
 A2 PR (binOp .add 3 t6_1 (.int .i64 1)) fun t12 =>
 L2 t5_2 t12) fun J3 =>
 A2 PR (Instr.indexAt 50 t0 t6_1) fun t15 =>
 A2 PR (Instr.fieldAt 71 t15 0) fun t16 =>
 A6 PR (Instr.loadAt 3 t16) fun t17 =>
 A2 PR (binOp .eql 3 t17 t1) fun t19 =>
 B6 t19 (
 A2 PR (binOp .add 3 t5_1 (.int .i64 1)) fun t21 =>
 J3 t21) (
 J3 t5_1)) fun J4 =>
 A2 PR (A7 .len #[50] 0 [t0]) fun t9 =>
 A2 PR (binOp .lss 3 t6_1 t9) fun t10 =>
 B6 t10 (
 J4) (
 J1 t5_1 t6_1)) (.int .i64 0) (.int .i64 0)
theorem q6 : B0 PR 69 := A8 Tryz.func69 (by kernel_rfl) rfl
theorem A38 {X : Nat → Prop} {t0 t1 : Value} {R : Value → WP} {w : World} (h : A0B X t0 t1 R w) : Fn PR X 69 #[t0, t1] w R := C7 (args := [t0, t1]) mixed Tryz.func69 (by kernel_rfl) h
def A0V (X : Nat → Prop) (t0 t1 : Value) (R : Value → WP) : WP :=
 A2 PR (A7 .len #[50] 0 [t0]) fun t10 =>
 B2 PR X 120 [t1, t10] fun t11 =>
 jn (n := 2) (fun t4 t6 =>
 R (.int .i64 (-1))) fun J1 =>
 lp (n := 2) (fun L2 t4_1 t6_1 =>
 jn (n := 0) (
 jn (n := 1) (fun t4_2 =>
 A2 PR (binOp .add 3 t6_1 (.int .i64 1)) fun t17 =>
 L2 t4_2 t17) fun J3 =>
 A2 PR (binOp .add 3 t11 t6_1) fun t20 =>
 A2 PR (A7 .len #[50] 0 [t0]) fun t22 =>
 A2 PR (binOp .rem 3 t20 t22) fun t23 =>
 jn (n := 1) (fun t4_3 =>
 A2 PR (Instr.indexAt 50 t0 t23) fun t32 =>
 A2 PR (Instr.fieldAt 71 t32 0) fun t33 =>
 A6 PR (Instr.loadAt 3 t33) fun t34 =>
 A2 PR (binOp .eql 3 t34 (.int .i64 1)) fun t35 =>
 gj t35 true (fun J => J t0) fun t37 =>
 gj t35 true (fun J => J t23) fun t38 =>
 gj t35 true (fun J => A2 PR (Instr.indexAt 50 t37 t38) J) fun t39 =>
 gj t35 true (fun J => A2 PR (Instr.fieldAt 71 t39 1) J) fun t40 =>
 gj t35 true (fun J => A6 PR (Instr.loadAt 9 t40) J) fun t41 =>
 gj t35 true (fun J => J t1) fun t42 =>
 gj t35 true (fun J => A2 PR (binOp .eql 9 t41 t42) J) fun t43 =>
 A2 PR (do pure (if ← asBool t35 then t43 else (.bool false))) fun t44 =>
 B6 t44 (
 R t23) (
 J3 t4_3)) fun J4 =>
 A2 PR (Instr.indexAt 50 t0 t23) fun t26 =>
 A2 PR (Instr.fieldAt 71 t26 0) fun t27 =>
 A6 PR (Instr.loadAt 3 t27) fun t28 =>
 A2 PR (binOp .eql 3 t28 (.int .i64 0)) fun t29 =>
 B6 t29 (
 R (.int .i64 (-1))) (
 J4 t4_1)) fun J5 =>
 A2 PR (A7 .len #[50] 0 [t0]) fun t14 =>
 A2 PR (binOp .lss 3 t6_1 t14) fun t15 =>
 B6 t15 (
 J5) (
 J1 t4_1 t6_1)) (.int .i64 0) (.int .i64 0)
theorem T9 : B0 PR 75 := A8 Tryz.func75 (by kernel_rfl) rfl
theorem A54 {X : Nat → Prop} {t0 t1 : Value} {R : Value → WP} {w : World} (h : A0V X t0 t1 R w) : Fn PR X 75 #[t0, t1] w R := C7 (args := [t0, t1]) mixed Tryz.func75 (by kernel_rfl) h
def A0K (X : Nat → Prop) (t0 t1 : Value) (R : Value → WP) : WP :=
 jn (n := 1) (fun t4 =>
 B2 PR X 78 [t0] fun t8 =>
 A2 PR (convert 3 68 t1) fun t10 =>
 A2 PR (binOp .rem 68 t8 t10) fun t11 =>
 A2 PR (convert 68 3 t11) fun t12 =>
 R t12) fun J1 =>
 A2 PR (binOp .lss 3 t1 (.int .i64 1)) fun t6 =>
 B6 t6 (
 R (.int .i64 0)) (
 J1 (.int .i64 0))
theorem y0 : B0 PR 120 := A8 Tryz.func120 (by kernel_rfl) rfl
theorem A5u {X : Nat → Prop} {t0 t1 : Value} {R : Value → WP} {w : World} (h : A0K X t0 t1 R w) : Fn PR X 120 #[t0, t1] w R := C7 (args := [t0, t1]) mixed Tryz.func120 (by kernel_rfl) h
def A0m (X : Nat → Prop) (t0 t1 : Value) (R : Value → WP) : WP :=
 jn (n := 1) (fun t4 =>
 A2 PR (A7 .len #[50] 0 [t0]) fun t14 =>
 B2 PR X 120 [t1, t14] fun t15 =>
 jn (n := 2) (fun t4_1 t6 =>
 R (.int .i64 (-1))) fun J1 =>
 lp (n := 2) (fun L2 t4_2 t6_1 =>
 jn (n := 0) (
 jn (n := 1) (fun t4_3 =>
 A2 PR (binOp .add 3 t6_1 (.int .i64 1)) fun t21 =>
 L2 t4_3 t21) fun J3 =>
 A2 PR (binOp .add 3 t15 t6_1) fun t24 =>
 A2 PR (A7 .len #[50] 0 [t0]) fun t26 =>
 A2 PR (binOp .rem 3 t24 t26) fun t27 =>
 A2 PR (Instr.indexAt 50 t0 t27) fun t30 =>
 A2 PR (Instr.fieldAt 71 t30 0) fun t31 =>
 A6 PR (Instr.loadAt 3 t31) fun t32 =>
 A2 PR (binOp .neq 3 t32 (.int .i64 1)) fun t33 =>
 B6 t33 (
 R t27) (
 J3 t4_2)) fun J4 =>
 A2 PR (A7 .len #[50] 0 [t0]) fun t18 =>
 A2 PR (binOp .lss 3 t6_1 t18) fun t19 =>
 B6 t19 (
 J4) (
 J1 t4_2 t6_1)) t4 (.int .i64 0)) fun J5 =>
 B2 PR X 75 [t0, t1] fun t10 =>
 A2 PR (binOp .geq 3 t10 (.int .i64 0)) fun t11 =>
 B6 t11 (
 R (.int .i64 (-1))) (
 J5 (.int .i64 0))
theorem A4S : B0 PR 124 := A8 Tryz.func124 (by kernel_rfl) rfl
theorem A5n {X : Nat → Prop} {t0 t1 : Value} {R : Value → WP} {w : World} (h : A0m X t0 t1 R w) : Fn PR X 124 #[t0, t1] w R := C7 (args := [t0, t1]) mixed Tryz.func124 (by kernel_rfl) h
end Go.Proofs.YtggakcpabomliaaGreat
namespace Go.Proofs.YtggakcpabomliaaGreat
open Go
end Go.Proofs.YtggakcpabomliaaGreat
namespace Go.Proofs.YtggakcpabomliaaGreat
open Go
def A1H (X : Nat → Prop) (t0 : Value) (R : Value → WP) : WP :=
 B2 PR X 123 [(.int .u64 14695981039346656037), t0] fun t4 =>
 R t4
theorem U5 : B0 PR 78 := A8 Tryz.func78 (by kernel_rfl) rfl
theorem A6H {X : Nat → Prop} {t0 : Value} {R : Value → WP} {w : World} (h : A1H X t0 R w) : Fn PR X 78 #[t0] w R := C7 (args := [t0]) mixed Tryz.func78 (by kernel_rfl) h
def A0P (X : Nat → Prop) (t0 t1 : Value) (R : Value → WP) : WP :=
 jn (n := 2) (fun t0_1 t5 =>
 R t0_1) fun J1 =>
 lp (n := 2) (fun L2 t0_2 t5_1 =>
 jn (n := 0) (
 jn (n := 1) (fun t0_3 =>
 A2 PR (binOp .add 3 t5_1 (.int .i64 1)) fun t11 =>
 L2 t0_3 t11) fun J3 =>
 A2 PR (Instr.index 9 t1 t5_1) fun t15 =>
 B2 PR X 167 [t0_2, t15] fun t16 =>
 J3 t16) fun J4 =>
 A2 PR (A7 .len #[9] 0 [t1]) fun t8 =>
 A2 PR (binOp .lss 3 t5_1 t8) fun t9 =>
 B6 t9 (
 J4) (
 J1 t0_2 t5_1)) t0 (.int .i64 0)
theorem A4a : B0 PR 123 := A8 Tryz.func123 (by kernel_rfl) rfl
theorem A5m {X : Nat → Prop} {t0 t1 : Value} {R : Value → WP} {w : World} (h : A0P X t0 t1 R w) : Fn PR X 123 #[t0, t1] w R := C7 (args := [t0, t1]) mixed Tryz.func123 (by kernel_rfl) h
def A0T (X : Nat → Prop) (t0 t1 : Value) (R : Value → WP) : WP :=
 A2 PR (convert 5 68 t1) fun t7 =>
 A2 PR (binOp .xor 68 t0 t7) fun t8 =>
 A2 PR (binOp .mul 68 t8 (.int .u64 1099511628211)) fun t9 =>
 R t9
theorem A4f : B0 PR 167 := A8 Tryz.func167 (by kernel_rfl) rfl
theorem A5d {X : Nat → Prop} {t0 t1 : Value} {R : Value → WP} {w : World} (h : A0T X t0 t1 R w) : Fn PR X 167 #[t0, t1] w R := C7 (args := [t0, t1]) mixed Tryz.func167 (by kernel_rfl) h
end Go.Proofs.YtggakcpabomliaaGreat
namespace Go.Proofs.YtggakcpabomliaaGreat
open Go
theorem C26 (w : World) (h b : Nat) (hh : h < 2 ^ 64) (hb : b < 256) : Fn PR B5 167 #[.int .u64 (h : Int), .int .u8 (b : Int)] w (fun v w' => v = .int .u64 (A3q h b : Nat) ∧ C0 [] w w') := by
 refine Fn.pure (A5d (TW.go (κ := false) (S := []) ?_))
 unfold A0T
 (have hQq := trivial; repeat ((first | clear hQq | (with_reducible first | refine A3 ?_ | refine A4 fun _ => ?_ | refine A5 fun _ => ?_)); (try simp (disch := first | omega | assumption | ((repeat (first | exact A0 | exact Up.here | apply A1 | apply Up.there)); first | done | fail) | (simp; first | done | omega | fail)) [])))
 have e1 : (h % 2 ^ IntKind.u64.bits ^^^ b % 2 ^ IntKind.u64.bits) = h ^^^ b := by rw [show (2 : Nat) ^ IntKind.u64.bits = 2 ^ 64 from rfl, Nat.mod_eq_of_lt hh, Nat.mod_eq_of_lt (by omega)]
 have e2 : h ^^^ b < 2 ^ 64 := Nat.xor_lt_two_pow hh (by omega)
 rw [e1, u6 (n := ((h ^^^ b : Nat) : Int)) (by omega) (by omega)]
 refine A9 ?_
 have e3 : IntKind.u64.wrap (((h ^^^ b : Nat) : Int) * 1099511628211) = (A3q h b : Nat) := by
  simp only [IntKind.wrap, IntKind.bits, IntKind.signed, A3q]
  simp
 rw [e3]
theorem C28 (w : World) (h : Nat) (s : ByteArray) (hh : h < 2 ^ 64) (hs : s.size < 2 ^ 60) : Fn PR B5 123 #[.int .u64 (h : Int), .string s] w (fun v w' => v = .int .u64 (A7p h s : Nat) ∧ C0 [] w w') := by
 refine Fn.pure (A5m (TW.go (κ := false) (S := []) ?_))
 unfold A0P
 (have hQq := trivial; repeat ((first | clear hQq | (with_reducible first | refine A3 ?_ | refine A4 fun _ => ?_ | refine A5 fun _ => ?_)); (try simp (disch := first | omega | assumption | ((repeat (first | exact A0 | exact Up.here | apply A1 | apply Up.there)); first | done | fail) | (simp; first | done | omega | fail)) [])))
 refine K3 s.size (fun i (_ : Unit) => .int .u64 (A0G h s i : Nat)) (fun _ _ => []) (fun _ _ => True) () trivial ?_
 rintro i _ hi _ L hL
 by_cases hlt : i < s.size
 ·obtain ⟨by0, hb0, hb1⟩ := m4 (s := s) (i := i) hlt
  have hb0' : s[((i : Nat) : Int).toNat]? = some by0 := by rw [Int.toNat_natCast]; exact hb0
  (have hQq := trivial; repeat ((first | clear hQq | (with_reducible first | refine A3 ?_ | refine A4 fun _ => ?_ | refine A5 fun _ => ?_)); (try simp (disch := first | omega | assumption | ((repeat (first | exact A0 | exact Up.here | apply A1 | apply Up.there)); first | done | fail) | (simp; first | done | omega | fail)) [hlt, Y0])))
  rw [hb1]
  refine B7 A4f (fun w' _ => C26 w' _ _ (B29 hh s i) (L9 s i)) ?_
  (have hQq := trivial; repeat ((first | clear hQq | (with_reducible first | refine A3 ?_ | refine A4 fun _ => ?_ | refine A5 fun _ => ?_)); (try simp (disch := first | omega | assumption | ((repeat (first | exact A0 | exact Up.here | apply A1 | apply Up.there)); first | done | fail) | (simp; first | done | omega | fail)) [])))
  exact hL hlt () trivial
 ·obtain rfl : i = s.size := by omega
  (have hQq := trivial; repeat ((first | clear hQq | (with_reducible first | refine A3 ?_ | refine A4 fun _ => ?_ | refine A5 fun _ => ?_)); (try simp (disch := first | omega | assumption | ((repeat (first | exact A0 | exact Up.here | apply A1 | apply Up.there)); first | done | fail) | (simp; first | done | omega | fail)) [])))
  exact A9 rfl
theorem A9a (w : World) (s : ByteArray) (hs : s.size < 2 ^ 60) : Fn PR B5 78 #[.string s] w (fun v w' => v = .int .u64 (Q6 s : Nat) ∧ C0 [] w w') := by
 refine Fn.pure (A6H (TW.go (κ := false) (S := []) ?_))
 unfold A1H
 refine B7 A4a (fun w' _ => C28 w' 14695981039346656037 s (by omega) hs) ?_
 exact A9 rfl
end Go.Proofs.YtggakcpabomliaaGreat
namespace Go.Proofs.YtggakcpabomliaaGreat
open Go
theorem B3H (w : World) (key : ByteArray) (n : Nat) (hk : key.size < 2 ^ 60) (hn : n ≤ 1000000) : Fn PR B5 120 #[.string key, .int .i64 (n : Int)] w (fun v w' => v = .int .i64 (if n = 0 then 0 else G2 key n : Nat) ∧ C0 [] w w') := by
 refine Fn.pure (A5u (TW.go (κ := false) (S := []) ?_))
 unfold A0K
 by_cases c1 : n = 0
 ·have c1' : (n : Int) < 1 := by omega
  (have hQq := trivial; repeat ((first | clear hQq | (with_reducible first | refine A3 ?_ | refine A4 fun _ => ?_ | refine A5 fun _ => ?_)); (try simp (disch := first | omega | assumption | ((repeat (first | exact A0 | exact Up.here | apply A1 | apply Up.there)); first | done | fail) | (simp; first | done | omega | fail)) [c1'])))
  exact A9 (by simp [c1])
 have c1' : ¬ (n : Int) < 1 := by omega
 have c1'' : ¬ (n : Int) = 0 := by omega
 (have hQq := trivial; repeat ((first | clear hQq | (with_reducible first | refine A3 ?_ | refine A4 fun _ => ?_ | refine A5 fun _ => ?_)); (try simp (disch := first | omega | assumption | ((repeat (first | exact A0 | exact Up.here | apply A1 | apply Up.there)); first | done | fail) | (simp; first | done | omega | fail)) [c1'])))
 refine B7 U5 (fun w' _ => A9a w' key hk) ?_
 have hl := A6F key
 have hm : G2 key n < n := Nat.mod_lt _ (by omega)
 have e1 : ((Q6 key : Nat) : Int).tmod n = (G2 key n : Nat) := by unfold G2; rw [Int.tmod_eq_emod_of_nonneg (by omega)]; omega
 have e2 : ((Q6 key : Nat) : Int) % n = (G2 key n : Nat) := by unfold G2; omega
 (have hQq := trivial; repeat ((first | clear hQq | (with_reducible first | refine A3 ?_ | refine A4 fun _ => ?_ | refine A5 fun _ => ?_)); (try simp (disch := first | omega | assumption | ((repeat (first | exact A0 | exact Up.here | apply A1 | apply Up.there)); first | done | fail) | (simp; first | done | omega | fail)) [c1'', e1, N3])))
 exact A9 (by simp [c1])
theorem B4m {l : List EnV} {key : ByteArray} {i : Nat} (hi : i < l.length) : (L8 l key).drop i = ((G2 key l.length + i) % l.length, l.getD ((G2 key l.length + i) % l.length) W9) :: (L8 l key).drop (i + 1) := by
 have h : i < (L8 l key).length := by simpa [L8] using hi
 rw [List.drop_eq_getElem_cons h]
 simp [L8]
theorem B7D {n h i : Nat} (hn : 0 < n) : ((h : Int) + (i : Int)).tmod (n : Int) = ((h + i) % n : Nat) := by
 rw [Int.tmod_eq_emod_of_nonneg (by omega), Int.natCast_emod, Int.natCast_add]
theorem A4v (w : World) (v : Value) (l : List EnV) (key : ByteArray) (hk : key.size < 2 ^ 60) (hn : l.length ≤ 1000000) (hv : E3 w v l.length (l.flatMap E1)) :
  Fn PR B5 75 #[v, .string key] w (fun r w' => r = .int .i64 (D9 l key) ∧ C0 [] w w') := by
 refine Fn.pure (A54 (TW.go (κ := false) (S := []) ?_))
 unfold A0V
 obtain ⟨a, c, rfl, hr⟩ := hv.form
 (have hQq := trivial; repeat ((first | clear hQq | (with_reducible first | refine A3 ?_ | refine A4 fun _ => ?_ | refine A5 fun _ => ?_)); (try simp (disch := first | omega | assumption | ((repeat (first | exact A0 | exact Up.here | apply A1 | apply Up.there)); first | done | fail) | (simp; first | done | omega | fail)) [])))
 refine B7 y0 (fun w' _ => B3H w' key l.length hk hn) ?_
 by_cases h0 : l.length = 0
 ·have h0' : ¬ (0 : Int) < l.length := by omega
  (have hQq := trivial; repeat ((first | clear hQq | (with_reducible first | refine A3 ?_ | refine A4 fun _ => ?_ | refine A5 fun _ => ?_)); (try simp (disch := first | omega | assumption | ((repeat (first | exact A0 | exact Up.here | apply A1 | apply Up.there)); first | done | fail) | (simp; first | done | omega | fail)) [h0])))
  refine K3 0 (fun _ _ => .int .i64 0) (fun _ (_ : Unit) => []) (fun _ _ => True) () trivial ?_
  rintro i _ hi _ L hL
  obtain rfl : i = 0 := by omega
  (have hQq := trivial; repeat ((first | clear hQq | (with_reducible first | refine A3 ?_ | refine A4 fun _ => ?_ | refine A5 fun _ => ?_)); (try simp (disch := first | omega | assumption | ((repeat (first | exact A0 | exact Up.here | apply A1 | apply Up.there)); first | done | fail) | (simp; first | done | omega | fail)) [h0, h0'])))
  refine A9 ?_
  have : l = [] := List.length_eq_zero_iff.1 h0
  subst this; rfl
 have hm : G2 key l.length < l.length := Nat.mod_lt _ (by omega)
 rw [if_neg h0]
 (have hQq := trivial; repeat ((first | clear hQq | (with_reducible first | refine A3 ?_ | refine A4 fun _ => ?_ | refine A5 fun _ => ?_)); (try simp (disch := first | omega | assumption | ((repeat (first | exact A0 | exact Up.here | apply A1 | apply Up.there)); first | done | fail) | (simp; first | done | omega | fail)) [])))
 refine K3 l.length (fun _ _ => .int .i64 0) (fun _ (_ : Unit) => []) (fun i _ => H4 key ((L8 l key).drop i) = D9 l key) () rfl ?_
 rintro i _ hi hφ L hL
 by_cases hlt : i < l.length
 ·obtain ⟨b, o, rfl, hrow⟩ := hr (by omega)
  rw [B4m hlt] at hφ
  have hq : (G2 key l.length + i) % l.length < l.length := Nat.mod_lt _ (by omega)
  have hrem := B7D (n := l.length) (h := G2 key l.length) (i := i) (by omega)
  have hnz : ¬ (l.length : Int) = 0 := by omega
  generalize (G2 key l.length + i) % l.length = q at *
  have hx := getD_some W9 hq
  have h1 := hrow.cellAt (f := E1) (k := 4) (j := 0) (fun _ => rfl) hx rfl
  have h2 := hrow.cellAt (f := E1) (k := 4) (j := 1) (fun _ => rfl) hx rfl
  generalize l.getD q W9 = x at *
  simp only [H4] at hφ
  by_cases c0 : x.st = 0
  ·rw [if_pos c0] at hφ
   (have hQq := trivial; repeat ((first | clear hQq | (with_reducible first | refine A3 ?_ | refine A4 fun _ => ?_ | refine A5 fun _ => ?_)); (try simp (disch := first | omega | assumption | ((repeat (first | exact A0 | exact Up.here | apply A1 | apply Up.there)); first | done | fail) | (simp; first | done | omega | fail)) [hlt, hrem, hnz, N3, c0])))
   exact A9 (by rw [← hφ])
  rw [if_neg c0] at hφ
  by_cases c1 : x.st = 1
  ·by_cases c2 : x.key = key
   ·rw [if_pos ⟨c1, c2⟩] at hφ
    (have hQq := trivial; repeat ((first | clear hQq | (with_reducible first | refine A3 ?_ | refine A4 fun _ => ?_ | refine A5 fun _ => ?_)); (try simp (disch := first | omega | assumption | ((repeat (first | exact A0 | exact Up.here | apply A1 | apply Up.there)); first | done | fail) | (simp; first | done | omega | fail)) [hlt, hrem, hnz, N3, c0, c1, c2])))
    exact A9 (by rw [← hφ])
   ·rw [if_neg (fun h => c2 h.2)] at hφ
    (have hQq := trivial; repeat ((first | clear hQq | (with_reducible first | refine A3 ?_ | refine A4 fun _ => ?_ | refine A5 fun _ => ?_)); (try simp (disch := first | omega | assumption | ((repeat (first | exact A0 | exact Up.here | apply A1 | apply Up.there)); first | done | fail) | (simp; first | done | omega | fail)) [hlt, hrem, hnz, N3, c0, c1, c2])))
    exact hL hlt () hφ
  ·rw [if_neg (fun h => c1 h.1)] at hφ
   (have hQq := trivial; repeat ((first | clear hQq | (with_reducible first | refine A3 ?_ | refine A4 fun _ => ?_ | refine A5 fun _ => ?_)); (try simp (disch := first | omega | assumption | ((repeat (first | exact A0 | exact Up.here | apply A1 | apply Up.there)); first | done | fail) | (simp; first | done | omega | fail)) [hlt, hrem, hnz, N3, c0, c1])))
   exact hL hlt () hφ
 ·obtain rfl : i = l.length := by omega
  have hwl : (L8 l key).length = l.length := by simp [L8]
  rw [List.drop_of_length_le (by omega)] at hφ
  (have hQq := trivial; repeat ((first | clear hQq | (with_reducible first | refine A3 ?_ | refine A4 fun _ => ?_ | refine A5 fun _ => ?_)); (try simp (disch := first | omega | assumption | ((repeat (first | exact A0 | exact Up.here | apply A1 | apply Up.there)); first | done | fail) | (simp; first | done | omega | fail)) [])))
  exact A9 (by rw [← hφ]; rfl)
theorem C05 (w : World) (v : Value) (l : List EnV) (key : ByteArray) (hk : key.size < 2 ^ 60) (hn : l.length ≤ 1000000) (hv : E3 w v l.length (l.flatMap E1)) :
  Fn PR B5 124 #[v, .string key] w (fun r w' => r = .int .i64 (Q8 l key) ∧ C0 [] w w') := by
 refine Fn.pure (A5n (TW.go (κ := false) (S := []) ?_))
 unfold A0m
 obtain ⟨a, c, rfl, hr⟩ := hv.form
 refine B7 T9 (fun w' hw' => A4v w' _ l key hk hn (hv.ks hw'.ks (by simp))) ?_
 by_cases cf : 0 ≤ D9 l key
 ·(have hQq := trivial; repeat ((first | clear hQq | (with_reducible first | refine A3 ?_ | refine A4 fun _ => ?_ | refine A5 fun _ => ?_)); (try simp (disch := first | omega | assumption | ((repeat (first | exact A0 | exact Up.here | apply A1 | apply Up.there)); first | done | fail) | (simp; first | done | omega | fail)) [cf])))
  exact A9 (by rw [Q8, if_pos cf])
 have hre : Q8 l key = M5 (L8 l key) := if_neg cf
 rw [hre]
 (have hQq := trivial; repeat ((first | clear hQq | (with_reducible first | refine A3 ?_ | refine A4 fun _ => ?_ | refine A5 fun _ => ?_)); (try simp (disch := first | omega | assumption | ((repeat (first | exact A0 | exact Up.here | apply A1 | apply Up.there)); first | done | fail) | (simp; first | done | omega | fail)) [cf])))
 refine B7 y0 (fun w' _ => B3H w' key l.length hk hn) ?_
 by_cases h0 : l.length = 0
 ·have h0' : ¬ (0 : Int) < l.length := by omega
  (have hQq := trivial; repeat ((first | clear hQq | (with_reducible first | refine A3 ?_ | refine A4 fun _ => ?_ | refine A5 fun _ => ?_)); (try simp (disch := first | omega | assumption | ((repeat (first | exact A0 | exact Up.here | apply A1 | apply Up.there)); first | done | fail) | (simp; first | done | omega | fail)) [h0])))
  refine K3 0 (fun _ _ => .int .i64 0) (fun _ (_ : Unit) => []) (fun _ _ => True) () trivial ?_
  rintro i _ hi _ L hL
  obtain rfl : i = 0 := by omega
  (have hQq := trivial; repeat ((first | clear hQq | (with_reducible first | refine A3 ?_ | refine A4 fun _ => ?_ | refine A5 fun _ => ?_)); (try simp (disch := first | omega | assumption | ((repeat (first | exact A0 | exact Up.here | apply A1 | apply Up.there)); first | done | fail) | (simp; first | done | omega | fail)) [h0, h0'])))
  refine A9 ?_
  have : l = [] := List.length_eq_zero_iff.1 h0
  subst this; rfl
 have hm : G2 key l.length < l.length := Nat.mod_lt _ (by omega)
 rw [if_neg h0]
 (have hQq := trivial; repeat ((first | clear hQq | (with_reducible first | refine A3 ?_ | refine A4 fun _ => ?_ | refine A5 fun _ => ?_)); (try simp (disch := first | omega | assumption | ((repeat (first | exact A0 | exact Up.here | apply A1 | apply Up.there)); first | done | fail) | (simp; first | done | omega | fail)) [])))
 refine K3 l.length (fun _ _ => .int .i64 0) (fun _ (_ : Unit) => []) (fun i _ => M5 ((L8 l key).drop i) = M5 (L8 l key)) () rfl ?_
 rintro i _ hi hφ L hL
 by_cases hlt : i < l.length
 ·obtain ⟨b, o, rfl, hrow⟩ := hr (by omega)
  rw [B4m hlt] at hφ
  have hq : (G2 key l.length + i) % l.length < l.length := Nat.mod_lt _ (by omega)
  have hrem := B7D (n := l.length) (h := G2 key l.length) (i := i) (by omega)
  have hnz : ¬ (l.length : Int) = 0 := by omega
  generalize (G2 key l.length + i) % l.length = q at *
  have hx := getD_some W9 hq
  have h1 := hrow.cellAt (f := E1) (k := 4) (j := 0) (fun _ => rfl) hx rfl
  generalize l.getD q W9 = x at *
  simp only [M5] at hφ
  by_cases c1 : x.st = 1
  ·rw [if_pos c1] at hφ
   (have hQq := trivial; repeat ((first | clear hQq | (with_reducible first | refine A3 ?_ | refine A4 fun _ => ?_ | refine A5 fun _ => ?_)); (try simp (disch := first | omega | assumption | ((repeat (first | exact A0 | exact Up.here | apply A1 | apply Up.there)); first | done | fail) | (simp; first | done | omega | fail)) [hlt, hrem, hnz, N3, c1])))
   exact hL hlt () hφ
  ·rw [if_neg c1] at hφ
   (have hQq := trivial; repeat ((first | clear hQq | (with_reducible first | refine A3 ?_ | refine A4 fun _ => ?_ | refine A5 fun _ => ?_)); (try simp (disch := first | omega | assumption | ((repeat (first | exact A0 | exact Up.here | apply A1 | apply Up.there)); first | done | fail) | (simp; first | done | omega | fail)) [hlt, hrem, hnz, N3, c1])))
   exact A9 (by rw [← hφ])
 ·obtain rfl : i = l.length := by omega
  have hwl : (L8 l key).length = l.length := by simp [L8]
  rw [List.drop_of_length_le (by omega)] at hφ
  (have hQq := trivial; repeat ((first | clear hQq | (with_reducible first | refine A3 ?_ | refine A4 fun _ => ?_ | refine A5 fun _ => ?_)); (try simp (disch := first | omega | assumption | ((repeat (first | exact A0 | exact Up.here | apply A1 | apply Up.there)); first | done | fail) | (simp; first | done | omega | fail)) [])))
  exact A9 (by rw [← hφ]; rfl)
theorem B9F (w : World) (u v : Value) (l m : List EnV) (hn : l.length ≤ 1000000) (hm : m.length ≤ 1000000) (hu : E3 w u l.length (l.flatMap E1)) (hv : E3 w v m.length (m.flatMap E1)) :
  Fn PR B5 24 #[u, v] w (fun r w' => r = .bool (decide (l = m)) ∧ C0 [] w w') := by
 refine Fn.pure (A5y (TW.go (κ := false) (S := []) ?_))
 unfold A0N
 obtain ⟨a, c, rfl, hr⟩ := hu.form
 obtain ⟨a', c', rfl, hr'⟩ := hv.form
 by_cases hlen : l.length = m.length
 case neg =>
  have hne : ¬ l = m := fun h => hlen (by rw [h])
  have hl' : ¬ ((l.length : Nat) : Int) = m.length := by omega
  (have hQq := trivial; repeat ((first | clear hQq | (with_reducible first | refine A3 ?_ | refine A4 fun _ => ?_ | refine A5 fun _ => ?_)); (try simp (disch := first | omega | assumption | ((repeat (first | exact A0 | exact Up.here | apply A1 | apply Up.there)); first | done | fail) | (simp; first | done | omega | fail)) [hl', hlen])))
  exact A9 (by simp [hne])
 (have hQq := trivial; repeat ((first | clear hQq | (with_reducible first | refine A3 ?_ | refine A4 fun _ => ?_ | refine A5 fun _ => ?_)); (try simp (disch := first | omega | assumption | ((repeat (first | exact A0 | exact Up.here | apply A1 | apply Up.there)); first | done | fail) | (simp; first | done | omega | fail)) [hlen])))
 refine K3 (α := Unit) m.length (fun _ _ => .bool false) (fun _ _ => []) (fun i _ => ∀ j, j < i → l[j]? = m[j]?) () (by intro j hj; omega) ?_
 rintro i _ hi hpre L hL
 by_cases hlt : i < m.length
 ·obtain ⟨b, o, rfl, hrow⟩ := hr (by omega)
  obtain ⟨b', o', rfl, hrow'⟩ := hr' (by omega)
  obtain ⟨x, hx⟩ : ∃ x, l[i]? = some x := ⟨_, List.getElem?_eq_getElem (by omega)⟩
  obtain ⟨y, hy⟩ : ∃ y, m[i]? = some y := ⟨_, List.getElem?_eq_getElem hlt⟩
  have h1 := hrow.at (f := E1) (k := 4) (fun _ => rfl) hx
  have h2 := hrow'.at (f := E1) (k := 4) (fun _ => rfl) hy
  rw [E1] at h1 h2
  by_cases he : x = y
  ·subst he
   (have hQq := trivial; repeat ((first | clear hQq | (with_reducible first | refine A3 ?_ | refine A4 fun _ => ?_ | refine A5 fun _ => ?_)); (try simp (disch := first | omega | assumption | ((repeat (first | exact A0 | exact Up.here | apply A1 | apply Up.there)); first | done | fail) | (simp; first | done | omega | fail)) [hlt, hlen, h1, h2])))
   refine Sels.tw .nil (hL hlt () ?_)
   intro j hj
   by_cases hji : j = i
   ·subst hji; rw [hx, hy]
   ·exact hpre j (by omega)
  ·have hne : ¬ l = m := fun h => he (by rw [h] at hx; rw [hx] at hy; exact Option.some.inj hy)
   have he' : ¬ (x.st = y.st ∧ x.key = y.key ∧ x.bk = y.bk ∧ x.dl = y.dl) := fun h => he (by cases x; cases y; simpa using h)
   (have hQq := trivial; repeat ((first | clear hQq | (with_reducible first | refine A3 ?_ | refine A4 fun _ => ?_ | refine A5 fun _ => ?_)); (try simp (disch := first | omega | assumption | ((repeat (first | exact A0 | exact Up.here | apply A1 | apply Up.there)); first | done | fail) | (simp; first | done | omega | fail)) [hlt, hlen, h1, h2])))
   refine B2y (fun _ => A9 (by simp [hne])) fun hc => absurd ?_ he'
   refine ⟨Classical.byContradiction fun h => hc (Or.inl h), Classical.byContradiction fun h => hc (Or.inr (Or.inl h)), Classical.byContradiction fun h => hc (Or.inr (Or.inr (Or.inl h))), Classical.byContradiction fun h => hc (Or.inr (Or.inr (Or.inr h)))⟩
 ·obtain rfl : i = m.length := by omega
  have : l = m := C0q hlen fun j hj => hpre j (by omega)
  (have hQq := trivial; repeat ((first | clear hQq | (with_reducible first | refine A3 ?_ | refine A4 fun _ => ?_ | refine A5 fun _ => ?_)); (try simp (disch := first | omega | assumption | ((repeat (first | exact A0 | exact Up.here | apply A1 | apply Up.there)); first | done | fail) | (simp; first | done | omega | fail)) [hlen])))
  exact A9 (by rw [decide_eq_true this])
theorem B1p (w : World) (v : Value) (l : List EnV) (st : Int) (hn : l.length ≤ 1000000) (hv : E3 w v l.length (l.flatMap E1)) :
  Fn PR B5 69 #[v, .int .i64 st] w (fun r w' => r = .int .i64 (F3 l st : Nat) ∧ C0 [] w w') := by
 refine Fn.pure (A38 (TW.go (κ := false) (S := []) ?_))
 unfold A0B
 obtain ⟨a, c, rfl, hr⟩ := hv.form
 (have hQq := trivial; repeat ((first | clear hQq | (with_reducible first | refine A3 ?_ | refine A4 fun _ => ?_ | refine A5 fun _ => ?_)); (try simp (disch := first | omega | assumption | ((repeat (first | exact A0 | exact Up.here | apply A1 | apply Up.there)); first | done | fail) | (simp; first | done | omega | fail)) [])))
 refine K3 (α := Unit) l.length (fun i _ => .int .i64 (F3 (l.take i) st : Nat)) (fun _ _ => []) (fun _ _ => True) () trivial ?_
 rintro i _ hi _ L hL
 by_cases hlt : i < l.length
 ·obtain ⟨b, o, rfl, hrow⟩ := hr (by omega)
  have hx : l[i]? = some l[i] := List.getElem?_eq_getElem hlt
  have h1 := hrow.cellAt (f := E1) (k := 4) (j := 0) (fun _ => rfl) hx rfl
  have hc := B0F (p := fun x : EnV => decide (x.st = st)) hx
  have hle : F3 (l.take i) st ≤ i := Nat.le_trans List.countP_le_length (by simp; omega)
  have e : F3 (l.take (i + 1)) st = F3 (l.take i) st + if decide (l[i].st = st) then 1 else 0 := hc
  have hw1 : IntKind.i64.wrap (((F3 (l.take i) st : Nat) : Int) + 1) = ((F3 (l.take i) st : Nat) : Int) + 1 := U1 (by omega) (by omega)
  by_cases c1 : l[i].st = st
  ·(have hQq := trivial; repeat ((first | clear hQq | (with_reducible first | refine A3 ?_ | refine A4 fun _ => ?_ | refine A5 fun _ => ?_)); (try simp (disch := first | omega | assumption | ((repeat (first | exact A0 | exact Up.here | apply A1 | apply Up.there)); first | done | fail) | (simp; first | done | omega | fail)) [hlt, h1, c1, hw1])))
   have h := hL hlt () trivial
   rw [e, if_pos (by simpa using c1)] at h
   simpa using h
  ·(have hQq := trivial; repeat ((first | clear hQq | (with_reducible first | refine A3 ?_ | refine A4 fun _ => ?_ | refine A5 fun _ => ?_)); (try simp (disch := first | omega | assumption | ((repeat (first | exact A0 | exact Up.here | apply A1 | apply Up.there)); first | done | fail) | (simp; first | done | omega | fail)) [hlt, h1, c1])))
   have h := hL hlt () trivial
   rw [e, if_neg (by simpa using c1)] at h
   simpa using h
 ·obtain rfl : i = l.length := by omega
  (have hQq := trivial; repeat ((first | clear hQq | (with_reducible first | refine A3 ?_ | refine A4 fun _ => ?_ | refine A5 fun _ => ?_)); (try simp (disch := first | omega | assumption | ((repeat (first | exact A0 | exact Up.here | apply A1 | apply Up.there)); first | done | fail) | (simp; first | done | omega | fail)) [])))
  exact A9 rfl
end Go.Proofs.YtggakcpabomliaaGreat
namespace Go.Proofs.YtggakcpabomliaaGreat
open Go
theorem C13 {α : Type} {l : List α} {i at' : Nat} {x y : α} (hy : l[i]? = some y) : (l.set at' x).take (i + 1) = (l.set at' x).take i ++ [if i = at' then x else y] := by
 have hi := (List.getElem?_eq_some_iff.1 hy).1
 rw [List.take_add_one]
 by_cases c : i = at'
 ·subst c; rw [List.getElem?_set_self hi]; simp
 ·rw [List.getElem?_set_ne (Ne.symm c), hy]; simp [c]
theorem B3J (w : World) (v : Value) (l : List EnV) (at' : Nat) (x : EnV) (hn : l.length ≤ 1000000) (hv : E3 w v l.length (l.flatMap E1)) :
  Fn PR B5 125 #[v, .int .i64 (at' : Int), .agg #[.int .i64 x.st, .string x.key, .int .i64 x.bk, .int .i64 x.dl]] w (Rn [] w (fun r u => u = r) fun r => [F2 r (l.set at' x)]) := by
 refine A6A (TW.go (κ := false) (S := []) ?_)
 unfold A0n
 obtain ⟨a, c, rfl, hr⟩ := hv.form
 (have hQq := trivial; repeat ((first | clear hQq | (with_reducible first | refine A3 ?_ | refine A4 fun _ => ?_ | refine A5 fun _ => ?_)); (try simp (disch := first | omega | assumption | ((repeat (first | exact A0 | exact Up.here | apply A1 | apply Up.there)); first | done | fail) | (simp; first | done | omega | fail)) [])))
 rename_i bx
 refine l6 71 4 ?_
 refine K3 l.length (fun i (y : Option Addr × Nat) => .slice y.1 i y.2) (fun i y => [.own 71 4 (.slice y.1 i y.2) i (((l.set at' x).take i).flatMap E1), .pt bx (.cells #[.int .i64 x.st, .string x.key, .int .i64 x.bk, .int .i64 x.dl] 71)]) (fun i y => True) (none, 0) trivial ?_ (by simp)
 rintro i ⟨ya, yc⟩ hi _ L hL
 by_cases hlt : i < l.length
 ·have hx : l[i]? = some l[i] := List.getElem?_eq_getElem hlt
  obtain ⟨b, o, rfl, hrow⟩ := hr (by omega)
  have h1 := hrow.at (f := E1) (k := 4) (fun _ => rfl) hx
  rw [E1] at h1
  have hst := C13 (at' := at') (x := x) hx
  by_cases c1 : i = at'
  ·rw [if_pos c1] at hst
   subst c1
   (have hQq := trivial; repeat ((first | clear hQq | (with_reducible first | refine A3 ?_ | refine A4 fun _ => ?_ | refine A5 fun _ => ?_ | refine D4 fun _ => ?_ | refine D3 (hK := fun _ => ?_) | refine D1 (hK := fun _ => ?_) | refine D2 (hK := fun _ => ?_) | refine D6 (hK := fun _ => ?_) | refine D5 (hK := fun _ => ?_))); (try simp (disch := first | omega | assumption | ((repeat (first | exact A0 | exact Up.here | apply A1 | apply Up.there)); first | done | fail) | (simp; first | done | omega | fail)) [hlt])))
   refine l0 (e := 71) (k := 4) (q := i) (r := 1) (xs := ((l.set i x).take i).flatMap E1) (news := E1 x) (by ((repeat (first | exact A0 | exact Up.here | exact Sel.here | apply A1 | apply Up.there | apply Sel.there)); first | done | fail)) (K6.own (by ((repeat (first | exact A0 | exact Up.here | exact Sel.here | apply A1 | apply Up.there | apply Sel.there)); first | done | fail))) (by decide) rfl (by simp [E1]) (by simp only [maxLen]; omega) (by omega) fun a' c' => ?_
   (have hQq := trivial; repeat ((first | clear hQq | (with_reducible first | refine A3 ?_ | refine A4 fun _ => ?_ | refine A5 fun _ => ?_)); (try simp (disch := first | omega | assumption | ((repeat (first | exact A0 | exact Up.here | apply A1 | apply Up.there)); first | done | fail) | (simp; first | done | omega | fail)) [])))
   have h2 := hL hlt (a', c') trivial
   rw [hst, List.flatMap_append, show [x].flatMap E1 = E1 x by simp] at h2
   exact Sels.tw (by ((repeat (first | exact Sels.nil | (apply Sels.cons; · ((repeat (first | exact A0 | exact Up.here | exact Sel.here | apply A1 | apply Up.there | apply Sel.there)); first | done | fail)))); first | done | fail)) h2
  ·rw [if_neg c1] at hst
   have c1' : ¬ (i : Int) = (at' : Int) := by omega
   (have hQq := trivial; repeat ((first | clear hQq | (with_reducible first | refine A3 ?_ | refine A4 fun _ => ?_ | refine A5 fun _ => ?_ | refine D4 fun _ => ?_ | refine D3 (hK := fun _ => ?_) | refine D1 (hK := fun _ => ?_) | refine D2 (hK := fun _ => ?_) | refine D6 (hK := fun _ => ?_) | refine D5 (hK := fun _ => ?_))); (try simp (disch := first | omega | assumption | ((repeat (first | exact A0 | exact Up.here | apply A1 | apply Up.there)); first | done | fail) | (simp; first | done | omega | fail)) [hlt, c1, c1', h1])))
   refine l0 (e := 71) (k := 4) (q := i) (r := 1) (xs := ((l.set at' x).take i).flatMap E1) (news := E1 l[i]) (by ((repeat (first | exact A0 | exact Up.here | exact Sel.here | apply A1 | apply Up.there | apply Sel.there)); first | done | fail)) (K6.own (by ((repeat (first | exact A0 | exact Up.here | exact Sel.here | apply A1 | apply Up.there | apply Sel.there)); first | done | fail))) (by decide) rfl (by simp [E1]) (by simp only [maxLen]; omega) (by omega) fun a' c' => ?_
   (have hQq := trivial; repeat ((first | clear hQq | (with_reducible first | refine A3 ?_ | refine A4 fun _ => ?_ | refine A5 fun _ => ?_)); (try simp (disch := first | omega | assumption | ((repeat (first | exact A0 | exact Up.here | apply A1 | apply Up.there)); first | done | fail) | (simp; first | done | omega | fail)) [])))
   have h2 := hL hlt (a', c') trivial
   rw [hst, List.flatMap_append, show [l[i]].flatMap E1 = E1 l[i] by simp] at h2
   exact Sels.tw (by ((repeat (first | exact Sels.nil | (apply Sels.cons; · ((repeat (first | exact A0 | exact Up.here | exact Sel.here | apply A1 | apply Up.there | apply Sel.there)); first | done | fail)))); first | done | fail)) h2
 ·obtain rfl : i = l.length := by omega
  (have hQq := trivial; repeat ((first | clear hQq | (with_reducible first | refine A3 ?_ | refine A4 fun _ => ?_ | refine A5 fun _ => ?_)); (try simp (disch := first | omega | assumption | ((repeat (first | exact A0 | exact Up.here | apply A1 | apply Up.there)); first | done | fail) | (simp; first | done | omega | fail)) [])))
  refine C6 (.slice ya l.length yc) rfl ?_
  rw [List.take_of_length_le (by simp)]
  simp only [F2, List.length_set]
  ((repeat (first | exact Sels.nil | (apply Sels.cons; · ((repeat (first | exact A0 | exact Up.here | exact Sel.here | apply A1 | apply Up.there | apply Sel.there)); first | done | fail)))); first | done | fail)
theorem B0Q (w : World) (v : Value) (l : List EnV) (key : ByteArray) (bk dl : Int) (hk : key.size < 2 ^ 60) (hn : l.length ≤ 1000000) (hv : E3 w v l.length (l.flatMap E1)) :
  Fn PR B5 80 #[v, .string key, .int .i64 bk, .int .i64 dl] w (Rn [] w (fun r u => u = .tuple #[if (F6 l ⟨1, key, bk, dl⟩).isSome then r else v, .int .i64 (if (F6 l ⟨1, key, bk, dl⟩).isSome then 0 else 12)]) fun r => if (F6 l ⟨1, key, bk, dl⟩).isSome then [F2 r ((F6 l ⟨1, key, bk, dl⟩).getD l)] else []) := by
 refine A6a (TW.go (κ := false) (S := []) ?_)
 unfold A07
 have hwith : ∀ (q : Nat) (K : Value → WP), F6 l ⟨1, key, bk, dl⟩ = some (l.set q ⟨1, key, bk, dl⟩) → (∀ r, TW false [] w [F2 r (l.set q ⟨1, key, bk, dl⟩)] (K r)) → TW false [] w [] (B2 PR B5 125 [v, .int .i64 (q : Int), .agg #[.int .i64 1, .string key, .int .i64 bk, .int .i64 dl]] K) := fun q K _ hK => by
  refine F8 y6 (fun w' hw' => B3J w' v l q ⟨1, key, bk, dl⟩ hn (hv.ks hw'.ks (by simp))) ?_
  intro _ r hr
  subst hr
  exact hK r
 refine B7 T9 (fun w' hw' => A4v w' _ l key hk hn (hv.ks hw'.ks (by simp))) ?_
 by_cases c1 : D9 l key < 0
 ·(have hQq := trivial; repeat ((first | clear hQq | (with_reducible first | refine A3 ?_ | refine A4 fun _ => ?_ | refine A5 fun _ => ?_)); (try simp (disch := first | omega | assumption | ((repeat (first | exact A0 | exact Up.here | apply A1 | apply Up.there)); first | done | fail) | (simp; first | done | omega | fail)) [c1])))
  refine B7 A4S (fun w' hw' => C05 w' _ l key hk hn (hv.ks hw'.ks (by simp))) ?_
  by_cases c2 : Q8 l key < 0
  ·have e : F6 l ⟨1, key, bk, dl⟩ = none := by unfold F6; simp only; rw [if_pos c1, if_pos c2]
   (have hQq := trivial; repeat ((first | clear hQq | (with_reducible first | refine A3 ?_ | refine A4 fun _ => ?_ | refine A5 fun _ => ?_)); (try simp (disch := first | omega | assumption | ((repeat (first | exact A0 | exact Up.here | apply A1 | apply Up.there)); first | done | fail) | (simp; first | done | omega | fail)) [c2])))
   rw [e]
   exact C6 v (by simp) (by simpa using Sels.nil)
  ·have e : F6 l ⟨1, key, bk, dl⟩ = some (l.set (Q8 l key).toNat ⟨1, key, bk, dl⟩) := by unfold F6; simp only; rw [if_pos c1, if_neg c2]
   (have hQq := trivial; repeat ((first | clear hQq | (with_reducible first | refine A3 ?_ | refine A4 fun _ => ?_ | refine A5 fun _ => ?_)); (try simp (disch := first | omega | assumption | ((repeat (first | exact A0 | exact Up.here | apply A1 | apply Up.there)); first | done | fail) | (simp; first | done | omega | fail)) [c2])))
   rw [show Q8 l key = ((Q8 l key).toNat : Int) by omega]
   refine hwith _ _ e fun r => ?_
   (have hQq := trivial; repeat ((first | clear hQq | (with_reducible first | refine A3 ?_ | refine A4 fun _ => ?_ | refine A5 fun _ => ?_)); (try simp (disch := first | omega | assumption | ((repeat (first | exact A0 | exact Up.here | apply A1 | apply Up.there)); first | done | fail) | (simp; first | done | omega | fail)) [])))
   rw [e]
   exact C6 r (by simp) (by simpa using Sels.cons Sel.here Sels.nil)
 ·have e : F6 l ⟨1, key, bk, dl⟩ = some (l.set (D9 l key).toNat ⟨1, key, bk, dl⟩) := by unfold F6; simp only; rw [if_neg c1, if_neg c1]
  (have hQq := trivial; repeat ((first | clear hQq | (with_reducible first | refine A3 ?_ | refine A4 fun _ => ?_ | refine A5 fun _ => ?_)); (try simp (disch := first | omega | assumption | ((repeat (first | exact A0 | exact Up.here | apply A1 | apply Up.there)); first | done | fail) | (simp; first | done | omega | fail)) [c1])))
  rw [show D9 l key = ((D9 l key).toNat : Int) by omega]
  refine hwith _ _ e fun r => ?_
  (have hQq := trivial; repeat ((first | clear hQq | (with_reducible first | refine A3 ?_ | refine A4 fun _ => ?_ | refine A5 fun _ => ?_)); (try simp (disch := first | omega | assumption | ((repeat (first | exact A0 | exact Up.here | apply A1 | apply Up.there)); first | done | fail) | (simp; first | done | omega | fail)) [])))
  rw [e]
  exact C6 r (by simp) (by simpa using Sels.cons Sel.here Sels.nil)
theorem B3a (w : World) (v : Value) (l : List EnV) (at' : Nat) (hn : l.length ≤ 1000000) (hv : E3 w v l.length (l.flatMap E1)) :
  Fn PR B5 112 #[v, .int .i64 (at' : Int)] w (Rn [] w (fun r u => u = r) fun r => [F2 r (l.set at' P4)]) := by
 refine A5w (TW.go (κ := false) (S := []) ?_)
 unfold A0b
 (have hQq := trivial; repeat ((first | clear hQq | (with_reducible first | refine A3 ?_ | refine A4 fun _ => ?_ | refine A5 fun _ => ?_)); (try simp (disch := first | omega | assumption | ((repeat (first | exact A0 | exact Up.here | apply A1 | apply Up.there)); first | done | fail) | (simp; first | done | omega | fail)) [])))
 refine F8 y6 (fun w' hw' => B3J w' v l at' P4 hn (hv.ks hw'.ks (by simp))) ?_
 intro _ r hr
 subst hr
 exact C6 r rfl (by ((repeat (first | exact Sels.nil | (apply Sels.cons; · ((repeat (first | exact A0 | exact Up.here | exact Sel.here | apply A1 | apply Up.there | apply Sel.there)); first | done | fail)))); first | done | fail))
theorem B6B (w : World) (n : Nat) (hn : n ≤ 1000000) : Fn PR B5 60 #[.int .i64 (n : Int)] w (Rn [] w (fun r u => u = r) fun r => [F2 r (newE n)]) := by
 refine A6d (TW.go (κ := false) (S := []) ?_)
 unfold A1J
 have e : max 0 (min (n : Int) 64) = ((min n 64 : Nat) : Int) := by omega
 (have hQq := trivial; repeat ((first | clear hQq | (with_reducible first | refine A3 ?_ | refine A4 fun _ => ?_ | refine A5 fun _ => ?_)); (try simp (disch := first | omega | assumption | ((repeat (first | exact A0 | exact Up.here | apply A1 | apply Up.there)); first | done | fail) | (simp; first | done | omega | fail)) [])))
 rw [e]
 refine B2M (by omega) (by omega) (by omega) (by omega) fun b => ?_
 rw [Int.toNat_natCast, C3A]
 refine C6 _ rfl ?_
 simp only [F2, newE, List.length_replicate]
 ((repeat (first | exact Sels.nil | (apply Sels.cons; · ((repeat (first | exact A0 | exact Up.here | exact Sel.here | apply A1 | apply Up.there | apply Sel.there)); first | done | fail)))); first | done | fail)
def l5 (l : List EnV) (i : Nat) : List EnV := (N4 (l.take i)).foldl (fun acc p => T7 acc p.2) (newE l.length)
theorem B77 {l : List EnV} {i : Nat} {x : EnV} (hx : l[i]? = some x) : l5 l (i + 1) = if x.st = 1 then T7 (l5 l i) x else l5 l i := by
 unfold l5
 rw [B04 hx, List.foldl_append]
 split <;> rfl
theorem B9Z (l : List EnV) (i : Nat) : (l5 l i).length = min l.length 64 := by unfold l5; rw [B0J, A3W]
theorem B9k (w : World) (v : Value) (l : List EnV) (hks : H6 l) (hn : l.length ≤ 1000000) (hv : E3 w v l.length (l.flatMap E1)) :
  Fn PR B5 161 #[v] w (Rn [] w (fun r u => u = r) fun r => [F2 r (V8 l)]) := by
 refine A5e (TW.go (κ := false) (S := []) ?_)
 unfold A0L
 obtain ⟨a, c, rfl, hr⟩ := hv.form
 (have hQq := trivial; repeat ((first | clear hQq | (with_reducible first | refine A3 ?_ | refine A4 fun _ => ?_ | refine A5 fun _ => ?_)); (try simp (disch := first | omega | assumption | ((repeat (first | exact A0 | exact Up.here | apply A1 | apply Up.there)); first | done | fail) | (simp; first | done | omega | fail)) [])))
 refine F8 A0U (fun w' _ => B6B w' l.length hn) ?_
 intro _ r0 hr0
 subst hr0
 (have hQq := trivial; repeat ((first | clear hQq | (with_reducible first | refine A3 ?_ | refine A4 fun _ => ?_ | refine A5 fun _ => ?_)); (try simp (disch := first | omega | assumption | ((repeat (first | exact A0 | exact Up.here | apply A1 | apply Up.there)); first | done | fail) | (simp; first | done | omega | fail)) [])))
 refine K3 l.length (fun i (r : Value) => r) (fun i r => [F2 r (l5 l i)]) (fun i r => True) r0 trivial ?_ (by simp [l5, N4, Z3])
 rintro i r hi _ L hL
 by_cases hlt : i < l.length
 ·have hx : l[i]? = some l[i] := List.getElem?_eq_getElem hlt
  obtain ⟨b, o, rfl, hrow⟩ := hr (by omega)
  have h0 := hrow.cellAt (f := E1) (k := 4) (j := 0) (fun _ => rfl) hx rfl
  have h1 := hrow.cellAt (f := E1) (k := 4) (j := 1) (fun _ => rfl) hx rfl
  have h2 := hrow.cellAt (f := E1) (k := 4) (j := 2) (fun _ => rfl) hx rfl
  have h3 := hrow.cellAt (f := E1) (k := 4) (j := 3) (fun _ => rfl) hx rfl
  have hst := B77 hx
  have hkx : l[i].key.size < 2 ^ 60 := hks _ (List.getElem_mem hlt)
  have hlen := B9Z l i
  by_cases c1 : l[i].st = 1
  ·rw [if_pos c1] at hst
   (have hQq := trivial; repeat ((first | clear hQq | (with_reducible first | refine A3 ?_ | refine A4 fun _ => ?_ | refine A5 fun _ => ?_)); (try simp (disch := first | omega | assumption | ((repeat (first | exact A0 | exact Up.here | apply A1 | apply Up.there)); first | done | fail) | (simp; first | done | omega | fail)) [hlt, h0, h1, h2, h3, c1])))
   refine F8 d8 (fun w' hw' => B0Q w' r (l5 l i) l[i].key l[i].bk l[i].dl hkx (by omega) (K6.own (by ((repeat (first | exact A0 | exact Up.here | exact Sel.here | apply A1 | apply Up.there | apply Sel.there)); first | done | fail)) w' hw')) ?_
   have hxe : (⟨1, l[i].key, l[i].bk, l[i].dl⟩ : EnV) = l[i] := by cases hl : l[i]; rw [hl] at c1; simp only at c1; subst c1; rfl
   rintro r2 _ rfl
   rw [hxe]
   cases hp : F6 (l5 l i) l[i] with
   | none =>
    have e2 : T7 (l5 l i) l[i] = l5 l i := by unfold T7; rw [hp]; rfl
    (have hQq := trivial; repeat ((first | clear hQq | (with_reducible first | refine A3 ?_ | refine A4 fun _ => ?_ | refine A5 fun _ => ?_)); (try simp (disch := first | omega | assumption | ((repeat (first | exact A0 | exact Up.here | apply A1 | apply Up.there)); first | done | fail) | (simp; first | done | omega | fail)) [])))
    have h := hL hlt r trivial
    rw [hst, e2] at h
    exact Sels.tw (by ((repeat (first | exact Sels.nil | (apply Sels.cons; · ((repeat (first | exact A0 | exact Up.here | exact Sel.here | apply A1 | apply Up.there | apply Sel.there)); first | done | fail)))); first | done | fail)) h
   | some u =>
    have e2 : T7 (l5 l i) l[i] = u := by unfold T7; rw [hp]; rfl
    (have hQq := trivial; repeat ((first | clear hQq | (with_reducible first | refine A3 ?_ | refine A4 fun _ => ?_ | refine A5 fun _ => ?_)); (try simp (disch := first | omega | assumption | ((repeat (first | exact A0 | exact Up.here | apply A1 | apply Up.there)); first | done | fail) | (simp; first | done | omega | fail)) [])))
    have h := hL hlt r2 trivial
    rw [hst, e2] at h
    exact Sels.tw (by ((repeat (first | exact Sels.nil | (apply Sels.cons; · ((repeat (first | exact A0 | exact Up.here | exact Sel.here | apply A1 | apply Up.there | apply Sel.there)); first | done | fail)))); first | done | fail)) h
  ·rw [if_neg c1] at hst
   (have hQq := trivial; repeat ((first | clear hQq | (with_reducible first | refine A3 ?_ | refine A4 fun _ => ?_ | refine A5 fun _ => ?_)); (try simp (disch := first | omega | assumption | ((repeat (first | exact A0 | exact Up.here | apply A1 | apply Up.there)); first | done | fail) | (simp; first | done | omega | fail)) [hlt, h0, c1])))
   have h := hL hlt r trivial
   rw [hst] at h
   exact Sels.tw (by ((repeat (first | exact Sels.nil | (apply Sels.cons; · ((repeat (first | exact A0 | exact Up.here | exact Sel.here | apply A1 | apply Up.there | apply Sel.there)); first | done | fail)))); first | done | fail)) h
 ·obtain rfl : i = l.length := by omega
  have e : l5 l l.length = V8 l := by unfold l5 V8; rw [List.take_length]
  (have hQq := trivial; repeat ((first | clear hQq | (with_reducible first | refine A3 ?_ | refine A4 fun _ => ?_ | refine A5 fun _ => ?_)); (try simp (disch := first | omega | assumption | ((repeat (first | exact A0 | exact Up.here | apply A1 | apply Up.there)); first | done | fail) | (simp; first | done | omega | fail)) [])))
  rw [e]
  exact C6 r rfl (by ((repeat (first | exact Sels.nil | (apply Sels.cons; · ((repeat (first | exact A0 | exact Up.here | exact Sel.here | apply A1 | apply Up.there | apply Sel.there)); first | done | fail)))); first | done | fail))
theorem B63 (w : World) (v : Value) (l : List EnV) (hks : H6 l) (hn : l.length ≤ 1000000) (hv : E3 w v l.length (l.flatMap E1)) :
  Fn PR B5 113 #[v] w (Rn [] w (fun r u => u = if l.length < 2 * F3 l 2 then r else v) fun r => if l.length < 2 * F3 l 2 then [F2 r (H0 l)] else []) := by
 refine A3V (TW.go (κ := false) (S := []) ?_)
 unfold s5
 obtain ⟨a, c, rfl, hr⟩ := hv.form
 refine B7 q6 (fun w' hw' => B1p w' _ l 2 hn (hv.ks hw'.ks (by simp))) ?_
 have hle : F3 l 2 ≤ l.length := List.countP_le_length
 have hw2 : IntKind.i64.wrap (2 * ((F3 l 2 : Nat) : Int)) = 2 * ((F3 l 2 : Nat) : Int) := U1 (by omega) (by omega)
 by_cases c1 : l.length < 2 * F3 l 2
 ·have c1' : (l.length : Int) < 2 * ((F3 l 2 : Nat) : Int) := by omega
  have e : H0 l = V8 l := by unfold H0; rw [if_pos c1]
  (have hQq := trivial; repeat ((first | clear hQq | (with_reducible first | refine A3 ?_ | refine A4 fun _ => ?_ | refine A5 fun _ => ?_)); (try simp (disch := first | omega | assumption | ((repeat (first | exact A0 | exact Up.here | apply A1 | apply Up.there)); first | done | fail) | (simp; first | done | omega | fail)) [hw2, c1'])))
  refine F8 A4T (fun w' hw' => B9k w' _ l hks hn (hv.ks hw'.ks (by simp))) ?_
  intro _ r hr
  subst hr
  refine C6 r (by simp [c1]) ?_
  rw [if_pos c1, e]
  ((repeat (first | exact Sels.nil | (apply Sels.cons; · ((repeat (first | exact A0 | exact Up.here | exact Sel.here | apply A1 | apply Up.there | apply Sel.there)); first | done | fail)))); first | done | fail)
 ·have c1' : ¬ (l.length : Int) < 2 * ((F3 l 2 : Nat) : Int) := by omega
  (have hQq := trivial; repeat ((first | clear hQq | (with_reducible first | refine A3 ?_ | refine A4 fun _ => ?_ | refine A5 fun _ => ?_)); (try simp (disch := first | omega | assumption | ((repeat (first | exact A0 | exact Up.here | apply A1 | apply Up.there)); first | done | fail) | (simp; first | done | omega | fail)) [hw2, c1'])))
  refine C6 .nilIface (by simp [c1]) ?_
  rw [if_neg c1]
  exact Sels.nil
theorem B2D {w : World} {H : List Res} {K : Value → WP} {r : Value} {l : List EnV} (hks : H6 l) (hn : l.length ≤ 1000000) (hK : ∀ r, TW false [] w (F2 r (H0 l) :: H) (K r)) :
  TW false [] w (F2 r l :: H) (B2 PR B5 113 [r] K) := by
 refine F8 A3G (fun w' hw' => B63 w' r l hks hn (K6.own A0 w' hw')) ?_
 rintro r2 _ rfl
 by_cases c1 : l.length < 2 * F3 l 2
 ·rw [if_pos c1, if_pos c1]
  exact TW.sub (hK r2) (List.Sublist.cons_cons _ (List.sublist_cons_self ..))
 ·rw [if_neg c1, if_neg c1]
  have e : H0 l = l := by unfold H0; rw [if_neg c1]
  have := hK r
  rw [e] at this
  exact this
theorem B6f (w : World) (v : Value) (l : List EnV) (key : ByteArray) (hk : key.size < 2 ^ 60) (hks : H6 l) (hn : l.length ≤ 1000000) (hv : E3 w v l.length (l.flatMap E1)) :
  Fn PR B5 79 #[v, .string key] w (Rn [] w (fun r u => u = .tuple #[if (T8 l key).isSome then r else v, .bool (T8 l key).isSome]) fun r => if (T8 l key).isSome then [F2 r (A03 l key)] else []) := by
 refine A3f (TW.go (κ := false) (S := []) ?_)
 unfold r8
 refine B7 T9 (fun w' hw' => A4v w' _ l key hk hn (hv.ks hw'.ks (by simp))) ?_
 by_cases c1 : D9 l key < 0
 ·have e : T8 l key = none := by unfold T8; rw [if_pos c1]
  (have hQq := trivial; repeat ((first | clear hQq | (with_reducible first | refine A3 ?_ | refine A4 fun _ => ?_ | refine A5 fun _ => ?_)); (try simp (disch := first | omega | assumption | ((repeat (first | exact A0 | exact Up.here | apply A1 | apply Up.there)); first | done | fail) | (simp; first | done | omega | fail)) [c1])))
  exact C6 .nilIface (by simp [e]) (by rw [e]; exact Sels.nil)
 ·have e : T8 l key = some (l.set (D9 l key).toNat P4) := by unfold T8; rw [if_neg c1]
  have e2 : A03 l key = H0 (l.set (D9 l key).toNat P4) := by unfold A03; rw [e]
  (have hQq := trivial; repeat ((first | clear hQq | (with_reducible first | refine A3 ?_ | refine A4 fun _ => ?_ | refine A5 fun _ => ?_)); (try simp (disch := first | omega | assumption | ((repeat (first | exact A0 | exact Up.here | apply A1 | apply Up.there)); first | done | fail) | (simp; first | done | omega | fail)) [c1])))
  have hq : D9 l key = ((D9 l key).toNat : Int) := by omega
  rw [hq]
  refine F8 A0D (fun w' hw' => B3a w' v l (D9 l key).toNat hn (hv.ks hw'.ks (by simp))) ?_
  intro _ r hr
  subst hr
  refine B2D (A66 hks B5V) (by simpa using hn) fun r2 => ?_
  refine C6 r2 (by simp [e]) ?_
  simp only [e, Option.isSome_some, if_true, e2]
  ((repeat (first | exact Sels.nil | (apply Sels.cons; · ((repeat (first | exact A0 | exact Up.here | exact Sel.here | apply A1 | apply Up.there | apply Sel.there)); first | done | fail)))); first | done | fail)
end Go.Proofs.YtggakcpabomliaaGreat
namespace Go.Proofs.YtggakcpabomliaaGreat
open Go
def A1d (X : Nat → Prop) (t0 : Value) (R : Value → WP) : WP :=
 jn (n := 2) (fun t3 t4 =>
 B2 PR X 166 [t3] fun t41 =>
 R t41) fun J1 =>
 lp (n := 2) (fun L2 t3_1 t4_1 =>
 jn (n := 0) (
 jn (n := 2) (fun t3_2 t5 =>
 A2 PR (binOp .add 3 t4_1 (.int .i64 1)) fun t11 =>
 L2 t3_2 t11) fun J3 =>
 lp (n := 2) (fun L4 t3_3 t5_1 =>
 jn (n := 0) (
 jn (n := 1) (fun t3_4 =>
 A2 PR (binOp .add 3 t5_1 (.int .i64 1)) fun t23 =>
 L4 t3_4 t23) fun J5 =>
 drw <|
 A2 PR (Instr.indexAt 32 t0 t4_1) fun t27 =>
 A2 PR (Instr.fieldAt 103 t27 0) fun t28 =>
 A6 PR (Instr.loadAt 3 t28) fun t29 =>
 A2 PR (Instr.indexAt 32 t0 t4_1) fun t34 =>
 A2 PR (Instr.fieldAt 103 t34 0) fun t35 =>
 A6 PR (Instr.loadAt 3 t35) fun t36 =>
 B2 PR X 165 [t29, t5_1] fun t31 =>
 watch PR [(none, (Instr.loadAt 3 t35), t36)] <|
 A2 PR (Instr.build 199 #[(0, t31), (1, t36)]) fun t37 =>
 B1 PR X (Instr.buildSlice 146 1 #[(0, t37)]) fun t38 =>
 B1 PR X (A7 .append #[146, 146] 146 [t3_3, t38]) fun t39 =>
 J5 t39) fun J6 =>
 A2 PR (Instr.indexAt 32 t0 t4_1) fun t15 =>
 A2 PR (Instr.fieldAt 103 t15 1) fun t16 =>
 A6 PR (Instr.loadAt 3 t16) fun t17 =>
 A2 PR (A7 .min #[3, 3] 0 [t17, (.int .i64 16)]) fun t18 =>
 A2 PR (A7 .max #[3, 3] 0 [(.int .i64 0), t18]) fun t19 =>
 A2 PR (binOp .mul 3 (.int .i64 8) t19) fun t20 =>
 A2 PR (binOp .lss 3 t5_1 t20) fun t21 =>
 B6 t21 (
 J6) (
 J3 t3_3 t5_1)) t3_1 (.int .i64 0)) fun J7 =>
 A2 PR (A7 .len #[32] 0 [t0]) fun t8 =>
 A2 PR (binOp .lss 3 t4_1 t8) fun t9 =>
 B6 t9 (
 J7) (
 J1 t3_1 t4_1)) (.slice none 0 0) (.int .i64 0)
theorem A6Q : B0 PR 122 := A8 Tryz.func122 (by kernel_rfl) rfl
theorem A7m {X : Nat → Prop} {t0 : Value} {R : Value → WP} {w : World} (h : A1d X t0 R w) : Fn PR X 122 #[t0] w R := C7 (args := [t0]) mixed Tryz.func122 (by kernel_rfl) h
def A0d (X : Nat → Prop) (t0 t1 : Value) (R : Value → WP) : WP :=
 A2 PR (convert 3 68 t0) fun t6 =>
 B2 PR X 159 [t6, (.int .i64 4)] fun t7 =>
 A2 PR (convert 3 68 t1) fun t9 =>
 B2 PR X 159 [t9, (.int .i64 2)] fun t10 =>
 A2 PR (binOp .add 9 t7 t10) fun t11 =>
 A2 PR (binOp .add 9 t11 (.string (ByteArray.mk #[0, 0, 0, 0]))) fun t12 =>
 B2 PR X 78 [t12] fun t13 =>
 R t13
theorem A4V : B0 PR 165 := A8 Tryz.func165 (by kernel_rfl) rfl
theorem A5S {X : Nat → Prop} {t0 t1 : Value} {R : Value → WP} {w : World} (h : A0d X t0 t1 R w) : Fn PR X 165 #[t0, t1] w R := C7 (args := [t0, t1]) mixed Tryz.func165 (by kernel_rfl) h
def d9 (X : Nat → Prop) (t0 : Value) (R : Value → WP) : WP :=
 jn (n := 1) (fun t2 =>
 A2 PR (A7 .len #[146] 0 [t0]) fun t9 =>
 A2 PR (binOp .quo 3 t9 (.int .i64 2)) fun t10 =>
 drw <|
 A2 PR (Instr.sliceAt 146 t0 none (some t10) none) fun t13 =>
 A2 PR (Instr.sliceAt 146 t0 (some t10) none none) fun t17 =>
 B2 PR X 166 [t13] fun t14 =>
 B2 PR X 166 [t17] fun t18 =>
 B2 PR X 196 [t14, t18] fun t19 =>
 R t19) fun J1 =>
 A2 PR (A7 .len #[146] 0 [t0]) fun t5 =>
 A2 PR (binOp .lss 3 t5 (.int .i64 2)) fun t6 =>
 B6 t6 (
 R t0) (
 J1 (.slice none 0 0))
theorem v8 : B0 PR 166 := A8 Tryz.func166 (by kernel_rfl) rfl
theorem A0g {X : Nat → Prop} {t0 : Value} {R : Value → WP} {w : World} (h : d9 X t0 R w) : Fn PR X 166 #[t0] w R := C7 (args := [t0]) mixed Tryz.func166 (by kernel_rfl) h
def z6 (X : Nat → Prop) (t0 t1 : Value) (R : Value → WP) : WP :=
 jn (n := 3) (fun t6 t5 t7 =>
 R t5) fun J1 =>
 lp (n := 3) (fun L2 t6_1 t5_1 t7_1 =>
 jn (n := 0) (
 drw <|
 A2 PR (A7 .len #[146] 0 [t1]) fun t20 =>
 A2 PR (binOp .geq 3 t7_1 t20) fun t21 =>
 gj t21 false (fun J => J t6_1) fun t23 =>
 gj t21 false (fun J => J t0) fun t24 =>
 gj t21 false (fun J => A2 PR (A7 .len #[146] 0 [t24]) J) fun t25 =>
 gj t21 false (fun J => A2 PR (binOp .lss 3 t23 t25) J) fun t26 =>
 gj t21 false (fun J => J t26) fun t27 =>
 gj t27 true (fun J => J t1) fun t28 =>
 gj t27 true (fun J => J t7_1) fun t29 =>
 gj t27 true (fun J => A2 PR (Instr.indexAt 146 t28 t29) J) fun t30 =>
 gj t27 true (fun J => A6 PR (Instr.loadAt 199 t30) J) fun t31 =>
 gj t27 true (fun J => J t0) fun t32 =>
 gj t27 true (fun J => J t6_1) fun t33 =>
 gj t27 true (fun J => A2 PR (Instr.indexAt 146 t32 t33) J) fun t34 =>
 gj t27 true (fun J => A6 PR (Instr.loadAt 199 t34) J) fun t35 =>
 gj t27 true (fun J => B2 PR X 216 [t31, t35] J) fun t36 =>
 gj t27 true (fun J => A2 PR (Op.unary .not t36) J) fun t37 =>
 gj t21 false (fun J => A2 PR (do pure (if ← asBool t27 then t37 else (.bool false))) J) fun t38 =>
 A2 PR (do pure (if ← asBool t21 then (.bool true) else t38)) fun t39 =>
 B6 t39 (
 A2 PR (Instr.indexAt 146 t0 t6_1) fun t43 =>
 A6 PR (Instr.loadAt 199 t43) fun t44 =>
 B1 PR X (Instr.buildSlice 146 1 #[(0, t44)]) fun t45 =>
 B1 PR X (A7 .append #[146, 146] 146 [t5_1, t45]) fun t46 =>
 A2 PR (binOp .add 3 t6_1 (.int .i64 1)) fun t48 =>
 L2 t48 t46 t7_1) (
 A2 PR (Instr.indexAt 146 t1 t7_1) fun t52 =>
 A6 PR (Instr.loadAt 199 t52) fun t53 =>
 B1 PR X (Instr.buildSlice 146 1 #[(0, t53)]) fun t54 =>
 B1 PR X (A7 .append #[146, 146] 146 [t5_1, t54]) fun t55 =>
 A2 PR (binOp .add 3 t7_1 (.int .i64 1)) fun t57 =>
 L2 t6_1 t55 t57)) fun J3 =>
 A2 PR (A7 .len #[146] 0 [t0]) fun t10 =>
 A2 PR (binOp .lss 3 t6_1 t10) fun t11 =>
 gj t11 false (fun J => J t7_1) fun t13 =>
 gj t11 false (fun J => J t1) fun t14 =>
 gj t11 false (fun J => A2 PR (A7 .len #[146] 0 [t14]) J) fun t15 =>
 gj t11 false (fun J => A2 PR (binOp .lss 3 t13 t15) J) fun t16 =>
 A2 PR (do pure (if ← asBool t11 then (.bool true) else t16)) fun t17 =>
 B6 t17 (
 J3) (
 J1 t6_1 t5_1 t7_1)) (.int .i64 0) (.slice none 0 0) (.int .i64 0)
theorem A3z : B0 PR 196 := A8 Tryz.func196 (by kernel_rfl) rfl
theorem A4Y {X : Nat → Prop} {t0 t1 : Value} {R : Value → WP} {w : World} (h : z6 X t0 t1 R w) : Fn PR X 196 #[t0, t1] w R := C7 (args := [t0, t1]) mixed Tryz.func196 (by kernel_rfl) h
def A0q (X : Nat → Prop) (t0 t1 : Value) (R : Value → WP) : WP :=
 B1 PR X (Instr.box 199 t0) fun t2 =>
 B1 PR X (Instr.box 199 t1) fun t3 =>
 A2 PR (Instr.fieldAt 199 t2 0) fun t5 =>
 A6 PR (Instr.loadAt 68 t5) fun t6 =>
 A2 PR (Instr.fieldAt 199 t3 0) fun t7 =>
 A6 PR (Instr.loadAt 68 t7) fun t8 =>
 A2 PR (binOp .lss 68 t6 t8) fun t9 =>
 gj t9 false (fun J => A2 PR (Instr.fieldAt 199 t2 0) J) fun t11 =>
 gj t9 false (fun J => A6 PR (Instr.loadAt 68 t11) J) fun t12 =>
 gj t9 false (fun J => A2 PR (Instr.fieldAt 199 t3 0) J) fun t13 =>
 gj t9 false (fun J => A6 PR (Instr.loadAt 68 t13) J) fun t14 =>
 gj t9 false (fun J => A2 PR (binOp .eql 68 t12 t14) J) fun t15 =>
 gj t9 false (fun J => J t15) fun t16 =>
 gj t16 true (fun J => A2 PR (Instr.fieldAt 199 t2 1) J) fun t17 =>
 gj t16 true (fun J => A6 PR (Instr.loadAt 3 t17) J) fun t18 =>
 gj t16 true (fun J => A2 PR (Instr.fieldAt 199 t3 1) J) fun t19 =>
 gj t16 true (fun J => A6 PR (Instr.loadAt 3 t19) J) fun t20 =>
 gj t16 true (fun J => A2 PR (binOp .lss 3 t18 t20) J) fun t21 =>
 gj t9 false (fun J => A2 PR (do pure (if ← asBool t16 then t21 else (.bool false))) J) fun t22 =>
 A2 PR (do pure (if ← asBool t9 then (.bool true) else t22)) fun t23 =>
 R t23
theorem A4C : B0 PR 216 := A8 Tryz.func216 (by kernel_rfl) rfl
theorem A5W {X : Nat → Prop} {t0 t1 : Value} {R : Value → WP} {w : World} (h : A0q X t0 t1 R w) : Fn PR X 216 #[t0, t1] w R := C7 (args := [t0, t1]) mixed Tryz.func216 (by kernel_rfl) h
end Go.Proofs.YtggakcpabomliaaGreat
namespace Go.Proofs.YtggakcpabomliaaGreat
open Go
def A0Y (X : Nat → Prop) (t0 t1 : Value) (R : Value → WP) : WP :=
 B2 PR X 122 [t0] fun t6 =>
 B2 PR X 121 [t6, t1] fun t8 =>
 R t8
theorem A4j : B0 PR 77 := A8 Tryz.func77 (by kernel_rfl) rfl
theorem A52 {X : Nat → Prop} {t0 t1 : Value} {R : Value → WP} {w : World} (h : A0Y X t0 t1 R w) : Fn PR X 77 #[t0, t1] w R := C7 (args := [t0, t1]) mixed Tryz.func77 (by kernel_rfl) h
def A0r (X : Nat → Prop) (t0 t1 : Value) (R : Value → WP) : WP :=
 jn (n := 2) (fun t4 t5 =>
 jn (n := 1) (fun t4_1 =>
 A2 PR (Instr.indexAt 146 t0 (.int .i64 0)) fun t28 =>
 A2 PR (Instr.fieldAt 199 t28 1) fun t29 =>
 A6 PR (Instr.loadAt 3 t29) fun t30 =>
 R t30) fun J1 =>
 A2 PR (A7 .len #[146] 0 [t0]) fun t25 =>
 A2 PR (binOp .eql 3 t25 (.int .i64 0)) fun t26 =>
 B6 t26 (
 R (.int .i64 (-1))) (
 J1 t4)) fun J2 =>
 lp (n := 2) (fun L3 t4_2 t5_1 =>
 jn (n := 0) (
 jn (n := 1) (fun t4_3 =>
 A2 PR (binOp .add 3 t5_1 (.int .i64 1)) fun t11 =>
 L3 t4_3 t11) fun J4 =>
 A2 PR (Instr.indexAt 146 t0 t5_1) fun t14 =>
 A2 PR (Instr.fieldAt 199 t14 0) fun t15 =>
 A6 PR (Instr.loadAt 68 t15) fun t16 =>
 A2 PR (binOp .geq 68 t16 t1) fun t18 =>
 B6 t18 (
 A2 PR (Instr.indexAt 146 t0 t5_1) fun t21 =>
 A2 PR (Instr.fieldAt 199 t21 1) fun t22 =>
 A6 PR (Instr.loadAt 3 t22) fun t23 =>
 R t23) (
 J4 t4_2)) fun J5 =>
 A2 PR (A7 .len #[146] 0 [t0]) fun t8 =>
 A2 PR (binOp .lss 3 t5_1 t8) fun t9 =>
 B6 t9 (
 J5) (
 J2 t4_2 t5_1)) (.int .i64 0) (.int .i64 0)
theorem A4A : B0 PR 121 := A8 Tryz.func121 (by kernel_rfl) rfl
theorem A5P {X : Nat → Prop} {t0 t1 : Value} {R : Value → WP} {w : World} (h : A0r X t0 t1 R w) : Fn PR X 121 #[t0, t1] w R := C7 (args := [t0, t1]) mixed Tryz.func121 (by kernel_rfl) h
end Go.Proofs.YtggakcpabomliaaGreat
namespace Go.Proofs.YtggakcpabomliaaGreat
open Go
def A1E (X : Nat → Prop) (t0 t1 : Value) (R : Value → WP) : WP :=
 jn (n := 1) (fun t4 =>
 jn (n := 3) (fun t5 t0_1 t6 =>
 R t5) fun J1 =>
 lp (n := 3) (fun L2 t5_1 t0_2 t6_1 =>
 jn (n := 0) (
 jn (n := 2) (fun t5_2 t0_3 =>
 A2 PR (binOp .add 3 t6_1 (.int .i64 1)) fun t17 =>
 L2 t5_2 t0_3 t17) fun J3 =>
 A2 PR (binOp .rem 68 t0_2 (.int .u64 256)) fun t19 =>
 A2 PR (convert 68 5 t19) fun t20 =>
 B1 PR X (Instr.buildSlice 218 1 #[(0, t20)]) fun t21 =>
 A6 PR (convert 218 9 t21) fun t22 =>
 A2 PR (binOp .add 9 t22 t5_1) fun t24 =>
 A2 PR (binOp .quo 68 t0_2 (.int .u64 256)) fun t26 =>
 J3 t24 t26) fun J4 =>
 A2 PR (binOp .lss 3 t6_1 t1) fun t15 =>
 B6 t15 (
 J4) (
 J1 t5_1 t0_2 t6_1)) (.string (ByteArray.mk #[])) t0 (.int .i64 0)) fun J5 =>
 A2 PR (binOp .lss 3 t1 (.int .i64 1)) fun t8 =>
 gj t8 false (fun J => J t1) fun t10 =>
 gj t8 false (fun J => A2 PR (binOp .gtr 3 t10 (.int .i64 8)) J) fun t11 =>
 A2 PR (do pure (if ← asBool t8 then (.bool true) else t11)) fun t12 =>
 B6 t12 (
 R (.string (ByteArray.mk #[]))) (
 J5 (.string (ByteArray.mk #[])))
theorem N1 : B0 PR 159 := A8 Tryz.func159 (by kernel_rfl) rfl
theorem A6s {X : Nat → Prop} {t0 t1 : Value} {R : Value → WP} {w : World} (h : A1E X t0 t1 R w) : Fn PR X 159 #[t0, t1] w R := C7 (args := [t0, t1]) mixed Tryz.func159 (by kernel_rfl) h
def A1A (X : Nat → Prop) (t0 t1 t2 : Value) (R : Value → WP) : WP :=
 jn (n := 2) (fun t6 t7 =>
 jn (n := 2) (fun t8 t9 =>
 R (.tuple #[t8, (.bool true)])) fun J1 =>
 lp (n := 2) (fun L2 t8_1 t9_1 =>
 jn (n := 0) (
 jn (n := 1) (fun t8_2 =>
 A2 PR (binOp .add 3 t9_1 (.int .i64 1)) fun t38 =>
 L2 t8_2 t38) fun J3 =>
 A2 PR (binOp .mul 68 t8_1 (.int .u64 256)) fun t40 =>
 A2 PR (binOp .add 3 t1 t9_1) fun t44 =>
 A2 PR (Instr.index 9 t0 t44) fun t45 =>
 A2 PR (convert 5 68 t45) fun t46 =>
 A2 PR (binOp .add 68 t40 t46) fun t47 =>
 J3 t47) fun J4 =>
 A2 PR (binOp .lss 3 t9_1 t2) fun t36 =>
 B6 t36 (
 J4) (
 J1 t8_1 t9_1)) (.int .u64 0) (.int .i64 0)) fun J5 =>
 A2 PR (binOp .lss 3 t2 (.int .i64 1)) fun t11 =>
 gj t11 false (fun J => J t2) fun t13 =>
 gj t11 false (fun J => A2 PR (binOp .gtr 3 t13 (.int .i64 8)) J) fun t14 =>
 A2 PR (do pure (if ← asBool t11 then (.bool true) else t14)) fun t15 =>
 gj t15 false (fun J => J t1) fun t17 =>
 gj t15 false (fun J => A2 PR (binOp .lss 3 t17 (.int .i64 0)) J) fun t18 =>
 A2 PR (do pure (if ← asBool t15 then (.bool true) else t18)) fun t19 =>
 gj t19 false (fun J => J t1) fun t21 =>
 gj t19 false (fun J => J t0) fun t22 =>
 gj t19 false (fun J => A2 PR (A7 .len #[9] 0 [t22]) J) fun t23 =>
 gj t19 false (fun J => A2 PR (binOp .gtr 3 t21 t23) J) fun t24 =>
 A2 PR (do pure (if ← asBool t19 then (.bool true) else t24)) fun t25 =>
 gj t25 false (fun J => J t0) fun t27 =>
 gj t25 false (fun J => A2 PR (A7 .len #[9] 0 [t27]) J) fun t28 =>
 gj t25 false (fun J => J t1) fun t29 =>
 gj t25 false (fun J => A2 PR (binOp .sub 3 t28 t29) J) fun t30 =>
 gj t25 false (fun J => J t2) fun t31 =>
 gj t25 false (fun J => A2 PR (binOp .lss 3 t30 t31) J) fun t32 =>
 A2 PR (do pure (if ← asBool t25 then (.bool true) else t32)) fun t33 =>
 B6 t33 (
 R (.tuple #[(.int .u64 0), (.bool false)])) (
 J5 (.int .u64 0) (.bool false))
theorem A5c : B0 PR 215 := A8 Tryz.func215 (by kernel_rfl) rfl
theorem A6l {X : Nat → Prop} {t0 t1 t2 : Value} {R : Value → WP} {w : World} (h : A1A X t0 t1 t2 R w) : Fn PR X 215 #[t0, t1, t2] w R := C7 (args := [t0, t1, t2]) mixed Tryz.func215 (by kernel_rfl) h
end Go.Proofs.YtggakcpabomliaaGreat
namespace Go.Proofs.YtggakcpabomliaaGreat
open Go
theorem B6v (a b : List Int) : S3 a ++ S3 b = S3 (a ++ b) := by
 apply ByteArray.ext
 apply Array.toList_inj.1
 rw [ByteArray.data_append, Array.toList_append, A1U, A1U, A1U, List.map_append]
def A0w (v n i : Nat) : List Int := (List.range' (n - i) i).map (A4s v n)
theorem B71 {v n i : Nat} (h : i < n) : A0w v n (i + 1) = A4s v n (n - 1 - i) :: A0w v n i := by
 unfold A0w
 rw [List.range'_succ, List.map_cons, show n - (i + 1) = n - 1 - i by omega, show n - 1 - i + 1 = n - i by omega]
theorem C0l {v n i : Nat} (hn : n ≤ 8) (h : i < n) : A4s v n (n - 1 - i) = ((v / 256 ^ i % 256 : Nat) : Int) := by
 unfold A4s
 have e1 : (8 * ((n : Int) - 1 - ((n - 1 - i : Nat) : Int))).toNat = 8 * i := by omega
 rw [e1, show min (8 * i) IntKind.u64.bits = 8 * i from Nat.min_eq_left (by show 8 * i ≤ 64; omega)]
 rw [show ((2 : Int) ^ (8 * i)) = ((256 ^ i : Nat) : Int) by rw [Int.pow_mul, Int.natCast_pow]; rfl,
  show (v : Int).fdiv ((256 ^ i : Nat) : Int) = ((v / 256 ^ i : Nat) : Int) by rw [Int.fdiv_eq_ediv_of_nonneg _ (Int.natCast_nonneg _)]; rfl]
 generalize v / 256 ^ i = q
 simp only [IntKind.wrap, IntKind.bits, IntKind.signed]
 simp
theorem B22 (w : World) (v : Nat) (n : Int) (hv : v < 2 ^ 64) : Fn PR B5 159 #[.int .u64 (v : Int), .int .i64 n] w (fun u w' => u = .string (E4 v n) ∧ C0 [] w w') := by
 refine Fn.pure (A6s (TW.go (κ := false) (S := []) ?_))
 unfold A1E
 by_cases hok : 1 ≤ n ∧ n ≤ 8
 case neg =>
  have hv : E4 v n = ByteArray.mk #[] := if_neg hok
  rw [hv]
  by_cases h1 : n < 1
  ·(have hQq := trivial; repeat ((first | clear hQq | (with_reducible first | refine A3 ?_ | refine A4 fun _ => ?_ | refine A5 fun _ => ?_)); (try simp (disch := first | omega | assumption | ((repeat (first | exact A0 | exact Up.here | apply A1 | apply Up.there)); first | done | fail) | (simp; first | done | omega | fail)) [h1]))); exact A9 rfl
  ·have h2 : 8 < n := by omega
   (have hQq := trivial; repeat ((first | clear hQq | (with_reducible first | refine A3 ?_ | refine A4 fun _ => ?_ | refine A5 fun _ => ?_)); (try simp (disch := first | omega | assumption | ((repeat (first | exact A0 | exact Up.here | apply A1 | apply Up.there)); first | done | fail) | (simp; first | done | omega | fail)) [h1, h2]))); exact A9 rfl
 have hvv : E4 v n = S3 (n7 v n.toNat n.toNat) := if_pos hok
 rw [hvv]
 obtain ⟨m, rfl⟩ : ∃ m : Nat, n = m := ⟨n.toNat, by omega⟩
 have h1 : ¬ (m : Int) < 1 := by omega
 have h2 : ¬ 8 < (m : Int) := by omega
 (have hQq := trivial; repeat ((first | clear hQq | (with_reducible first | refine A3 ?_ | refine A4 fun _ => ?_ | refine A5 fun _ => ?_)); (try simp (disch := first | omega | assumption | ((repeat (first | exact A0 | exact Up.here | apply A1 | apply Up.there)); first | done | fail) | (simp; first | done | omega | fail)) [h1, h2])))
 refine C0x m (fun i (_ : Unit) => .string (S3 (A0w v m i))) (fun i _ => .int .u64 ((v / 256 ^ i : Nat) : Int)) (fun _ _ => []) (fun _ _ => True) () trivial ?_ (by simp) (by simp [A0w]; rfl) (by simp)
 rintro i _ hi _ L hL
 by_cases hlt : i < m
 ·have hlt' : (i : Int) < (m : Int) := by omega
  have hb := C0l (v := v) (n := m) (by omega) hlt
  have hq : v / 256 ^ i ≤ v := Nat.div_le_self _ _
  have hn := B71 (v := v) hlt
  have hpw : v / 256 ^ (i + 1) = v / 256 ^ i / 256 := by rw [Nat.pow_succ, Nat.div_div_eq_div_mul]
  rw [hpw, hn] at hL
  rw [hb] at hL
  generalize v / 256 ^ i = q at *
  have e1 : ((q : Nat) : Int).tmod 256 = ((q % 256 : Nat) : Int) := by rw [Int.tmod_eq_emod_of_nonneg (by omega)]; omega
  have e2 : ((q : Nat) : Int).tdiv 256 = ((q / 256 : Nat) : Int) := by rw [Int.tdiv_eq_ediv_of_nonneg (by omega)]; omega
  (have hQq := trivial; repeat ((first | clear hQq | (with_reducible first | refine A3 ?_ | refine A4 fun _ => ?_ | refine A5 fun _ => ?_ | refine D4 fun _ => ?_ | refine D3 (hK := fun _ => ?_) | refine D1 (hK := fun _ => ?_) | refine D2 (hK := fun _ => ?_) | refine D6 (hK := fun _ => ?_) | refine D5 (hK := fun _ => ?_))); (try simp (disch := first | omega | assumption | ((repeat (first | exact A0 | exact Up.here | apply A1 | apply Up.there)); first | done | fail) | (simp; first | done | omega | fail)) [hlt', e1, e2, N3, W0])))
  rename_i g
  refine B13 (v := .string (S3 [(q : Int) % 256])) ?_ fun w' hw' => @B0A _ w' g 0 1 [(q : Int) % 256] (hw'.ownr (e := 5) (k := 1) (q := 1) (c := 1) (xs := [.int .u8 ((q : Int) % 256)]) A0)
  have e3 : ((q % 256 : Nat) : Int) = (q : Int) % 256 := by omega
  have e4 : ((q / 256 : Nat) : Int) = (q : Int) / 256 := by omega
  have h := hL hlt () trivial
  rw [e3, show S3 ((q : Int) % 256 :: A0w v m i) = S3 [(q : Int) % 256] ++ S3 (A0w v m i) by rw [B6v]; rfl] at h
  have e5 : IntKind.u64.wrap ((q : Int).tdiv 256) = (q : Int) / 256 := by rw [e2, u6 (by omega) (by omega), e4]
  rw [e4] at h
  have htl : (A0w v m i).length = i := by simp [A0w]
  have hsz : (S3 [(q : Int) % 256]).size + (S3 (A0w v m i)).size ≤ maxLen := by rw [A9J, A9J, htl]; simp only [List.length_singleton, maxLen]; omega
  (have hQq := trivial; repeat ((first | clear hQq | (with_reducible first | refine A3 ?_ | refine A4 fun _ => ?_ | refine A5 fun _ => ?_)); (try simp (disch := first | omega | assumption | ((repeat (first | exact A0 | exact Up.here | apply A1 | apply Up.there)); first | done | fail) | (simp; first | done | omega | fail)) [hlt', P1 hsz, W0, e5])))
  exact Sels.tw Sels.nil h
 ·obtain rfl : i = m := by omega
  have e : A0w v i i = n7 v i i := by
   unfold A0w n7
   rw [Nat.sub_self, ← List.range_eq_range']
   refine List.map_congr_left fun j hj => ?_
   rw [if_pos (List.mem_range.1 hj)]
  (have hQq := trivial; repeat ((first | clear hQq | (with_reducible first | refine A3 ?_ | refine A4 fun _ => ?_ | refine A5 fun _ => ?_)); (try simp (disch := first | omega | assumption | ((repeat (first | exact A0 | exact Up.here | apply A1 | apply Up.there)); first | done | fail) | (simp; first | done | omega | fail)) [])))
  rw [e]
  exact A9 (by simp)
end Go.Proofs.YtggakcpabomliaaGreat
namespace Go.Proofs.YtggakcpabomliaaGreat
open Go
section
variable {κ : Bool} {X : Nat → Prop} {S : List Nat} {w0 : World} {H H' Hk : List Res} {K : Value → WP} {K0 : WP}
theorem C7v {e : TypeId} {k n c : Nat} {a : Option Addr} {xs : List Value} (hm : Res.own e k (.slice a n c) n xs ∈ H) (h : n ≤ c → TW κ S w0 H K0) : TW κ S w0 H K0 := fun w hw => by
 refine h ?_ w hw
 rcases (hw.hold _ hm).2 with ⟨h1, h2⟩ | ⟨g, cap, cur, h1, _, h3, _⟩
 ·omega
 ·cases h1; exact h3
end
end Go.Proofs.YtggakcpabomliaaGreat
