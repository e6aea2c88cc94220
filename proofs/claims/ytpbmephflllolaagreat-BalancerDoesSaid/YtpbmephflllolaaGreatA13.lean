/- The proof of a given statement, a part of it (Args Join ShR17 Few ArgsC ShModel). No condition but what each lemma says. -/
import Derived.WalkKit
import Derived.ProofKit
import Derived.OpenShut
import Derived.Carry
import Derived.Deep.Slices
import Derived.Test.YtpbmephflllolaaGreatRows
import Derived.Test.YtpbmephflllolaaGreatA12
set_option linter.unusedVariables false
set_option linter.unusedSimpArgs false
namespace Go.Proofs.YtpbmephflllolaaGreat
open Go Go.ChangeShapes Go.WideShapes Go.ChangeAt Go.RowKit
theorem C6w {w w' : World} (h : C1 [] w w') (hk : Sk B3 w w') (may : MemPlace → Prop) : w.keptBut w' may := by
 refine ⟨hk.2.2.2.1, hk.2.2.2.2, fun i hi => ?_⟩
 have h1 : w.heap[i]? = some w.heap[i] := Array.getElem?_eq_getElem hi
 have h2 : w'.heap[i]? = some w.heap[i] := h.2 i _ (by simp) h1
 rw [h1, h2]
 cases w.heap[i] <;> simp
theorem C08 {f : FuncId} {args : Array Value} {w : World} (h : Fn PR B3 f args w (fun v w' => v = .bool true ∧ C1 [] w w')) :
  Calls PR f args w fun e w' => e = .returned (.bool true) ∧ (∀ may, w.keptBut w' may) ∧ C1 [] w w' :=
 Calls.mono h fun _ w' ⟨v, he, ⟨hv, hb⟩, hs⟩ => ⟨by rw [he, hv], C6w hb hs, hb⟩
theorem own : ownKnob PR.godebug = none := by kernel_rfl
theorem C77 : laidOutB PR = true := by kernel_rfl
theorem C00 {H : Type} {enc : TypeId × Value → H} {P : Program} {f : Func} {s : ChangeSpec} {apart fresh handsOn : Bool} {W W' : World} {args : Array Value} {v : Value} {ds gs : List (DataW H)} {before pa pv : List MemPlace}
  (hW : DataW.Whole enc P f.params.toList s.vars apart W args.toList ds gs before)
  (hres : ∀ (b : Nat) (sp : Nat → Bool) (hd : Bool), DataW.TrodAll enc P W' b sp hd f.resultTypes.toList (v.resultList f.resultTypes.size) (s.fn H (ds ++ gs)).results [])
  (hargs : ∀ sp : Nat → Bool, (∀ p ∈ before, sp p.block = true) → DataW.TrodAll enc P W' 0 sp true f.params.toList args.toList (s.fn H (ds ++ gs)).args pa)
  (hvars : ∀ sp : Nat → Bool, (∀ p ∈ before, sp p.block = true) → DataW.TrodVars enc P W' sp s.vars (s.fn H (ds ++ gs)).vars pv)
  (hk : ∀ may, W.keptBut W' may) : s.post enc P f apart fresh handsOn false W args v W' := by
 have hold : ∀ p ∈ before, (fun b => decide (b < W.heap.size)) p.block = true := fun p hp => by simpa using hW.lt p hp
 exact ⟨ds, gs, before, [], pa, pv, hW, hres _ _ _, hargs _ hold, hvars _ hold, hk _, fun h => by cases h⟩
theorem B6T {v x : Value} (h : v.cells.toList = [x]) (hv : plain v = true) : v = x := by
 cases v <;> first | (simp [Value.cells] at h; exact h) | (simp [plain] at hv)
section
variable {H : Type} {enc : TypeId × Value → H} {P : Program} {w : World} {base : Nat} {spare : Nat → Bool} {held : Bool}
theorem B89 {α : Type} {f : α → List Value} {k : Nat} (hk : ∀ x, (f x).length = k) (hkp : 0 < k) {Q : α → Prop} {t e : TypeId} {fuel : Nat} {cs : List Value} {x : DataW H × List MemPlace}
  (ht : P.underlying t = some (.slice e)) (hc : P.cellsOf e = k) (h : DataW.trod enc P w base spare held fuel t cs = some x)
  (he : ∀ n cs' y, DataW.trod enc P w base spare held n e cs' = some y → ∃ a, cs' = f a ∧ Q a) :
  ∃ (v : Value) (l : List α), cs = [v] ∧ E3 w v l.length (l.flatMap f) ∧ (∀ a ∈ l, Q a) ∧ l.length ≤ maxLen := by
 rcases Go.Deep.open_slice ht h with ⟨rfl, _⟩ | ⟨a, len, cap, m, n, D, Pl, rfl, hb, hl, hm, hmm, _, hx⟩
 ·exact ⟨_, [], rfl, Or.inl ⟨rfl, rfl, none, 0, rfl⟩, by simp, by simp⟩
 have hlm : len ≤ m := by rw [hmm]; split <;> omega
 have hch : ∀ i : Fin len, ∃ a' : α, Q a' ∧ w.cells? base (a.add (i.1 * k)) k = some (f a') := by
  intro i
  obtain ⟨cs', h1, h2⟩ := hx i.1 (by omega)
  obtain ⟨a', rfl, hq⟩ := he _ _ _ h2
  rw [hc] at h1
  exact ⟨a', hq, h1⟩
 let g : Fin len → α := fun i => Classical.choose (hch i)
 have hg : ∀ i, Q (g i) ∧ w.cells? base (a.add (i.1 * k)) k = some (f (g i)) := fun i => Classical.choose_spec (hch i)
 refine ⟨_, List.ofFn g, rfl, ?_, ?_, by simp; omega⟩
 ·by_cases h0 : len = 0
  ·subst h0; exact Or.inl ⟨by simp, by simp, _, _, rfl⟩
  obtain ⟨b, o, spot⟩ := a
  have h1 := (World.cells?_some (hg ⟨0, by omega⟩).2).2.2 0 hkp
  have hfl := hk (g ⟨0, by omega⟩)
  rw [List.getElem?_eq_getElem (by omega)] at h1
  have hspot : spot = none := by simpa [Addr.add] using World.cell?_spot h1
  subst hspot
  refine Or.inr ⟨b, o, cap, by simp, fun i hi => ?_⟩
  rw [U1 hk] at hi
  simp only [List.length_ofFn] at hi
  have hd : i / k * k + i % k = i := by rw [Nat.mul_comm]; exact Nat.div_add_mod i k
  have hj : i % k < k := Nat.mod_lt _ hkp
  have hi' : i / k < len := by rw [Nat.div_lt_iff_lt_mul hkp]; exact hi
  have h2 := (World.cells?_some (hg ⟨i / k, hi'⟩).2).2.2 (i % k) hj
  rw [← hd, A4M hk _ _ _ hj, List.getElem?_ofFn, dif_pos hi']
  simp only [Option.bind_some]
  rw [← h2, Z6, Z6]
  simp only [Nat.add_assoc]
 ·intro a' ha'
  rw [List.mem_ofFn] at ha'
  obtain ⟨i, rfl⟩ := ha'
  exact (hg i).1
theorem d7 {t : TypeId} {k : IntKind} {fuel : Nat} {cs : List Value} {x : DataW H × List MemPlace} (ht : P.underlying t = some (.int k)) (h : DataW.trod enc P w base spare held fuel t cs = some x) :
  ∃ a : Int, cs = [.int k a] ∧ (Lit.int k a).wf = true := by
 obtain ⟨n, h1, _, h2⟩ := DataW.trod_int ht h
 exact ⟨n, h1, h2⟩
theorem C1Y {t : TypeId} {fuel : Nat} {cs : List Value} {x : DataW H × List MemPlace} (ht : P.underlying t = some .string) (h : DataW.trod enc P w base spare held fuel t cs = some x) :
  ∃ s : ByteArray, cs = [.string s] ∧ s.size ≤ maxLen := by
 obtain ⟨s, h1, _, h2⟩ := DataW.trod_string ht h
 exact ⟨s, h1, h2⟩
theorem B91 {α : Type} {f : α → List Value} {t e : TypeId} {Q : List α → Prop} {r : Reach} {b0 : Nat} {v : Value} {d : DataW H} {ps : List MemPlace} (ht : P.underlying t = some (.slice e)) (hval : Value.okWide P w r b0 t v) (hd : DataW.Trod enc P w base spare held t v d ps)
  (h : ∀ fuel cs x, DataW.trod enc P w base spare held fuel t cs = some x → ∃ (v : Value) (l : List α), cs = [v] ∧ E3 w v l.length (l.flatMap f) ∧ Q l) : ∃ l : List α, E3 w v l.length (l.flatMap f) ∧ Q l := by
 obtain ⟨a, len, cap, rfl⟩ := okWide_slice ht hval
 obtain ⟨fuel, hf⟩ := hd
 obtain ⟨v', l, h1, h2⟩ := h _ _ _ hf
 have : Value.slice a len cap = v' := B6T h1 rfl
 subst this
 exact ⟨l, h2⟩
end
theorem B5P {H : Type} {enc : TypeId × Value → H} {P : Program} (hl : laidOutB P = true) {W W' : World} (hb : C1 [] W W') {sp : Nat → Bool} :
  ∀ {ts : List TypeId} {vs : List Value} {ds : List (DataW H)} {ps : List MemPlace}, (ts.all fun t => P.readableRec t && decide (t < P.types.size)) = true → DataW.TrodAll enc P W 0 (fun _ => true) true ts vs ds ps →
   (∀ p ∈ ps, p.block < W.heap.size) → (∀ p ∈ ps, sp p.block = true) → DataW.TrodAll enc P W' 0 sp true ts vs ds ps := by
 intro ts
 induction ts with
 | nil => intro vs ds ps _ h _ _; cases vs <;> cases ds <;> exact h
 | cons t ts ih =>
  intro vs ds ps ht h hlt hsp
  simp only [List.all_cons, Bool.and_eq_true, decide_eq_true_eq] at ht
  obtain ⟨v, vs', d, ds', p, q, rfl, rfl, rfl, h0, hr⟩ := trodAll_cons h
  refine ⟨p, q, WideElems.Trod_stays hl ht.1.1 ht.1.2 h0 (fun x hx => ?_) (fun x hx => hsp x (List.mem_append_left _ hx)),
   ih ht.2 hr (fun x hx => hlt x (List.mem_append_right _ hx)) (fun x hx => hsp x (List.mem_append_right _ hx)), rfl⟩
  have hlt' := hlt x (List.mem_append_left _ hx)
  have e1 : W.heap[x.block]? = some W.heap[x.block] := Array.getElem?_eq_getElem hlt'
  have e2 : W'.heap[x.block]? = some W.heap[x.block] := hb.2 _ _ (by simp) e1
  cases x with
  | cell b o => show W'.cell? _ = W.cell? _; unfold World.cell?; rw [show W'.heap[b]? = W.heap[b]? from e2.trans e1.symm]
  | map b => exact e2.trans e1.symm
set_option maxRecDepth 10000
section
variable {H : Type} {enc : TypeId × Value → H} {w : World} {base : Nat} {spare : Nat → Bool} {held : Bool} {fuel : Nat} {cs : List Value} {x : DataW H × List MemPlace}
theorem C6B (h : DataW.trod enc PR w base spare held fuel 75 cs = some x) : ∃ a : G0, cs = E7 a ∧ True := by
 obtain ⟨xs, n, _, rfl, hl, hxl, hf⟩ := DataW.trod_struct B0F.und h
 have hl4 : cs.length = 2 := hl.trans (by kernel_rfl)
 have hx4 : xs.length = 2 := hxl.trans (by kernel_rfl)
 match cs, hl4 with
 | [c0, c1], _ =>
  have f0 := hf 0 _ rfl
  have f1 := hf 1 _ rfl
  rw [List.getElem?_eq_getElem (by omega)] at f0 f1
  obtain ⟨a0, e0, _⟩ := d7 Tryz.underlying3 f0
  obtain ⟨a1, e1, _⟩ := d7 Tryz.underlying3 f1
  have e0 : [c0] = [.int .i64 a0] := e0
  have e1 : [c1] = [.int .i64 a1] := e1
  cases e0; cases e1
  exact ⟨(a0, a1), rfl, trivial⟩
theorem C4Y (h : DataW.trod enc PR w base spare held fuel 32 cs = some x) : ∃ (v : Value) (l : List G0), cs = [v] ∧ E3 w v l.length (l.flatMap E7) ∧ l.length ≤ maxLen := by
 obtain ⟨v, l, h1, h2, _, h3⟩ := B89 (f := E7) (k := 2) (Q := fun _ => True) (fun _ => rfl) (by omega) Tryz.underlying32 (by kernel_rfl) h (fun n cs' y hy => C6B hy)
 exact ⟨v, l, h1, h2, h3⟩
end
end Go.Proofs.YtpbmephflllolaaGreat
namespace Go.Proofs.YtpbmephflllolaaGreat
open Go
set_option maxRecDepth 100000
theorem jf2 : mapsRowed Tryz.prog = true := by kernel_rfl
theorem jf6 : (Program.stops Tryz.prog == []) = true := by kernel_rfl
theorem jf8 : (Program.stopKnobs Tryz.prog == []) = true := by kernel_rfl
theorem D2N : Program.stopsHeard Tryz.prog = true := by kernel_rfl
theorem D2E : Program.mayEnter Tryz.prog = true := by kernel_rfl
end Go.Proofs.YtpbmephflllolaaGreat
namespace Go.Proofs.YtpbmephflllolaaGreat
open Go
def A0Z (X : Nat → Prop) (t0 : Value) (R : Value → WP) : WP :=
 B2 PR X (Instr.box 23 t0) fun t1 =>
 jn (n := 1) (fun t2 =>
 R (.int .i64 1)) fun J1 =>
 A0 PR (Instr.fieldAt 23 t1 0) fun t3 =>
 A6 PR (Instr.loadAt 3 t3) fun t4 =>
 B1 PR X 38 [t4, (.int .i64 1), (.int .i64 64)] fun t5 =>
 gj t5 true (fun J => A0 PR (Instr.fieldAt 23 t1 1) J) fun t7 =>
 gj t5 true (fun J => A6 PR (Instr.loadAt 3 t7) J) fun t8 =>
 gj t5 true (fun J => B1 PR X 38 [t8, (.int .i64 1), (.int .i64 16)] J) fun t9 =>
 A0 PR (do pure (if ← asBool t5 then t9 else (.bool false))) fun t10 =>
 gj t10 true (fun J => A0 PR (Instr.fieldAt 23 t1 2) J) fun t12 =>
 gj t10 true (fun J => A6 PR (Instr.loadAt 3 t12) J) fun t13 =>
 gj t10 true (fun J => B1 PR X 38 [t13, (.int .i64 1), (.int .i64 64)] J) fun t14 =>
 A0 PR (do pure (if ← asBool t10 then t14 else (.bool false))) fun t15 =>
 gj t15 true (fun J => A0 PR (Instr.fieldAt 23 t1 3) J) fun t17 =>
 gj t15 true (fun J => A6 PR (Instr.loadAt 3 t17) J) fun t18 =>
 gj t15 true (fun J => B1 PR X 38 [t18, (.int .i64 0), (.int .i64 1000000)] J) fun t19 =>
 A0 PR (do pure (if ← asBool t15 then t19 else (.bool false))) fun t20 =>
 gj t20 true (fun J => A0 PR (Instr.fieldAt 23 t1 4) J) fun t22 =>
 gj t20 true (fun J => A6 PR (Instr.loadAt 3 t22) J) fun t23 =>
 gj t20 true (fun J => B1 PR X 38 [t23, (.int .i64 2), (.int .i64 8)] J) fun t24 =>
 A0 PR (do pure (if ← asBool t20 then t24 else (.bool false))) fun t25 =>
 B5 t25 (
 R (.int .i64 0)) (
 J1 (.int .i64 0))
theorem A0C : B0 PR 11 := A8 Tryz.func11 (by kernel_rfl) rfl
theorem A5H {X : Nat → Prop} {t0 : Value} {R : Value → WP} {w : World} (h : A0Z X t0 R w) : Fn PR X 11 #[t0] w R := C6 (args := [t0]) mixed Tryz.func11 (by kernel_rfl) h
def A1u (X : Nat → Prop) (t0 : Value) (R : Value → WP) : WP :=
 B2 PR X (Instr.box 23 t0) fun t1 =>
 B2 PR X (Instr.alloc 36 true (.tuple #[])) fun t2 =>
 drw <|
 kt (n := 1) (fun t3 =>
 jn (n := 1) (fun t4 =>
 A6 PR (Instr.loadAt 36 t3) fun t24 =>
 B6 PR X (Instr.storeAt 36 t2 t24) <|
 A6 PR (D5 [.c 36 t2]) R) fun J1 =>
 lp (n := 1) (fun L2 t4_1 =>
 jn (n := 0) (
 jn (n := 0) (
 A0 PR (binOp .add 3 t4_1 (.int .i64 1)) fun t15 =>
 L2 t15) fun J3 =>
 drw <|
 A0 PR (Instr.fieldAt 36 t3 2) fun t16 =>
 A6 PR (Instr.loadAt 33 t16) fun t17 =>
 A0 PR (Instr.fieldAt 23 t1 2) fun t18 =>
 A6 PR (Instr.loadAt 3 t18) fun t19 =>
 B1 PR X 39 [t19] fun t20 =>
 watch PR [(none, (Instr.loadAt 33 t16), t17)] <|
 B2 PR X (Instr.buildSlice 33 1 #[(0, t20)]) fun t21 =>
 watch PR [(none, (Instr.loadAt 33 t16), t17)] <|
 B2 PR X (A7 .append #[33, 33] 33 [t17, t21]) fun t22 =>
 A0 PR (Instr.fieldAt 36 t3 2) fun t23 =>
 B6 PR X (Instr.storeAt 33 t23 t22) <|
 J3) fun J4 =>
 A0 PR (Instr.fieldAt 23 t1 1) fun t11 =>
 A6 PR (Instr.loadAt 3 t11) fun t12 =>
 A0 PR (binOp .lss 3 t4_1 t12) fun t13 =>
 B5 t13 (
 J4) (
 J1 t4_1)) (.int .i64 0)) fun C5 =>
 A6 PR (Instr.loadAt 23 t1) fun t5_1 =>
 A0 PR (Instr.fieldAt 23 t1 1) fun t6_1 =>
 A6 PR (Instr.loadAt 3 t6_1) fun t7_1 =>
 both (B2 PR X (Instr.makeSlice 34 t7_1 t7_1) fun t8_2 =>
 watch PR [(none, (Instr.loadAt 23 t1), t5_1)] <|
 A0 PR (Instr.build 36 #[(0, t5_1), (3, t8_2)]) fun t9_2 =>
 B2 PR X (Instr.alloc 36 true (.tuple #[])) fun t3_2 =>
 watch PR [(none, (Instr.loadAt 23 t1), t5_1)] <|
 B6 PR X (Instr.storeAt 36 t3_2 t9_2) <|
 C5 t3_2) (both (B2 PR X (Instr.alloc 36 true (.tuple #[])) fun t3_1 =>
 watch PR [(none, (Instr.loadAt 3 t6_1), t7_1), (none, (Instr.loadAt 23 t1), t5_1)] <|
 B2 PR X (Instr.makeSlice 34 t7_1 t7_1) fun t8_1 =>
 watch PR [(none, (Instr.loadAt 23 t1), t5_1)] <|
 A0 PR (Instr.build 36 #[(0, t5_1), (3, t8_1)]) fun t9_1 =>
 B6 PR X (Instr.storeAt 36 t3_1 t9_1) <|
 C5 t3_1) ((fun _ => True)))
theorem A6d : B0 PR 12 := A8 Tryz.func12 (by kernel_rfl) rfl
theorem A79 {X : Nat → Prop} {t0 : Value} {R : Value → WP} {w : World} (h : A1u X t0 R w) : Fn PR X 12 #[t0] w R := C6 (args := [t0]) mixed Tryz.func12 (by kernel_rfl) h
def L0 (X : Nat → Prop) (t0 t1 t2 : Value) (R : Value → WP) : WP :=
 B2 PR X (Instr.box 36 t0) fun t3 =>
 B2 PR X (Instr.box 42 t1) fun t4 =>
 B2 PR X (Instr.alloc 36 true (.tuple #[])) fun t6 =>
 B2 PR X (Instr.alloc 39 true (.tuple #[])) fun t7 =>
 jn (n := 0) (
 A6 PR (Instr.loadAt 36 t3) fun t146 =>
 A0 PR (Instr.build 39 #[(0, (.int .i64 1))]) fun t147 =>
 B6 PR X (Instr.storeAt 36 t6 t146) <|
 B6 PR X (Instr.storeAt 39 t7 t147) <|
 A6 PR (D5 [.c 36 t6, .c 39 t7]) R) fun J1 =>
 A0 PR (Instr.fieldAt 42 t4 0) fun t17 =>
 A6 PR (Instr.loadAt 3 t17) fun t18 =>
 A0 PR (binOp .eql 3 t18 (.int .i64 0)) fun t20 =>
 B5 t20 (
 A0 PR (Instr.fieldAt 42 t4 1) fun t21 =>
 A6 PR (Instr.loadAt 9 t21) fun t22 =>
 A0 PR (Instr.fieldAt 36 t3 0) fun t23 =>
 A0 PR (Instr.fieldAt 23 t23 1) fun t24 =>
 A6 PR (Instr.loadAt 3 t24) fun t25 =>
 B1 PR X 40 [t22, t25] fun t26 =>
 B2 PR X (Instr.alloc 106 true (.tuple #[])) fun t8 =>
 B6 PR X (Instr.storeAt 106 t8 t26) <|
 jn (n := 0) (
 drw <|
 kt (n := 2) (fun t10 t9 =>
 drw <|
 A6 PR (Instr.loadAt 36 t3) fun t54 =>
 A0 PR (Instr.fieldAt 106 t8 1) fun t55 =>
 A6 PR (Instr.loadAt 3 t55) fun t56 =>
 A6 PR (Instr.loadAt 39 t10) fun t59 =>
 B1 PR X 42 [t54, t56, t9] fun t58 =>
 watch PR [(none, (Instr.loadAt 39 t10), t59)] <|
 B6 PR X (Instr.storeAt 36 t6 t58) <|
 watch PR [(none, (Instr.loadAt 39 t10), t59)] <|
 B6 PR X (Instr.storeAt 39 t7 t59) <|
 A6 PR (D5 [.c 36 t6, .c 39 t7]) R) fun C2 =>
 A0 PR (Instr.fieldAt 36 t3 2) fun t35_1 =>
 A6 PR (Instr.loadAt 33 t35_1) fun t36_1 =>
 A0 PR (Instr.fieldAt 106 t8 1) fun t37_1 =>
 A6 PR (Instr.loadAt 3 t37_1) fun t38_1 =>
 A0 PR (Instr.indexAt 33 t36_1 t38_1) fun t39_1 =>
 A6 PR (Instr.loadAt 94 t39_1) fun t40_1 =>
 A0 PR (Instr.fieldAt 36 t3 1) fun t41_1 =>
 A6 PR (Instr.loadAt 32 t41_1) fun t42_1 =>
 A0 PR (Instr.fieldAt 106 t8 0) fun t43_1 =>
 A6 PR (Instr.loadAt 9 t43_1) fun t44_1 =>
 A0 PR (Instr.fieldAt 106 t8 2) fun t45_1 =>
 A6 PR (Instr.loadAt 4 t45_1) fun t46_1 =>
 A0 PR (Instr.fieldAt 36 t3 0) fun t48_1 =>
 A0 PR (Instr.fieldAt 23 t48_1 3) fun t49_1 =>
 A6 PR (Instr.loadAt 3 t49_1) fun t50_1 =>
 both (B1 PR X 41 [t40_1, t42_1, t44_1, t46_1, t2, t50_1] fun t51_2 =>
 A0 PR (Instr.extract t51_2 0) fun t52_2 =>
 A0 PR (Instr.extract t51_2 1) fun t53_2 =>
 B2 PR X (Instr.alloc 39 true (.tuple #[])) fun t10_2 =>
 B6 PR X (Instr.storeAt 39 t10_2 t53_2) <|
 C2 t10_2 t52_2) (both (B2 PR X (Instr.alloc 39 true (.tuple #[])) fun t10_1 =>
 watch PR [(none, (Instr.loadAt 3 t49_1), t50_1), (none, (Instr.loadAt 4 t45_1), t46_1), (none, (Instr.loadAt 9 t43_1), t44_1), (none, (Instr.loadAt 32 t41_1), t42_1), (none, (Instr.loadAt 94 t39_1), t40_1), (none, (Instr.loadAt 3 t37_1), t38_1), (none, (Instr.loadAt 33 t35_1), t36_1)] <|
 B1 PR X 41 [t40_1, t42_1, t44_1, t46_1, t2, t50_1] fun t51_1 =>
 A0 PR (Instr.extract t51_1 0) fun t52_1 =>
 A0 PR (Instr.extract t51_1 1) fun t53_1 =>
 B6 PR X (Instr.storeAt 39 t10_1 t53_1) <|
 C2 t10_1 t52_1) ((fun _ => True)))) fun J3 =>
 A0 PR (Instr.fieldAt 106 t8 3) fun t27 =>
 A6 PR (Instr.loadAt 28 t27) fun t28 =>
 A0 PR (binOp .neq 28 t28 (.int .i64 0)) fun t29 =>
 B5 t29 (
 drw <|
 A6 PR (Instr.loadAt 36 t3) fun t30 =>
 A0 PR (Instr.fieldAt 106 t8 3) fun t31 =>
 A6 PR (Instr.loadAt 28 t31) fun t32 =>
 A0 PR (Instr.build 39 #[(0, t32)]) fun t33 =>
 B6 PR X (Instr.storeAt 36 t6 t30) <|
 watch PR [(none, (Instr.loadAt 28 t31), t32)] <|
 B6 PR X (Instr.storeAt 39 t7 t33) <|
 A6 PR (D5 [.c 36 t6, .c 39 t7]) R) (
 J3)) (
 A0 PR (binOp .eql 3 t18 (.int .i64 1)) fun t61 =>
 B5 t61 (
 A0 PR (Instr.fieldAt 42 t4 2) fun t62 =>
 A6 PR (Instr.loadAt 32 t62) fun t63 =>
 B1 PR X 43 [t63] fun t64 =>
 jn (n := 0) (
 A0 PR (Instr.fieldAt 42 t4 2) fun t70 =>
 A6 PR (Instr.loadAt 32 t70) fun t71 =>
 A0 PR (Instr.fieldAt 36 t3 1) fun t72 =>
 B6 PR X (Instr.storeAt 32 t72 t71) <|
 A6 PR (Instr.loadAt 36 t3) fun t73 =>
 A0 PR (Instr.build 39 #[]) fun t74 =>
 B6 PR X (Instr.storeAt 36 t6 t73) <|
 B6 PR X (Instr.storeAt 39 t7 t74) <|
 A6 PR (D5 [.c 36 t6, .c 39 t7]) R) fun J4 =>
 A0 PR (binOp .neq 28 t64 (.int .i64 0)) fun t66 =>
 B5 t66 (
 A6 PR (Instr.loadAt 36 t3) fun t67 =>
 A0 PR (Instr.build 39 #[(0, t64)]) fun t69 =>
 B6 PR X (Instr.storeAt 36 t6 t67) <|
 B6 PR X (Instr.storeAt 39 t7 t69) <|
 A6 PR (D5 [.c 36 t6, .c 39 t7]) R) (
 J4)) (
 A0 PR (binOp .eql 3 t18 (.int .i64 2)) fun t76 =>
 B5 t76 (
 jn (n := 0) (
 drw <|
 A0 PR (Instr.fieldAt 36 t3 2) fun t91 =>
 A6 PR (Instr.loadAt 33 t91) fun t92 =>
 A0 PR (Instr.fieldAt 42 t4 3) fun t93 =>
 A6 PR (Instr.loadAt 3 t93) fun t94 =>
 A0 PR (Instr.indexAt 33 t92 t94) fun t95 =>
 A6 PR (Instr.loadAt 94 t95) fun t96 =>
 A0 PR (Instr.fieldAt 36 t3 3) fun t97 =>
 A6 PR (Instr.loadAt 34 t97) fun t98 =>
 A0 PR (Instr.fieldAt 42 t4 3) fun t99 =>
 A6 PR (Instr.loadAt 3 t99) fun t100 =>
 A0 PR (Instr.indexAt 34 t98 t100) fun t101 =>
 A6 PR (Instr.loadAt 3 t101) fun t102 =>
 B1 PR X 44 [t96, t102, (.int .i64 4), t2] fun t104 =>
 A0 PR (Instr.extract t104 0) fun t105 =>
 A0 PR (Instr.extract t104 1) fun t106 =>
 A0 PR (Instr.extract t104 2) fun t107 =>
 B2 PR X (Instr.buildSlice 34 0 #[]) fun t108 =>
 A0 PR (Instr.fieldAt 36 t3 3) fun t109 =>
 A6 PR (Instr.loadAt 34 t109) fun t110 =>
 B2 PR X (A7 .append #[34, 34] 34 [t108, t110]) fun t111 =>
 A0 PR (Instr.fieldAt 36 t3 3) fun t112 =>
 B6 PR X (Instr.storeAt 34 t112 t111) <|
 A0 PR (Instr.fieldAt 36 t3 3) fun t113 =>
 A6 PR (Instr.loadAt 34 t113) fun t114 =>
 A0 PR (Instr.fieldAt 42 t4 3) fun t115 =>
 A6 PR (Instr.loadAt 3 t115) fun t116 =>
 A0 PR (Instr.indexAt 34 t114 t116) fun t118 =>
 B6 PR X (Instr.storeAt 3 t118 t106) <|
 A6 PR (Instr.loadAt 36 t3) fun t119 =>
 A0 PR (Instr.fieldAt 42 t4 3) fun t120 =>
 A6 PR (Instr.loadAt 3 t120) fun t121 =>
 B1 PR X 42 [t119, t121, t105] fun t123 =>
 A0 PR (Instr.build 39 #[(3, t107)]) fun t125 =>
 B6 PR X (Instr.storeAt 36 t6 t123) <|
 B6 PR X (Instr.storeAt 39 t7 t125) <|
 A6 PR (D5 [.c 36 t6, .c 39 t7]) R) fun J5 =>
 A0 PR (Instr.fieldAt 42 t4 3) fun t77 =>
 A6 PR (Instr.loadAt 3 t77) fun t78 =>
 A0 PR (binOp .lss 3 t78 (.int .i64 0)) fun t79 =>
 gj t79 false (fun J => A0 PR (Instr.fieldAt 42 t4 3) J) fun t81 =>
 gj t79 false (fun J => A6 PR (Instr.loadAt 3 t81) J) fun t82 =>
 gj t79 false (fun J => A0 PR (Instr.fieldAt 36 t3 0) J) fun t83 =>
 gj t79 false (fun J => A0 PR (Instr.fieldAt 23 t83 1) J) fun t84 =>
 gj t79 false (fun J => A6 PR (Instr.loadAt 3 t84) J) fun t85 =>
 gj t79 false (fun J => A0 PR (binOp .geq 3 t82 t85) J) fun t86 =>
 A0 PR (do pure (if ← asBool t79 then (.bool true) else t86)) fun t87 =>
 B5 t87 (
 A6 PR (Instr.loadAt 36 t3) fun t88 =>
 A0 PR (Instr.build 39 #[(0, (.int .i64 1))]) fun t89 =>
 B6 PR X (Instr.storeAt 36 t6 t88) <|
 B6 PR X (Instr.storeAt 39 t7 t89) <|
 A6 PR (D5 [.c 36 t6, .c 39 t7]) R) (
 J5)) (
 A0 PR (binOp .eql 3 t18 (.int .i64 3)) fun t127 =>
 B5 t127 (
 jn (n := 2) (fun t15 t16 =>
 A6 PR (Instr.loadAt 36 t3) fun t143 =>
 A0 PR (Instr.build 39 #[(3, t15)]) fun t145 =>
 B6 PR X (Instr.storeAt 36 t6 t143) <|
 B6 PR X (Instr.storeAt 39 t7 t145) <|
 A6 PR (D5 [.c 36 t6, .c 39 t7]) R) fun J6 =>
 lp (n := 2) (fun L7 t15_1 t16_1 =>
 jn (n := 0) (
 jn (n := 1) (fun t15_2 =>
 A0 PR (binOp .add 3 t16_1 (.int .i64 1)) fun t134 =>
 L7 t15_2 t134) fun J8 =>
 A0 PR (Instr.fieldAt 36 t3 2) fun t136 =>
 A6 PR (Instr.loadAt 33 t136) fun t137 =>
 A0 PR (Instr.indexAt 33 t137 t16_1) fun t139 =>
 A6 PR (Instr.loadAt 94 t139) fun t140 =>
 B1 PR X 45 [t140, (.int .i64 1)] fun t141 =>
 A0 PR (binOp .add 3 t15_1 t141) fun t142 =>
 J8 t142) fun J9 =>
 A0 PR (Instr.fieldAt 36 t3 2) fun t129 =>
 A6 PR (Instr.loadAt 33 t129) fun t130 =>
 A0 PR (A7 .len #[33] 0 [t130]) fun t131 =>
 A0 PR (binOp .lss 3 t16_1 t131) fun t132 =>
 B5 t132 (
 J9) (
 J6 t15_1 t16_1)) (.int .i64 0) (.int .i64 0)) (
 J1))))
theorem M2 : B0 PR 14 := A8 Tryz.func14 (by kernel_rfl) rfl
theorem M8 {X : Nat → Prop} {t0 t1 t2 : Value} {R : Value → WP} {w : World} (h : L0 X t0 t1 t2 R w) : Fn PR X 14 #[t0, t1, t2] w R := C6 (args := [t0, t1, t2]) mixed Tryz.func14 (by kernel_rfl) h
def A0n (X : Nat → Prop) (t0 : Value) (R : Value → WP) : WP :=
 B2 PR X (Instr.box 23 t0) fun t1 =>
 A0 PR (Instr.fieldAt 23 t1 0) fun t3 =>
 A6 PR (Instr.loadAt 3 t3) fun t4 =>
 A0 PR (binOp .leq 3 t4 (.int .i64 6)) fun t5 =>
 gj t5 true (fun J => A0 PR (Instr.fieldAt 23 t1 1) J) fun t7 =>
 gj t5 true (fun J => A6 PR (Instr.loadAt 3 t7) J) fun t8 =>
 gj t5 true (fun J => A0 PR (binOp .leq 3 t8 (.int .i64 6)) J) fun t9 =>
 A0 PR (do pure (if ← asBool t5 then t9 else (.bool false))) fun t10 =>
 gj t10 true (fun J => A0 PR (Instr.fieldAt 23 t1 2) J) fun t12 =>
 gj t10 true (fun J => A6 PR (Instr.loadAt 3 t12) J) fun t13 =>
 gj t10 true (fun J => A0 PR (binOp .leq 3 t13 (.int .i64 12)) J) fun t14 =>
 A0 PR (do pure (if ← asBool t10 then t14 else (.bool false))) fun t15 =>
 R t15
theorem A0A : B0 PR 33 := A8 Tryz.func33 (by kernel_rfl) rfl
theorem A5S {X : Nat → Prop} {t0 : Value} {R : Value → WP} {w : World} (h : A0n X t0 R w) : Fn PR X 33 #[t0] w R := C6 (args := [t0]) mixed Tryz.func33 (by kernel_rfl) h
def A1x (X : Nat → Prop) (t0 t1 : Value) (R : Value → WP) : WP :=
 jn (n := 1) (fun t4 =>
 jn (n := 2) (fun t4_1 t5 =>
 R (.bool true)) fun J1 =>
 lp (n := 2) (fun L2 t4_2 t5_1 =>
 jn (n := 0) (
 jn (n := 1) (fun t4_3 =>
 A0 PR (binOp .add 3 t5_1 (.int .i64 1)) fun t15 =>
 L2 t4_3 t15) fun J3 =>
 A0 PR (Instr.indexAt 76 t0 t5_1) fun t18 =>
 A0 PR (Instr.fieldAt 42 t18 1) fun t19 =>
 A6 PR (Instr.loadAt 9 t19) fun t20 =>
 A0 PR (A7 .len #[9] 0 [t20]) fun t21 =>
 A0 PR (binOp .gtr 3 t21 (.int .i64 100)) fun t22 =>
 gj t22 false (fun J => J t0) fun t24 =>
 gj t22 false (fun J => J t5_1) fun t25 =>
 gj t22 false (fun J => A0 PR (Instr.indexAt 76 t24 t25) J) fun t26 =>
 gj t22 false (fun J => A0 PR (Instr.fieldAt 42 t26 2) J) fun t27 =>
 gj t22 false (fun J => A6 PR (Instr.loadAt 32 t27) J) fun t28 =>
 gj t22 false (fun J => A0 PR (A7 .len #[32] 0 [t28]) J) fun t29 =>
 gj t22 false (fun J => A0 PR (binOp .gtr 3 t29 (.int .i64 8)) J) fun t30 =>
 A0 PR (do pure (if ← asBool t22 then (.bool true) else t30)) fun t31 =>
 B5 t31 (
 R (.bool false)) (
 J3 t4_2)) fun J4 =>
 A0 PR (A7 .len #[76] 0 [t0]) fun t12 =>
 A0 PR (binOp .lss 3 t5_1 t12) fun t13 =>
 B5 t13 (
 J4) (
 J1 t4_2 t5_1)) t4 (.int .i64 0)) fun J5 =>
 A0 PR (A7 .len #[76] 0 [t0]) fun t7 =>
 A0 PR (binOp .gtr 3 t7 t1) fun t9 =>
 B5 t9 (
 R (.bool false)) (
 J5 (.bool false))
theorem A7C : B0 PR 34 := A8 Tryz.func34 (by kernel_rfl) rfl
theorem A7r {X : Nat → Prop} {t0 t1 : Value} {R : Value → WP} {w : World} (h : A1x X t0 t1 R w) : Fn PR X 34 #[t0, t1] w R := C6 (args := [t0, t1]) mixed Tryz.func34 (by kernel_rfl) h
def A2H (X : Nat → Prop) (t0 t1 t2 : Value) (R : Value → WP) : WP :=
 A0 PR (binOp .geq 3 t0 t1) fun t9 =>
 gj t9 true (fun J => J t0) fun t11 =>
 gj t9 true (fun J => J t2) fun t12 =>
 gj t9 true (fun J => A0 PR (binOp .leq 3 t11 t12) J) fun t13 =>
 A0 PR (do pure (if ← asBool t9 then t13 else (.bool false))) fun t14 =>
 R t14
theorem T4 : B0 PR 38 := A8 Tryz.func38 (by kernel_rfl) rfl
theorem A8p {X : Nat → Prop} {t0 t1 t2 : Value} {R : Value → WP} {w : World} (h : A2H X t0 t1 t2 R w) : Fn PR X 38 #[t0, t1, t2] w R := C6 (args := [t0, t1, t2]) mixed Tryz.func38 (by kernel_rfl) h
def A06 (X : Nat → Prop) (t0 t1 : Value) (R : Value → WP) : WP :=
 B2 PR X (Instr.alloc 106 true (.tuple #[])) fun t4 =>
 B1 PR X 73 [t0] fun t11 =>
 A0 PR (Instr.extract t11 0) fun t12 =>
 A0 PR (Instr.extract t11 1) fun t13 =>
 B2 PR X (Instr.alloc 58 true (.tuple #[])) fun t5 =>
 B6 PR X (Instr.storeAt 58 t5 t12) <|
 jn (n := 0) (
 A0 PR (Instr.fieldAt 58 t5 0) fun t18 =>
 A6 PR (Instr.loadAt 56 t18) fun t19 =>
 B1 PR X 74 [t19] fun t20 =>
 A0 PR (Instr.extract t20 0) fun t21 =>
 A0 PR (Instr.extract t20 1) fun t22 =>
 drw <|
 A6 PR (Instr.loadAt 58 t5) fun t27 =>
 B1 PR X 75 [t21, t1] fun t26 =>
 watch PR [(none, (Instr.loadAt 58 t5), t27)] <|
 B1 PR X 76 [t27] fun t28 =>
 A0 PR (Instr.build 106 #[(0, t21), (1, t26), (2, t28)]) fun t29 =>
 B6 PR X (Instr.storeAt 106 t4 t29) <|
 A6 PR (D5 [.c 106 t4]) R) fun J1 =>
 A0 PR (binOp .neq 28 t13 (.int .i64 0)) fun t15 =>
 B5 t15 (
 A0 PR (Instr.build 106 #[(3, (.int .i64 9))]) fun t16 =>
 B6 PR X (Instr.storeAt 106 t4 t16) <|
 A6 PR (D5 [.c 106 t4]) R) (
 J1)
theorem A0p : B0 PR 40 := A8 Tryz.func40 (by kernel_rfl) rfl
theorem A6g {X : Nat → Prop} {t0 t1 : Value} {R : Value → WP} {w : World} (h : A06 X t0 t1 R w) : Fn PR X 40 #[t0, t1] w R := C6 (args := [t0, t1]) mixed Tryz.func40 (by kernel_rfl) h
def y5 (X : Nat → Prop) (t0 t1 t2 t3 t4 t5 : Value) (R : Value → WP) : WP :=
 B2 PR X (Instr.alloc 39 true (.tuple #[])) fun t13 =>
 B1 PR X 77 [t0, t2] fun t23 =>
 A0 PR (binOp .geq 3 t23 (.int .i64 0)) fun t25 =>
 gj t25 true (fun J => J t0) fun t27 =>
 gj t25 true (fun J => J t23) fun t28 =>
 gj t25 true (fun J => A0 PR (A7 .max #[3, 3] 0 [t28, (.int .i64 0)]) J) fun t29 =>
 gj t25 true (fun J => A0 PR (Instr.indexAt 94 t27 t29) J) fun t30 =>
 gj t25 true (fun J => A0 PR (Instr.fieldAt 160 t30 3) J) fun t31 =>
 gj t25 true (fun J => A6 PR (Instr.loadAt 3 t31) J) fun t32 =>
 gj t25 true (fun J => J t4) fun t33 =>
 gj t25 true (fun J => A0 PR (binOp .geq 3 t32 t33) J) fun t34 =>
 A0 PR (do pure (if ← asBool t25 then t34 else (.bool false))) fun t35 =>
 gj t35 true (fun J => J t1) fun t37 =>
 gj t35 true (fun J => J t0) fun t38 =>
 gj t35 true (fun J => J t23) fun t39 =>
 gj t35 true (fun J => A0 PR (A7 .max #[3, 3] 0 [t39, (.int .i64 0)]) J) fun t40 =>
 gj t35 true (fun J => A0 PR (Instr.indexAt 94 t38 t40) J) fun t41 =>
 gj t35 true (fun J => A0 PR (Instr.fieldAt 160 t41 2) J) fun t42 =>
 gj t35 true (fun J => A6 PR (Instr.loadAt 3 t42) J) fun t43 =>
 gj t35 true (fun J => B1 PR X 78 [t37, t43] J) fun t44 =>
 gj t35 true (fun J => A0 PR (binOp .geq 3 t44 (.int .i64 0)) J) fun t45 =>
 A0 PR (do pure (if ← asBool t35 then t45 else (.bool false))) fun t46 =>
 B1 PR X 80 [t2] fun t49 =>
 B1 PR X 79 [t1, t49] fun t50 =>
 jn (n := 2) (fun t16 t12 =>
 jn (n := 1) (fun t12_1 =>
 A0 PR (binOp .add 3 t4 t5) fun t78 =>
 B1 PR X 82 [t0, t2, t16, t78] fun t79 =>
 A0 PR (Instr.extract t79 0) fun t80 =>
 A0 PR (Instr.extract t79 1) fun t81 =>
 jn (n := 1) (fun t12_2 =>
 A0 PR (Op.unary .not t46) fun t90 =>
 A0 PR (Instr.build 39 #[(1, t16), (2, t90)]) fun t91 =>
 B6 PR X (Instr.storeAt 39 t13 t91) <|
 A6 PR (D5 [.v t80, .c 39 t13]) R) fun J1 =>
 A0 PR (binOp .neq 28 t81 (.int .i64 0)) fun t83 =>
 B5 t83 (
 A0 PR (Instr.build 39 #[(0, t81)]) fun t86 =>
 B6 PR X (Instr.storeAt 39 t13 t86) <|
 A6 PR (D5 [.v t0, .c 39 t13]) R) (
 J1 t12_1)) fun J2 =>
 B5 t3 (
 B1 PR X 81 [t0, t2] fun t66 =>
 A0 PR (Instr.extract t66 0) fun t67 =>
 A0 PR (Instr.extract t66 1) fun t68 =>
 A0 PR (Instr.build 39 #[(1, t16)]) fun t71 =>
 B6 PR X (Instr.storeAt 39 t13 t71) <|
 A6 PR (D5 [.v t67, .c 39 t13]) R) (
 J2 t12)) fun J3 =>
 B5 t46 (
 A0 PR (Instr.indexAt 94 t0 t23) fun t54 =>
 A0 PR (Instr.fieldAt 160 t54 2) fun t55 =>
 A6 PR (Instr.loadAt 3 t55) fun t56 =>
 J3 t56 (.slice none 0 0)) (
 A0 PR (A7 .len #[32] 0 [t1]) fun t58 =>
 A0 PR (binOp .eql 3 t58 (.int .i64 0)) fun t59 =>
 B5 t59 (
 A0 PR (Instr.build 39 #[(0, (.int .i64 11))]) fun t61 =>
 B6 PR X (Instr.storeAt 39 t13 t61) <|
 A6 PR (D5 [.v t0, .c 39 t13]) R) (
 J3 t50 (.slice none 0 0)))
theorem x6 : B0 PR 41 := A8 Tryz.func41 (by kernel_rfl) rfl
theorem A4k {X : Nat → Prop} {t0 t1 t2 t3 t4 t5 : Value} {R : Value → WP} {w : World} (h : y5 X t0 t1 t2 t3 t4 t5 R w) : Fn PR X 41 #[t0, t1, t2, t3, t4, t5] w R := C6 (args := [t0, t1, t2, t3, t4, t5]) mixed Tryz.func41 (by kernel_rfl) h
def q8 (X : Nat → Prop) (t0 t1 t2 : Value) (R : Value → WP) : WP :=
 B2 PR X (Instr.box 36 t0) fun t3 =>
 B2 PR X (Instr.alloc 36 true (.tuple #[])) fun t6 =>
 jn (n := 2) (fun t7 t8 =>
 A0 PR (Instr.fieldAt 36 t3 2) fun t32 =>
 B6 PR X (Instr.storeAt 33 t32 t7) <|
 A6 PR (Instr.loadAt 36 t3) fun t33 =>
 B6 PR X (Instr.storeAt 36 t6 t33) <|
 A6 PR (D5 [.c 36 t6]) R) fun J1 =>
 lp (n := 2) (fun L2 t7_1 t8_1 =>
 jn (n := 0) (
 jn (n := 1) (fun t7_2 =>
 A0 PR (binOp .add 3 t8_1 (.int .i64 1)) fun t15 =>
 L2 t7_2 t15) fun J3 =>
 A0 PR (binOp .eql 3 t8_1 t1) fun t18 =>
 B5 t18 (
 B2 PR X (Instr.buildSlice 33 1 #[(0, t2)]) fun t21 =>
 B2 PR X (A7 .append #[33, 33] 33 [t7_1, t21]) fun t22 =>
 J3 t22) (
 A0 PR (Instr.fieldAt 36 t3 2) fun t24 =>
 A6 PR (Instr.loadAt 33 t24) fun t25 =>
 A0 PR (Instr.indexAt 33 t25 t8_1) fun t27 =>
 A6 PR (Instr.loadAt 94 t27) fun t28 =>
 B2 PR X (Instr.buildSlice 33 1 #[(0, t28)]) fun t29 =>
 B2 PR X (A7 .append #[33, 33] 33 [t7_1, t29]) fun t30 =>
 J3 t30)) fun J4 =>
 A0 PR (Instr.fieldAt 36 t3 2) fun t10 =>
 A6 PR (Instr.loadAt 33 t10) fun t11 =>
 A0 PR (A7 .len #[33] 0 [t11]) fun t12 =>
 A0 PR (binOp .lss 3 t8_1 t12) fun t13 =>
 B5 t13 (
 J4) (
 J1 t7_1 t8_1)) (.slice none 0 0) (.int .i64 0)
theorem m8 : B0 PR 42 := A8 Tryz.func42 (by kernel_rfl) rfl
theorem A3Q {X : Nat → Prop} {t0 t1 t2 : Value} {R : Value → WP} {w : World} (h : q8 X t0 t1 t2 R w) : Fn PR X 42 #[t0, t1, t2] w R := C6 (args := [t0, t1, t2]) mixed Tryz.func42 (by kernel_rfl) h
def A0b (X : Nat → Prop) (t0 t1 : Value) (R : Value → WP) : WP :=
 jn (n := 1) (fun t4 =>
 B1 PR X 80 [t0] fun t8 =>
 A0 PR (binOp .quo 129 t8 (.int .u64 4294967296)) fun t9 =>
 A0 PR (convert 3 129 t1) fun t11 =>
 A0 PR (binOp .rem 129 t9 t11) fun t12 =>
 A0 PR (convert 129 3 t12) fun t13 =>
 R t13) fun J1 =>
 A0 PR (binOp .lss 3 t1 (.int .i64 1)) fun t6 =>
 B5 t6 (
 R (.int .i64 0)) (
 J1 (.int .i64 0))
theorem A4J : B0 PR 75 := A8 Tryz.func75 (by kernel_rfl) rfl
theorem A5N {X : Nat → Prop} {t0 t1 : Value} {R : Value → WP} {w : World} (h : A0b X t0 t1 R w) : Fn PR X 75 #[t0, t1] w R := C6 (args := [t0, t1]) mixed Tryz.func75 (by kernel_rfl) h
end Go.Proofs.YtpbmephflllolaaGreat
namespace Go.Proofs.YtpbmephflllolaaGreat
open Go
theorem L9.partAt {w : World} {b o k : Nat} {α : Type} {l : List α} {f : α → List Value} (h : L9 w b o (l.flatMap f)) (hk : ∀ x, (f x).length = k) {i : Nat} {x : α} (hx : l[i]? = some x) (j n : Nat) (hn : j + n ≤ k) : j2 w b (o + i * k + j) n = some (((f x).drop j).take n) := by
 have hl : (((f x).drop j).take n).length = n := by simp [hk]; omega
 have h1 : L9 w b (o + i * k + j) (((f x).drop j).take n) := fun q hq => by
  rw [hl] at hq
  have h2 := h.cellAt hk hx (j := j + q) (u := (f x)[j + q]'(by rw [hk]; omega)) (List.getElem?_eq_getElem _)
  rw [Nat.add_assoc, h2, List.getElem?_take_of_lt hq, List.getElem?_drop, List.getElem?_eq_getElem (by rw [hk]; omega)]
 have := A4E h1
 rwa [hl] at this
def y8 (o : OpV × Value) : List Value := [.int .i64 o.1.kind, .string o.1.packet, o.2, .int .i64 o.1.shard]
def A4e (s : (OpV × Value) × Int) : List Value := [.int .i64 s.1.1.kind, .string s.1.1.packet, s.1.2, .int .i64 s.1.1.shard, .int .i64 s.2]
def B6y (o : OpV × Value) : Prop := ∃ a c, o.2 = .slice a o.1.pool.length c
def A0L (c : CfgV) : Bool := decide (c.wk ≤ 6) && decide (c.sh ≤ 6) && decide (c.cp ≤ 12)
def B2A (o : OpV) : Bool := decide (o.packet.size ≤ 100) && decide (o.pool.length ≤ 8)
def A2W (l : List OpV) (most : Int) : Bool := decide ((l.length : Int) ≤ most) && l.all B2A
theorem B6L (w : World) (c : CfgV) : Fn PR B3 33 #[c.val] w (fun r w' => r = .bool (A0L c) ∧ C1 [] w w') := by
 refine Fn.pure (A5S (TW.go (κ := false) (S := []) ?_))
 unfold A0n
 simp only [CfgV.val]
 by_cases c1 : c.wk ≤ 6
 ·by_cases c2 : c.sh ≤ 6
  ·(have zz:=trivial;repeat((first|clear zz|with_reducible first|refine A3 ?_|refine A4 fun _=>?_|refine A5 fun _=>?_);try simp(disch:=first|omega|assumption|((repeat(first|exact A1|exact uH|apply A2|apply uT));first|done|fail)|(simp;first|done|omega|fail))[c1, c2]))
   exact A9 (by simp [A0L, c1, c2])
  ·(have zz:=trivial;repeat((first|clear zz|with_reducible first|refine A3 ?_|refine A4 fun _=>?_|refine A5 fun _=>?_);try simp(disch:=first|omega|assumption|((repeat(first|exact A1|exact uH|apply A2|apply uT));first|done|fail)|(simp;first|done|omega|fail))[c1, c2]))
   exact A9 (by simp [A0L, c1, c2])
 ·(have zz:=trivial;repeat((first|clear zz|with_reducible first|refine A3 ?_|refine A4 fun _=>?_|refine A5 fun _=>?_);try simp(disch:=first|omega|assumption|((repeat(first|exact A1|exact uH|apply A2|apply uT));first|done|fail)|(simp;first|done|omega|fail))[c1]))
  exact A9 (by simp [A0L, c1])
theorem C4p (w : World) (v : Value) (l : List (OpV × Value)) (most : Int) (hn : l.length ≤ 9223372036854775807) (hv : E3 w v l.length (l.flatMap y8)) (hp : ∀ o ∈ l, B6y o) :
  Fn PR B3 34 #[v, .int .i64 most] w (fun r w' => r = .bool (A2W (l.map (·.1)) most) ∧ C1 [] w w') := by
 refine Fn.pure (A7r (TW.go (κ := false) (S := []) ?_))
 unfold A1x
 obtain ⟨a, c, rfl, hr⟩ := hv.form
 by_cases c0 : most < (l.length : Int)
 ·(have zz:=trivial;repeat((first|clear zz|with_reducible first|refine A3 ?_|refine A4 fun _=>?_|refine A5 fun _=>?_);try simp(disch:=first|omega|assumption|((repeat(first|exact A1|exact uH|apply A2|apply uT));first|done|fail)|(simp;first|done|omega|fail))[c0]))
  exact A9 (by simp [A2W]; omega)
 (have zz:=trivial;repeat((first|clear zz|with_reducible first|refine A3 ?_|refine A4 fun _=>?_|refine A5 fun _=>?_);try simp(disch:=first|omega|assumption|((repeat(first|exact A1|exact uH|apply A2|apply uT));first|done|fail)|(simp;first|done|omega|fail))[c0]))
 refine K8 l.length (fun _ _ => .bool false) (fun _ (_ : Unit) => []) (fun i _ => ∀ (j : Nat) x, j < i → l[j]? = some x → B2A x.1 = true) () (by intros; omega) ?_
 rintro i _ hi hφ L hL
 by_cases hlt : i < l.length
 ·have hx := List.getElem?_eq_getElem hlt
  obtain ⟨b, o, rfl, hrow⟩ := hr (by omega)
  have h1 := hrow.cellAt (f := y8) (k := 4) (j := 1) (fun _ => rfl) hx rfl
  have h2 := hrow.cellAt (f := y8) (k := 4) (j := 2) (fun _ => rfl) hx rfl
  obtain ⟨pa, pc, hpl⟩ := hp l[i] (List.getElem_mem hlt)
  rw [hpl] at h2
  have bad : B2A l[i].1 = false → A2W (l.map (·.1)) most = false := fun h => by
   unfold A2W
   rw [Bool.and_eq_false_iff]; right
   rw [List.all_eq_false]
   exact ⟨l[i].1, List.mem_map_of_mem (List.getElem_mem hlt), by simp [h]⟩
  by_cases c1 : (100 : Int) < l[i].1.packet.size
  ·(have zz:=trivial;repeat((first|clear zz|with_reducible first|refine A3 ?_|refine A4 fun _=>?_|refine A5 fun _=>?_);try simp(disch:=first|omega|assumption|((repeat(first|exact A1|exact uH|apply A2|apply uT));first|done|fail)|(simp;first|done|omega|fail))[hlt, h1, h2, c1]))
   exact A9 (by rw [bad (by simp [B2A]; omega)])
  by_cases c2 : (8 : Int) < l[i].1.pool.length
  ·(have zz:=trivial;repeat((first|clear zz|with_reducible first|refine A3 ?_|refine A4 fun _=>?_|refine A5 fun _=>?_);try simp(disch:=first|omega|assumption|((repeat(first|exact A1|exact uH|apply A2|apply uT));first|done|fail)|(simp;first|done|omega|fail))[hlt, h1, h2, c1, c2]))
   exact A9 (by rw [bad (by simp [B2A]; omega)])
  (have zz:=trivial;repeat((first|clear zz|with_reducible first|refine A3 ?_|refine A4 fun _=>?_|refine A5 fun _=>?_);try simp(disch:=first|omega|assumption|((repeat(first|exact A1|exact uH|apply A2|apply uT));first|done|fail)|(simp;first|done|omega|fail))[hlt, h1, h2, c1, c2]))
  refine hL hlt () fun j x hj hx' => ?_
  by_cases e : j < i
  ·exact hφ j x e hx'
  ·obtain rfl : j = i := by omega
   rw [hx] at hx'; injection hx' with hx'; subst hx'
   simp [B2A]; omega
 ·(have zz:=trivial;repeat((first|clear zz|with_reducible first|refine A3 ?_|refine A4 fun _=>?_|refine A5 fun _=>?_);try simp(disch:=first|omega|assumption|((repeat(first|exact A1|exact uH|apply A2|apply uT));first|done|fail)|(simp;first|done|omega|fail))[hlt]))
  refine A9 ?_
  have : A2W (l.map (·.1)) most = true := by
   unfold A2W
   rw [Bool.and_eq_true]
   refine ⟨by simp; omega, ?_⟩
   rw [List.all_eq_true]
   intro x hx
   obtain ⟨y, hy, rfl⟩ := List.mem_map.1 hx
   obtain ⟨j, hj, e⟩ := List.getElem_of_mem hy
   exact hφ j y (by omega) (by simp [hj, e])
  rw [this]
end Go.Proofs.YtpbmephflllolaaGreat
namespace Go.Proofs.YtpbmephflllolaaGreat
open Go Go.ChangeShapes Go.WideShapes Go.ChangeAt Go.RowKit
set_option maxRecDepth 10000
section
variable {H : Type} {enc : TypeId × Value → H} {w : World} {base : Nat} {spare : Nat → Bool} {held : Bool} {fuel : Nat} {cs : List Value} {x : DataW H × List MemPlace}
theorem C3u (h : DataW.trod enc PR w base spare held fuel 23 cs = some x) : ∃ c : CfgV, cs = [.int .i64 c.wk, .int .i64 c.sh, .int .i64 c.cp, .int .i64 c.idle, .int .i64 c.sl] ∧ True := by
 obtain ⟨xs, n, _, rfl, hl, hxl, hf⟩ := DataW.trod_struct A3c.und h
 have hl4 : cs.length = 5 := hl.trans (by kernel_rfl)
 have hx4 : xs.length = 5 := hxl.trans (by kernel_rfl)
 match cs, hl4 with
 | [c0, c1, c2, c3, c4], _ =>
  have f0 := hf 0 _ rfl
  have f1 := hf 1 _ rfl
  have f2 := hf 2 _ rfl
  have f3 := hf 3 _ rfl
  have f4 := hf 4 _ rfl
  rw [List.getElem?_eq_getElem (by omega)] at f0 f1 f2 f3 f4
  obtain ⟨a0, e0, _⟩ := d7 Tryz.underlying3 f0
  obtain ⟨a1, e1, _⟩ := d7 Tryz.underlying3 f1
  obtain ⟨a2, e2, _⟩ := d7 Tryz.underlying3 f2
  obtain ⟨a3, e3, _⟩ := d7 Tryz.underlying3 f3
  obtain ⟨a4, e4, _⟩ := d7 Tryz.underlying3 f4
  have e0 : [c0] = [.int .i64 a0] := e0
  have e1 : [c1] = [.int .i64 a1] := e1
  have e2 : [c2] = [.int .i64 a2] := e2
  have e3 : [c3] = [.int .i64 a3] := e3
  have e4 : [c4] = [.int .i64 a4] := e4
  cases e0; cases e1; cases e2; cases e3; cases e4
  exact ⟨⟨a0, a1, a2, a3, a4⟩, rfl, trivial⟩
theorem C6H (h : DataW.trod enc PR w base spare held fuel 42 cs = some x) : ∃ o : OpV × Value, cs = y8 o ∧ E3 w o.2 o.1.pool.length (o.1.pool.flatMap E7) := by
 obtain ⟨xs, n, _, rfl, hl, hxl, hf⟩ := DataW.trod_struct A67.und h
 have hl4 : cs.length = 4 := hl.trans (by kernel_rfl)
 have hx4 : xs.length = 4 := hxl.trans (by kernel_rfl)
 match cs, hl4 with
 | [c0, c1, c2, c3], _ =>
  have f0 := hf 0 _ rfl
  have f1 := hf 1 _ rfl
  have f2 := hf 2 _ rfl
  have f3 := hf 3 _ rfl
  rw [List.getElem?_eq_getElem (by omega)] at f0 f1 f2 f3
  obtain ⟨a0, e0, _⟩ := d7 Tryz.underlying3 f0
  obtain ⟨a1, e1, _⟩ := C1Y Tryz.underlying9 f1
  obtain ⟨v, l, e2, hv, _⟩ := C4Y f2
  obtain ⟨a3, e3, _⟩ := d7 Tryz.underlying3 f3
  have e0 : [c0] = [.int .i64 a0] := e0
  have e1 : [c1] = [.string a1] := e1
  have e2 : [c2] = [v] := e2
  have e3 : [c3] = [.int .i64 a3] := e3
  cases e0; cases e1; cases e2; cases e3
  exact ⟨(⟨a0, a1, l, a3⟩, c2), rfl, hv⟩
theorem C7M {v : Value} {cs : Array Value} {l : List Value} (hv : v = .agg cs) (h : v.cells.toList = l) : v = .agg l.toArray := by
 subst hv
 have : cs.toList = l := h
 rw [← this]
theorem B7r {r : Reach} {b0 : Nat} {v : Value} {d : DataW H} {ps : List MemPlace} (hval : Value.okWide PR w r b0 23 v) (hd : DataW.Trod enc PR w base spare held 23 v d ps) : ∃ c : CfgV, v = c.val := by
 obtain ⟨cs, e, _⟩ := okWide_struct A3c.und hval
 obtain ⟨fuel, hf⟩ := hd
 obtain ⟨c, h, _⟩ := C3u hf
 exact ⟨c, C7M e h⟩
end
end Go.Proofs.YtpbmephflllolaaGreat
namespace Go.Proofs.YtpbmephflllolaaGreat
open Go
def A7p (X : Nat → Prop) (t0 : Value) (R : Value → WP) : WP :=
 B2 PR X (Instr.box 23 t0) fun t1 =>
 B2 PR X (Instr.alloc 28 true (.tuple #[])) fun t3 =>
 B6 PR X (Instr.storeAt 28 t3 (.int .i64 0)) <|
 A0 PR (Instr.makeFunc (.func 71) #[] #[t3]) fun t5 =>
 A0 PR (Instr.fieldAt 23 t1 0) fun t7 =>
 A6 PR (Instr.loadAt 3 t7) fun t8 =>
 M4 PR X t5 [t8, (.int .i64 1), (.int .i64 64)] fun t9 =>
 A0 PR (Instr.fieldAt 23 t1 1) fun t11 =>
 A6 PR (Instr.loadAt 3 t11) fun t12 =>
 M4 PR X t5 [t12, (.int .i64 1), (.int .i64 16)] fun t13 =>
 A0 PR (Instr.fieldAt 23 t1 2) fun t15 =>
 A6 PR (Instr.loadAt 3 t15) fun t16 =>
 M4 PR X t5 [t16, (.int .i64 1), (.int .i64 64)] fun t17 =>
 A0 PR (Instr.fieldAt 23 t1 3) fun t19 =>
 A6 PR (Instr.loadAt 3 t19) fun t20 =>
 M4 PR X t5 [t20, (.int .i64 0), (.int .i64 1000000)] fun t21 =>
 A0 PR (Instr.fieldAt 23 t1 4) fun t23 =>
 A6 PR (Instr.loadAt 3 t23) fun t24 =>
 M4 PR X t5 [t24, (.int .i64 2), (.int .i64 8)] fun t25 =>
 A6 PR (Instr.loadAt 28 t3) fun t26 =>
 R t26
theorem B3d : B0 PR 35 := A8 Tryz.func35 (by kernel_rfl) rfl
theorem B33 {X : Nat → Prop} {t0 : Value} {R : Value → WP} {w : World} (h : A7p X t0 R w) : Fn PR X 35 #[t0] w R := C6 (args := [t0]) mixed Tryz.func35 (by kernel_rfl) h
def A7k (X : Nat → Prop) (t0 t1 : Value) (R : Value → WP) : WP :=
 jn (n := 1) (fun t4 =>
 B1 PR X 102 [t0] fun t8 =>
 A0 PR (binOp .shr 129 t8 (.int .u64 32)) fun t9 =>
 A0 PR (convert 3 129 t1) fun t11 =>
 A0 PR (binOp .rem 129 t9 t11) fun t12 =>
 A0 PR (convert 129 3 t12) fun t13 =>
 R t13) fun J1 =>
 A0 PR (binOp .lss 3 t1 (.int .i64 1)) fun t6 =>
 B5 t6 (
 R (.int .i64 0)) (
 J1 (.int .i64 0))
theorem B3G : B0 PR 57 := A8 Tryz.func57 (by kernel_rfl) rfl
theorem B3r {X : Nat → Prop} {t0 t1 : Value} {R : Value → WP} {w : World} (h : A7k X t0 t1 R w) : Fn PR X 57 #[t0, t1] w R := C6 (args := [t0, t1]) mixed Tryz.func57 (by kernel_rfl) h
def A3l (X : Nat → Prop) (t0 t1 t2 t3 : Value) (R : Value → WP) : WP :=
 A0 PR (binOp .lss 3 t0 t1) fun t9 =>
 gj t9 false (fun J => J t0) fun t11 =>
 gj t9 false (fun J => J t2) fun t12 =>
 gj t9 false (fun J => A0 PR (binOp .gtr 3 t11 t12) J) fun t13 =>
 A0 PR (do pure (if ← asBool t9 then (.bool true) else t13)) fun t14 =>
 B5 t14 (
 B6 PR X (Instr.storeAt 28 t3 (.int .i64 1)) <|
 R (.tuple #[])) (
 R (.tuple #[]))
theorem W0 : B0 PR 71 := A8 Tryz.func71 (by kernel_rfl) rfl
theorem B09 {X : Nat → Prop} {t0 t1 t2 t3 : Value} {R : Value → WP} {w : World} (h : A3l X t0 t1 t2 t3 R w) : Fn PR X 71 #[t0, t1, t2, t3] w R := C6 (args := [t0, t1, t2, t3]) mixed Tryz.func71 (by kernel_rfl) h
end Go.Proofs.YtpbmephflllolaaGreat
