/- The proof of a given statement, a part of it (Args Join ShR17 Tab Tab2 Model5 Model6 Model7 Model8 Tab3 DoT Few ArgsC Rec Args22 Sym WitL LegL ShOrder ShR21 ShR22 ShR08 ShL22 Stab Stab2 Stab3 Wit Real Rf22). No condition but what each lemma says. -/
import Derived.WalkKit
import Derived.ProofKit
import Derived.OpenShut
import Derived.Carry
import Derived.Deep.Slices
import Derived.Test.YtlplkjgcfjdinaaGreatRows
import Derived.Test.YtlplkjgcfjdinaaGreatU15
set_option linter.unusedVariables false
set_option linter.unusedSimpArgs false
namespace Go.Proofs.YtlplkjgcfjdinaaGreat
open Go Go.ChangeShapes Go.WideShapes Go.ChangeAt Go.RowKit
theorem C6p {w w' : World} (h : C6 [] w w') (hk : Sk B7 w w') (may : MemPlace → Prop) : w.keptBut w' may := by
 refine ⟨hk.2.2.2.1, hk.2.2.2.2, fun i hi => ?_⟩
 have h1 : w.heap[i]? = some w.heap[i] := Array.getElem?_eq_getElem hi
 have h2 : w'.heap[i]? = some w.heap[i] := h.2 i _ (by simp) h1
 rw [h1, h2]
 cases w.heap[i] <;> simp
theorem C2n {f : FuncId} {args : Array Value} {w : World} (h : Fn PR B7 f args w (fun v w' => v = .bool true ∧ C6 [] w w')) :
  Calls PR f args w fun e w' => e = .returned (.bool true) ∧ (∀ may, w.keptBut w' may) ∧ C6 [] w w' :=
 Calls.mono h fun _ w' ⟨v, he, ⟨hv, hb⟩, hs⟩ => ⟨by rw [he, hv], C6p hb hs, hb⟩
theorem own : ownKnob PR.godebug = none := by kernel_rfl
theorem C7k : laidOutB PR = true := by kernel_rfl
theorem B94 {H : Type} {enc : TypeId × Value → H} {P : Program} {f : Func} {s : ChangeSpec} {apart fresh handsOn : Bool} {W W' : World} {args : Array Value} {v : Value} {ds gs : List (DataW H)} {before pa pv : List MemPlace}
  (hW : DataW.Whole enc P f.params.toList s.vars apart W args.toList ds gs before)
  (hres : ∀ (b : Nat) (sp : Nat → Bool) (hd : Bool), DataW.TrodAll enc P W' b sp hd f.resultTypes.toList (v.resultList f.resultTypes.size) (s.fn H (ds ++ gs)).results [])
  (hargs : ∀ sp : Nat → Bool, (∀ p ∈ before, sp p.block = true) → DataW.TrodAll enc P W' 0 sp true f.params.toList args.toList (s.fn H (ds ++ gs)).args pa)
  (hvars : ∀ sp : Nat → Bool, (∀ p ∈ before, sp p.block = true) → DataW.TrodVars enc P W' sp s.vars (s.fn H (ds ++ gs)).vars pv)
  (hk : ∀ may, W.keptBut W' may) : s.post enc P f apart fresh handsOn false W args v W' := by
 have hold : ∀ p ∈ before, (fun b => decide (b < W.heap.size)) p.block = true := fun p hp => by simpa using hW.lt p hp
 exact ⟨ds, gs, before, [], pa, pv, hW, hres _ _ _, hargs _ hold, hvars _ hold, hk _, fun h => by cases h⟩
theorem B6v {v x : Value} (h : v.cells.toList = [x]) (hv : plain v = true) : v = x := by
 cases v <;> first | (simp [Value.cells] at h; exact h) | (simp [plain] at hv)
section
variable {H : Type} {enc : TypeId × Value → H} {P : Program} {w : World} {base : Nat} {spare : Nat → Bool} {held : Bool}
theorem B1C {α : Type} {f : α → List Value} {k : Nat} (hk : ∀ x, (f x).length = k) (hkp : 0 < k) {Q : α → Prop} {t e : TypeId} {fuel : Nat} {cs : List Value} {x : DataW H × List MemPlace}
  (ht : P.underlying t = some (.slice e)) (hc : P.cellsOf e = k) (h : DataW.trod enc P w base spare held fuel t cs = some x)
  (he : ∀ n cs' y, DataW.trod enc P w base spare held n e cs' = some y → ∃ a, cs' = f a ∧ Q a) :
  ∃ (v : Value) (l : List α), cs = [v] ∧ D4 w v l.length (l.flatMap f) ∧ (∀ a ∈ l, Q a) ∧ l.length ≤ maxLen := by
 rcases Go.Deep.open_slice ht h with ⟨rfl, _⟩ | ⟨a, len, cap, m, n, D, Pl, rfl, hb, hl, hm, hmm, _, hx⟩
 ·exact ⟨_, [], rfl, Or.inl ⟨rfl, rfl, none, 0, rfl⟩, by simp, by simp⟩
 have hlm : len ≤ m := by rw [hmm]; split <;> omega
 have hch : ∀ i : Fin len, ∃ a' : α, Q a' ∧ w.cells? base (a.add (i.1 * k)) k = some (f a') := by
  intro i
  obtain ⟨cs', h1, h2⟩ := hx i.1 (by omega)
  obtain ⟨a', rfl, hq⟩ := he _ _ _ h2
  rw [hc] at h1
  exact ⟨a', hq, h1⟩
 let g : Fin len → α := fun i => Classical.choose (hch i)
 have hg : ∀ i, Q (g i) ∧ w.cells? base (a.add (i.1 * k)) k = some (f (g i)) := fun i => Classical.choose_spec (hch i)
 refine ⟨_, List.ofFn g, rfl, ?_, ?_, by simp; omega⟩
 ·by_cases h0 : len = 0
  ·subst h0; exact Or.inl ⟨by simp, by simp, _, _, rfl⟩
  obtain ⟨b, o, spot⟩ := a
  have h1 := (World.cells?_some (hg ⟨0, by omega⟩).2).2.2 0 hkp
  have hfl := hk (g ⟨0, by omega⟩)
  rw [List.getElem?_eq_getElem (by omega)] at h1
  have hspot : spot = none := by simpa [Addr.add] using World.cell?_spot h1
  subst hspot
  refine Or.inr ⟨b, o, cap, by simp, fun i hi => ?_⟩
  rw [L5 hk] at hi
  simp only [List.length_ofFn] at hi
  have hd : i / k * k + i % k = i := by rw [Nat.mul_comm]; exact Nat.div_add_mod i k
  have hj : i % k < k := Nat.mod_lt _ hkp
  have hi' : i / k < len := by rw [Nat.div_lt_iff_lt_mul hkp]; exact hi
  have h2 := (World.cells?_some (hg ⟨i / k, hi'⟩).2).2.2 (i % k) hj
  rw [← hd, Y4 hk _ _ _ hj, List.getElem?_ofFn, dif_pos hi']
  simp only [Option.bind_some]
  rw [← h2, j4, j4]
  simp only [Nat.add_assoc]
 ·intro a' ha'
  rw [List.mem_ofFn] at ha'
  obtain ⟨i, rfl⟩ := ha'
  exact (hg i).1
theorem K9 {t : TypeId} {k : IntKind} {fuel : Nat} {cs : List Value} {x : DataW H × List MemPlace} (ht : P.underlying t = some (.int k)) (h : DataW.trod enc P w base spare held fuel t cs = some x) :
  ∃ a : Int, cs = [.int k a] ∧ (Lit.int k a).wf = true := by
 obtain ⟨n, h1, _, h2⟩ := DataW.trod_int ht h
 exact ⟨n, h1, h2⟩
theorem C09 {t : TypeId} {fuel : Nat} {cs : List Value} {x : DataW H × List MemPlace} (ht : P.underlying t = some .string) (h : DataW.trod enc P w base spare held fuel t cs = some x) :
  ∃ s : ByteArray, cs = [.string s] ∧ s.size ≤ maxLen := by
 obtain ⟨s, h1, _, h2⟩ := DataW.trod_string ht h
 exact ⟨s, h1, h2⟩
theorem B9w {α : Type} {f : α → List Value} {t e : TypeId} {Q : List α → Prop} {r : Reach} {b0 : Nat} {v : Value} {d : DataW H} {ps : List MemPlace} (ht : P.underlying t = some (.slice e)) (hval : Value.okWide P w r b0 t v) (hd : DataW.Trod enc P w base spare held t v d ps)
  (h : ∀ fuel cs x, DataW.trod enc P w base spare held fuel t cs = some x → ∃ (v : Value) (l : List α), cs = [v] ∧ D4 w v l.length (l.flatMap f) ∧ Q l) : ∃ l : List α, D4 w v l.length (l.flatMap f) ∧ Q l := by
 obtain ⟨a, len, cap, rfl⟩ := okWide_slice ht hval
 obtain ⟨fuel, hf⟩ := hd
 obtain ⟨v', l, h1, h2⟩ := h _ _ _ hf
 have : Value.slice a len cap = v' := B6v h1 rfl
 subst this
 exact ⟨l, h2⟩
end
theorem B5u {H : Type} {enc : TypeId × Value → H} {P : Program} (hl : laidOutB P = true) {W W' : World} (hb : C6 [] W W') {sp : Nat → Bool} :
  ∀ {ts : List TypeId} {vs : List Value} {ds : List (DataW H)} {ps : List MemPlace}, (ts.all fun t => P.readableRec t && decide (t < P.types.size)) = true → DataW.TrodAll enc P W 0 (fun _ => true) true ts vs ds ps →
   (∀ p ∈ ps, p.block < W.heap.size) → (∀ p ∈ ps, sp p.block = true) → DataW.TrodAll enc P W' 0 sp true ts vs ds ps := by
 intro ts
 induction ts with
 | nil => intro vs ds ps _ h _ _; cases vs <;> cases ds <;> exact h
 | cons t ts ih =>
  intro vs ds ps ht h hlt hsp
  simp only [List.all_cons, Bool.and_eq_true, decide_eq_true_eq] at ht
  obtain ⟨v, vs', d, ds', p, q, rfl, rfl, rfl, h0, hr⟩ := trodAll_cons h
  refine ⟨p, q, WideElems.Trod_stays hl ht.1.1 ht.1.2 h0 (fun x hx => ?_) (fun x hx => hsp x (List.mem_append_left _ hx)),
   ih ht.2 hr (fun x hx => hlt x (List.mem_append_right _ hx)) (fun x hx => hsp x (List.mem_append_right _ hx)), rfl⟩
  have hlt' := hlt x (List.mem_append_left _ hx)
  have e1 : W.heap[x.block]? = some W.heap[x.block] := Array.getElem?_eq_getElem hlt'
  have e2 : W'.heap[x.block]? = some W.heap[x.block] := hb.2 _ _ (by simp) e1
  cases x with
  | cell b o => show W'.cell? _ = W.cell? _; unfold World.cell?; rw [show W'.heap[b]? = W.heap[b]? from e2.trans e1.symm]
  | map b => exact e2.trans e1.symm
set_option maxRecDepth 10000
section
variable {H : Type} {enc : TypeId × Value → H} {w : World} {base : Nat} {spare : Nat → Bool} {held : Bool} {fuel : Nat} {cs : List Value} {x : DataW H × List MemPlace}
theorem C6q (h : DataW.trod enc PR w base spare held fuel 129 cs = some x) : ∃ a : G2, cs = E7 a ∧ True := by
 obtain ⟨xs, n, _, rfl, hl, hxl, hf⟩ := DataW.trod_struct B1A.und h
 have hl4 : cs.length = 2 := hl.trans (by kernel_rfl)
 have hx4 : xs.length = 2 := hxl.trans (by kernel_rfl)
 match cs, hl4 with
 | [c0, c1], _ =>
  have f0 := hf 0 _ rfl
  have f1 := hf 1 _ rfl
  rw [List.getElem?_eq_getElem (by omega)] at f0 f1
  obtain ⟨a0, e0, _⟩ := K9 Tryz.underlying3 f0
  obtain ⟨a1, e1, _⟩ := K9 Tryz.underlying3 f1
  have e0 : [c0] = [.int .i64 a0] := e0
  have e1 : [c1] = [.int .i64 a1] := e1
  cases e0; cases e1
  exact ⟨(a0, a1), rfl, trivial⟩
theorem C4k (h : DataW.trod enc PR w base spare held fuel 50 cs = some x) : ∃ (v : Value) (l : List G2), cs = [v] ∧ D4 w v l.length (l.flatMap E7) ∧ l.length ≤ maxLen := by
 obtain ⟨v, l, h1, h2, _, h3⟩ := B1C (f := E7) (k := 2) (Q := fun _ => True) (fun _ => rfl) (by omega) Tryz.underlying50 (by kernel_rfl) h (fun n cs' y hy => C6q hy)
 exact ⟨v, l, h1, h2, h3⟩
end
end Go.Proofs.YtlplkjgcfjdinaaGreat
namespace Go.Proofs.YtlplkjgcfjdinaaGreat
open Go
set_option maxRecDepth 100000
theorem jf2 : mapsRowed Tryz.prog = true := by kernel_rfl
theorem jf6 : (Program.stops Tryz.prog == []) = true := by kernel_rfl
theorem jf8 : (Program.stopKnobs Tryz.prog == []) = true := by kernel_rfl
theorem D17 : Program.stopsHeard Tryz.prog = true := by kernel_rfl
theorem D2c : Program.mayEnter Tryz.prog = true := by kernel_rfl
end Go.Proofs.YtlplkjgcfjdinaaGreat
namespace Go.Proofs.YtlplkjgcfjdinaaGreat
open Go
def A2A (X : Nat → Prop) (t0 t1 : Value) (R : Value → WP) : WP :=
 jn (n := 1) (fun t4 =>
 jn (n := 2) (fun t4_1 t5 =>
 R (.bool true)) fun J1 =>
 lp (n := 2) (fun L2 t4_2 t5_1 =>
 jn (n := 0) (
 jn (n := 1) (fun t4_3 =>
 A0 PR (binOp .add 3 t5_1 (.int .i64 1)) fun t15 =>
 L2 t4_3 t15) fun J3 =>
 A0 PR (Instr.indexAt 53 t0 t5_1) fun t18 =>
 A0 PR (Instr.fieldAt 52 t18 1) fun t19 =>
 A6 PR (Instr.loadAt 9 t19) fun t20 =>
 A0 PR (A7 .len #[9] 0 [t20]) fun t21 =>
 A0 PR (binOp .gtr 3 t21 (.int .i64 100)) fun t22 =>
 gj t22 false (fun J => J t0) fun t24 =>
 gj t22 false (fun J => J t5_1) fun t25 =>
 gj t22 false (fun J => A0 PR (Instr.indexAt 53 t24 t25) J) fun t26 =>
 gj t22 false (fun J => A0 PR (Instr.fieldAt 52 t26 2) J) fun t27 =>
 gj t22 false (fun J => A6 PR (Instr.loadAt 50 t27) J) fun t28 =>
 gj t22 false (fun J => A0 PR (A7 .len #[50] 0 [t28]) J) fun t29 =>
 gj t22 false (fun J => A0 PR (binOp .gtr 3 t29 (.int .i64 8)) J) fun t30 =>
 A0 PR (do pure (if ← asBool t22 then (.bool true) else t30)) fun t31 =>
 B3 t31 (
 R (.bool false)) (
 J3 t4_2)) fun J4 =>
 A0 PR (A7 .len #[53] 0 [t0]) fun t12 =>
 A0 PR (binOp .lss 3 t5_1 t12) fun t13 =>
 B3 t13 (
 J4) (
 J1 t4_2 t5_1)) t4 (.int .i64 0)) fun J5 =>
 A0 PR (A7 .len #[53] 0 [t0]) fun t7 =>
 A0 PR (binOp .gtr 3 t7 t1) fun t9 =>
 B3 t9 (
 R (.bool false)) (
 J5 (.bool false))
theorem A1l : B0 PR 18 := A8 Tryz.func18 (by kernel_rfl) rfl
theorem A7u {X : Nat → Prop} {t0 t1 : Value} {R : Value → WP} {w : World} (h : A2A X t0 t1 R w) : Fn PR X 18 #[t0, t1] w R := C7 (args := [t0, t1]) mixed Tryz.func18 (by kernel_rfl) h
def A0l (X : Nat → Prop) (t0 : Value) (R : Value → WP) : WP :=
 B1 PR X (Instr.box 23 t0) fun t1 =>
 A0 PR (Instr.fieldAt 23 t1 0) fun t3 =>
 A6 PR (Instr.loadAt 3 t3) fun t4 =>
 A0 PR (binOp .leq 3 t4 (.int .i64 6)) fun t5 =>
 gj t5 true (fun J => A0 PR (Instr.fieldAt 23 t1 1) J) fun t7 =>
 gj t5 true (fun J => A6 PR (Instr.loadAt 3 t7) J) fun t8 =>
 gj t5 true (fun J => A0 PR (binOp .leq 3 t8 (.int .i64 6)) J) fun t9 =>
 A0 PR (do pure (if ← asBool t5 then t9 else (.bool false))) fun t10 =>
 gj t10 true (fun J => A0 PR (Instr.fieldAt 23 t1 2) J) fun t12 =>
 gj t10 true (fun J => A6 PR (Instr.loadAt 3 t12) J) fun t13 =>
 gj t10 true (fun J => A0 PR (binOp .leq 3 t13 (.int .i64 12)) J) fun t14 =>
 A0 PR (do pure (if ← asBool t10 then t14 else (.bool false))) fun t15 =>
 R t15
theorem A5C : B0 PR 19 := A8 Tryz.func19 (by kernel_rfl) rfl
theorem A50 {X : Nat → Prop} {t0 : Value} {R : Value → WP} {w : World} (h : A0l X t0 R w) : Fn PR X 19 #[t0] w R := C7 (args := [t0]) mixed Tryz.func19 (by kernel_rfl) h
def A02 (X : Nat → Prop) (t0 : Value) (R : Value → WP) : WP :=
 B1 PR X (Instr.box 23 t0) fun t1 =>
 jn (n := 1) (fun t2 =>
 R (.int .i64 1)) fun J1 =>
 A0 PR (Instr.fieldAt 23 t1 0) fun t3 =>
 A6 PR (Instr.loadAt 3 t3) fun t4 =>
 B2 PR X 37 [t4, (.int .i64 1), (.int .i64 64)] fun t5 =>
 gj t5 true (fun J => A0 PR (Instr.fieldAt 23 t1 1) J) fun t7 =>
 gj t5 true (fun J => A6 PR (Instr.loadAt 3 t7) J) fun t8 =>
 gj t5 true (fun J => B2 PR X 37 [t8, (.int .i64 1), (.int .i64 16)] J) fun t9 =>
 A0 PR (do pure (if ← asBool t5 then t9 else (.bool false))) fun t10 =>
 gj t10 true (fun J => A0 PR (Instr.fieldAt 23 t1 2) J) fun t12 =>
 gj t10 true (fun J => A6 PR (Instr.loadAt 3 t12) J) fun t13 =>
 gj t10 true (fun J => B2 PR X 37 [t13, (.int .i64 1), (.int .i64 64)] J) fun t14 =>
 A0 PR (do pure (if ← asBool t10 then t14 else (.bool false))) fun t15 =>
 gj t15 true (fun J => A0 PR (Instr.fieldAt 23 t1 3) J) fun t17 =>
 gj t15 true (fun J => A6 PR (Instr.loadAt 3 t17) J) fun t18 =>
 gj t15 true (fun J => B2 PR X 37 [t18, (.int .i64 0), (.int .i64 1000000)] J) fun t19 =>
 A0 PR (do pure (if ← asBool t15 then t19 else (.bool false))) fun t20 =>
 gj t20 true (fun J => A0 PR (Instr.fieldAt 23 t1 4) J) fun t22 =>
 gj t20 true (fun J => A6 PR (Instr.loadAt 3 t22) J) fun t23 =>
 gj t20 true (fun J => B2 PR X 37 [t23, (.int .i64 2), (.int .i64 8)] J) fun t24 =>
 A0 PR (do pure (if ← asBool t20 then t24 else (.bool false))) fun t25 =>
 B3 t25 (
 R (.int .i64 0)) (
 J1 (.int .i64 0))
theorem A5P : B0 PR 26 := A8 Tryz.func26 (by kernel_rfl) rfl
theorem A5f {X : Nat → Prop} {t0 : Value} {R : Value → WP} {w : World} (h : A02 X t0 R w) : Fn PR X 26 #[t0] w R := C7 (args := [t0]) mixed Tryz.func26 (by kernel_rfl) h
def A18 (X : Nat → Prop) (t0 : Value) (R : Value → WP) : WP :=
 B1 PR X (Instr.box 23 t0) fun t1 =>
 B1 PR X (Instr.alloc 68 true (.tuple #[])) fun t2 =>
 drw <|
 kt (n := 1) (fun t3 =>
 jn (n := 1) (fun t4 =>
 A6 PR (Instr.loadAt 68 t3) fun t24 =>
 B6 PR X (Instr.storeAt 68 t2 t24) <|
 A6 PR (D0 [.c 68 t2]) R) fun J1 =>
 lp (n := 1) (fun L2 t4_1 =>
 jn (n := 0) (
 jn (n := 0) (
 A0 PR (binOp .add 3 t4_1 (.int .i64 1)) fun t15 =>
 L2 t15) fun J3 =>
 drw <|
 A0 PR (Instr.fieldAt 68 t3 2) fun t16 =>
 A6 PR (Instr.loadAt 66 t16) fun t17 =>
 A0 PR (Instr.fieldAt 23 t1 2) fun t18 =>
 A6 PR (Instr.loadAt 3 t18) fun t19 =>
 B2 PR X 38 [t19] fun t20 =>
 watch PR [(none, (Instr.loadAt 66 t16), t17)] <|
 B1 PR X (Instr.buildSlice 66 1 #[(0, t20)]) fun t21 =>
 watch PR [(none, (Instr.loadAt 66 t16), t17)] <|
 B1 PR X (A7 .append #[66, 66] 66 [t17, t21]) fun t22 =>
 A0 PR (Instr.fieldAt 68 t3 2) fun t23 =>
 B6 PR X (Instr.storeAt 66 t23 t22) <|
 J3) fun J4 =>
 A0 PR (Instr.fieldAt 23 t1 1) fun t11 =>
 A6 PR (Instr.loadAt 3 t11) fun t12 =>
 A0 PR (binOp .lss 3 t4_1 t12) fun t13 =>
 B3 t13 (
 J4) (
 J1 t4_1)) (.int .i64 0)) fun C5 =>
 A6 PR (Instr.loadAt 23 t1) fun t5_1 =>
 A0 PR (Instr.fieldAt 23 t1 1) fun t6_1 =>
 A6 PR (Instr.loadAt 3 t6_1) fun t7_1 =>
 both (B1 PR X (Instr.makeSlice 35 t7_1 t7_1) fun t8_2 =>
 watch PR [(none, (Instr.loadAt 23 t1), t5_1)] <|
 A0 PR (Instr.build 68 #[(0, t5_1), (3, t8_2)]) fun t9_2 =>
 B1 PR X (Instr.alloc 68 true (.tuple #[])) fun t3_2 =>
 watch PR [(none, (Instr.loadAt 23 t1), t5_1)] <|
 B6 PR X (Instr.storeAt 68 t3_2 t9_2) <|
 C5 t3_2) (both (B1 PR X (Instr.alloc 68 true (.tuple #[])) fun t3_1 =>
 watch PR [(none, (Instr.loadAt 3 t6_1), t7_1), (none, (Instr.loadAt 23 t1), t5_1)] <|
 B1 PR X (Instr.makeSlice 35 t7_1 t7_1) fun t8_1 =>
 watch PR [(none, (Instr.loadAt 23 t1), t5_1)] <|
 A0 PR (Instr.build 68 #[(0, t5_1), (3, t8_1)]) fun t9_1 =>
 B6 PR X (Instr.storeAt 68 t3_1 t9_1) <|
 C5 t3_1) ((fun _ => True)))
theorem A69 : B0 PR 27 := A8 Tryz.func27 (by kernel_rfl) rfl
theorem A7w {X : Nat → Prop} {t0 : Value} {R : Value → WP} {w : World} (h : A18 X t0 R w) : Fn PR X 27 #[t0] w R := C7 (args := [t0]) mixed Tryz.func27 (by kernel_rfl) h
def A2m (X : Nat → Prop) (t0 t1 t2 : Value) (R : Value → WP) : WP :=
 A0 PR (binOp .geq 3 t0 t1) fun t9 =>
 gj t9 true (fun J => J t0) fun t11 =>
 gj t9 true (fun J => J t2) fun t12 =>
 gj t9 true (fun J => A0 PR (binOp .leq 3 t11 t12) J) fun t13 =>
 A0 PR (do pure (if ← asBool t9 then t13 else (.bool false))) fun t14 =>
 R t14
theorem S8 : B0 PR 37 := A8 Tryz.func37 (by kernel_rfl) rfl
theorem A8s {X : Nat → Prop} {t0 t1 t2 : Value} {R : Value → WP} {w : World} (h : A2m X t0 t1 t2 R w) : Fn PR X 37 #[t0, t1, t2] w R := C7 (args := [t0, t1, t2]) mixed Tryz.func37 (by kernel_rfl) h
def K1 (X : Nat → Prop) (t0 t1 t2 : Value) (R : Value → WP) : WP :=
 B1 PR X (Instr.box 68 t0) fun t3 =>
 B1 PR X (Instr.box 52 t1) fun t4 =>
 B1 PR X (Instr.alloc 68 true (.tuple #[])) fun t6 =>
 B1 PR X (Instr.alloc 44 true (.tuple #[])) fun t7 =>
 jn (n := 0) (
 A6 PR (Instr.loadAt 68 t3) fun t146 =>
 A0 PR (Instr.build 44 #[(0, (.int .i64 1))]) fun t147 =>
 B6 PR X (Instr.storeAt 68 t6 t146) <|
 B6 PR X (Instr.storeAt 44 t7 t147) <|
 A6 PR (D0 [.c 68 t6, .c 44 t7]) R) fun J1 =>
 A0 PR (Instr.fieldAt 52 t4 0) fun t17 =>
 A6 PR (Instr.loadAt 3 t17) fun t18 =>
 A0 PR (binOp .eql 3 t18 (.int .i64 0)) fun t20 =>
 B3 t20 (
 A0 PR (Instr.fieldAt 52 t4 1) fun t21 =>
 A6 PR (Instr.loadAt 9 t21) fun t22 =>
 A0 PR (Instr.fieldAt 68 t3 0) fun t23 =>
 A0 PR (Instr.fieldAt 23 t23 1) fun t24 =>
 A6 PR (Instr.loadAt 3 t24) fun t25 =>
 B2 PR X 45 [t22, t25] fun t26 =>
 B1 PR X (Instr.alloc 95 true (.tuple #[])) fun t8 =>
 B6 PR X (Instr.storeAt 95 t8 t26) <|
 jn (n := 0) (
 drw <|
 kt (n := 2) (fun t10 t9 =>
 drw <|
 A6 PR (Instr.loadAt 68 t3) fun t54 =>
 A0 PR (Instr.fieldAt 95 t8 1) fun t55 =>
 A6 PR (Instr.loadAt 3 t55) fun t56 =>
 A6 PR (Instr.loadAt 44 t10) fun t59 =>
 B2 PR X 47 [t54, t56, t9] fun t58 =>
 watch PR [(none, (Instr.loadAt 44 t10), t59)] <|
 B6 PR X (Instr.storeAt 68 t6 t58) <|
 watch PR [(none, (Instr.loadAt 44 t10), t59)] <|
 B6 PR X (Instr.storeAt 44 t7 t59) <|
 A6 PR (D0 [.c 68 t6, .c 44 t7]) R) fun C2 =>
 A0 PR (Instr.fieldAt 68 t3 2) fun t35_1 =>
 A6 PR (Instr.loadAt 66 t35_1) fun t36_1 =>
 A0 PR (Instr.fieldAt 95 t8 1) fun t37_1 =>
 A6 PR (Instr.loadAt 3 t37_1) fun t38_1 =>
 A0 PR (Instr.indexAt 66 t36_1 t38_1) fun t39_1 =>
 A6 PR (Instr.loadAt 79 t39_1) fun t40_1 =>
 A0 PR (Instr.fieldAt 68 t3 1) fun t41_1 =>
 A6 PR (Instr.loadAt 50 t41_1) fun t42_1 =>
 A0 PR (Instr.fieldAt 95 t8 0) fun t43_1 =>
 A6 PR (Instr.loadAt 9 t43_1) fun t44_1 =>
 A0 PR (Instr.fieldAt 95 t8 2) fun t45_1 =>
 A6 PR (Instr.loadAt 4 t45_1) fun t46_1 =>
 A0 PR (Instr.fieldAt 68 t3 0) fun t48_1 =>
 A0 PR (Instr.fieldAt 23 t48_1 3) fun t49_1 =>
 A6 PR (Instr.loadAt 3 t49_1) fun t50_1 =>
 both (B2 PR X 46 [t40_1, t42_1, t44_1, t46_1, t2, t50_1] fun t51_2 =>
 A0 PR (Instr.extract t51_2 0) fun t52_2 =>
 A0 PR (Instr.extract t51_2 1) fun t53_2 =>
 B1 PR X (Instr.alloc 44 true (.tuple #[])) fun t10_2 =>
 B6 PR X (Instr.storeAt 44 t10_2 t53_2) <|
 C2 t10_2 t52_2) (both (B1 PR X (Instr.alloc 44 true (.tuple #[])) fun t10_1 =>
 watch PR [(none, (Instr.loadAt 3 t49_1), t50_1), (none, (Instr.loadAt 4 t45_1), t46_1), (none, (Instr.loadAt 9 t43_1), t44_1), (none, (Instr.loadAt 50 t41_1), t42_1), (none, (Instr.loadAt 79 t39_1), t40_1), (none, (Instr.loadAt 3 t37_1), t38_1), (none, (Instr.loadAt 66 t35_1), t36_1)] <|
 B2 PR X 46 [t40_1, t42_1, t44_1, t46_1, t2, t50_1] fun t51_1 =>
 A0 PR (Instr.extract t51_1 0) fun t52_1 =>
 A0 PR (Instr.extract t51_1 1) fun t53_1 =>
 B6 PR X (Instr.storeAt 44 t10_1 t53_1) <|
 C2 t10_1 t52_1) ((fun _ => True)))) fun J3 =>
 A0 PR (Instr.fieldAt 95 t8 3) fun t27 =>
 A6 PR (Instr.loadAt 42 t27) fun t28 =>
 A0 PR (binOp .neq 42 t28 (.int .i64 0)) fun t29 =>
 B3 t29 (
 drw <|
 A6 PR (Instr.loadAt 68 t3) fun t30 =>
 A0 PR (Instr.fieldAt 95 t8 3) fun t31 =>
 A6 PR (Instr.loadAt 42 t31) fun t32 =>
 A0 PR (Instr.build 44 #[(0, t32)]) fun t33 =>
 B6 PR X (Instr.storeAt 68 t6 t30) <|
 watch PR [(none, (Instr.loadAt 42 t31), t32)] <|
 B6 PR X (Instr.storeAt 44 t7 t33) <|
 A6 PR (D0 [.c 68 t6, .c 44 t7]) R) (
 J3)) (
 A0 PR (binOp .eql 3 t18 (.int .i64 1)) fun t61 =>
 B3 t61 (
 A0 PR (Instr.fieldAt 52 t4 2) fun t62 =>
 A6 PR (Instr.loadAt 50 t62) fun t63 =>
 B2 PR X 48 [t63] fun t64 =>
 jn (n := 0) (
 A0 PR (Instr.fieldAt 52 t4 2) fun t70 =>
 A6 PR (Instr.loadAt 50 t70) fun t71 =>
 A0 PR (Instr.fieldAt 68 t3 1) fun t72 =>
 B6 PR X (Instr.storeAt 50 t72 t71) <|
 A6 PR (Instr.loadAt 68 t3) fun t73 =>
 A0 PR (Instr.build 44 #[]) fun t74 =>
 B6 PR X (Instr.storeAt 68 t6 t73) <|
 B6 PR X (Instr.storeAt 44 t7 t74) <|
 A6 PR (D0 [.c 68 t6, .c 44 t7]) R) fun J4 =>
 A0 PR (binOp .neq 42 t64 (.int .i64 0)) fun t66 =>
 B3 t66 (
 A6 PR (Instr.loadAt 68 t3) fun t67 =>
 A0 PR (Instr.build 44 #[(0, t64)]) fun t69 =>
 B6 PR X (Instr.storeAt 68 t6 t67) <|
 B6 PR X (Instr.storeAt 44 t7 t69) <|
 A6 PR (D0 [.c 68 t6, .c 44 t7]) R) (
 J4)) (
 A0 PR (binOp .eql 3 t18 (.int .i64 2)) fun t76 =>
 B3 t76 (
 jn (n := 0) (
 drw <|
 A0 PR (Instr.fieldAt 68 t3 2) fun t91 =>
 A6 PR (Instr.loadAt 66 t91) fun t92 =>
 A0 PR (Instr.fieldAt 52 t4 3) fun t93 =>
 A6 PR (Instr.loadAt 3 t93) fun t94 =>
 A0 PR (Instr.indexAt 66 t92 t94) fun t95 =>
 A6 PR (Instr.loadAt 79 t95) fun t96 =>
 A0 PR (Instr.fieldAt 68 t3 3) fun t97 =>
 A6 PR (Instr.loadAt 35 t97) fun t98 =>
 A0 PR (Instr.fieldAt 52 t4 3) fun t99 =>
 A6 PR (Instr.loadAt 3 t99) fun t100 =>
 A0 PR (Instr.indexAt 35 t98 t100) fun t101 =>
 A6 PR (Instr.loadAt 3 t101) fun t102 =>
 B2 PR X 49 [t96, t102, (.int .i64 4), t2] fun t104 =>
 A0 PR (Instr.extract t104 0) fun t105 =>
 A0 PR (Instr.extract t104 1) fun t106 =>
 A0 PR (Instr.extract t104 2) fun t107 =>
 B1 PR X (Instr.buildSlice 35 0 #[]) fun t108 =>
 A0 PR (Instr.fieldAt 68 t3 3) fun t109 =>
 A6 PR (Instr.loadAt 35 t109) fun t110 =>
 B1 PR X (A7 .append #[35, 35] 35 [t108, t110]) fun t111 =>
 A0 PR (Instr.fieldAt 68 t3 3) fun t112 =>
 B6 PR X (Instr.storeAt 35 t112 t111) <|
 A0 PR (Instr.fieldAt 68 t3 3) fun t113 =>
 A6 PR (Instr.loadAt 35 t113) fun t114 =>
 A0 PR (Instr.fieldAt 52 t4 3) fun t115 =>
 A6 PR (Instr.loadAt 3 t115) fun t116 =>
 A0 PR (Instr.indexAt 35 t114 t116) fun t118 =>
 B6 PR X (Instr.storeAt 3 t118 t106) <|
 A6 PR (Instr.loadAt 68 t3) fun t119 =>
 A0 PR (Instr.fieldAt 52 t4 3) fun t120 =>
 A6 PR (Instr.loadAt 3 t120) fun t121 =>
 B2 PR X 47 [t119, t121, t105] fun t123 =>
 A0 PR (Instr.build 44 #[(3, t107)]) fun t125 =>
 B6 PR X (Instr.storeAt 68 t6 t123) <|
 B6 PR X (Instr.storeAt 44 t7 t125) <|
 A6 PR (D0 [.c 68 t6, .c 44 t7]) R) fun J5 =>
 A0 PR (Instr.fieldAt 52 t4 3) fun t77 =>
 A6 PR (Instr.loadAt 3 t77) fun t78 =>
 A0 PR (binOp .lss 3 t78 (.int .i64 0)) fun t79 =>
 gj t79 false (fun J => A0 PR (Instr.fieldAt 52 t4 3) J) fun t81 =>
 gj t79 false (fun J => A6 PR (Instr.loadAt 3 t81) J) fun t82 =>
 gj t79 false (fun J => A0 PR (Instr.fieldAt 68 t3 0) J) fun t83 =>
 gj t79 false (fun J => A0 PR (Instr.fieldAt 23 t83 1) J) fun t84 =>
 gj t79 false (fun J => A6 PR (Instr.loadAt 3 t84) J) fun t85 =>
 gj t79 false (fun J => A0 PR (binOp .geq 3 t82 t85) J) fun t86 =>
 A0 PR (do pure (if ← asBool t79 then (.bool true) else t86)) fun t87 =>
 B3 t87 (
 A6 PR (Instr.loadAt 68 t3) fun t88 =>
 A0 PR (Instr.build 44 #[(0, (.int .i64 1))]) fun t89 =>
 B6 PR X (Instr.storeAt 68 t6 t88) <|
 B6 PR X (Instr.storeAt 44 t7 t89) <|
 A6 PR (D0 [.c 68 t6, .c 44 t7]) R) (
 J5)) (
 A0 PR (binOp .eql 3 t18 (.int .i64 3)) fun t127 =>
 B3 t127 (
 jn (n := 2) (fun t15 t16 =>
 A6 PR (Instr.loadAt 68 t3) fun t143 =>
 A0 PR (Instr.build 44 #[(3, t15)]) fun t145 =>
 B6 PR X (Instr.storeAt 68 t6 t143) <|
 B6 PR X (Instr.storeAt 44 t7 t145) <|
 A6 PR (D0 [.c 68 t6, .c 44 t7]) R) fun J6 =>
 lp (n := 2) (fun L7 t15_1 t16_1 =>
 jn (n := 0) (
 jn (n := 1) (fun t15_2 =>
 A0 PR (binOp .add 3 t16_1 (.int .i64 1)) fun t134 =>
 L7 t15_2 t134) fun J8 =>
 A0 PR (Instr.fieldAt 68 t3 2) fun t136 =>
 A6 PR (Instr.loadAt 66 t136) fun t137 =>
 A0 PR (Instr.indexAt 66 t137 t16_1) fun t139 =>
 A6 PR (Instr.loadAt 79 t139) fun t140 =>
 B2 PR X 50 [t140, (.int .i64 1)] fun t141 =>
 A0 PR (binOp .add 3 t15_1 t141) fun t142 =>
 J8 t142) fun J9 =>
 A0 PR (Instr.fieldAt 68 t3 2) fun t129 =>
 A6 PR (Instr.loadAt 66 t129) fun t130 =>
 A0 PR (A7 .len #[66] 0 [t130]) fun t131 =>
 A0 PR (binOp .lss 3 t16_1 t131) fun t132 =>
 B3 t132 (
 J9) (
 J6 t15_1 t16_1)) (.int .i64 0) (.int .i64 0)) (
 J1))))
theorem L0 : B0 PR 39 := A8 Tryz.func39 (by kernel_rfl) rfl
theorem M7 {X : Nat → Prop} {t0 t1 t2 : Value} {R : Value → WP} {w : World} (h : K1 X t0 t1 t2 R w) : Fn PR X 39 #[t0, t1, t2] w R := C7 (args := [t0, t1, t2]) mixed Tryz.func39 (by kernel_rfl) h
def A1m (X : Nat → Prop) (t0 t1 : Value) (R : Value → WP) : WP :=
 B1 PR X (Instr.alloc 95 true (.tuple #[])) fun t4 =>
 B2 PR X 56 [t0] fun t11 =>
 A0 PR (Instr.extract t11 0) fun t12 =>
 A0 PR (Instr.extract t11 1) fun t13 =>
 B1 PR X (Instr.alloc 110 true (.tuple #[])) fun t5 =>
 B6 PR X (Instr.storeAt 110 t5 t12) <|
 jn (n := 0) (
 A0 PR (Instr.fieldAt 110 t5 0) fun t18 =>
 A6 PR (Instr.loadAt 108 t18) fun t19 =>
 B2 PR X 57 [t19] fun t20 =>
 A0 PR (Instr.extract t20 0) fun t21 =>
 A0 PR (Instr.extract t20 1) fun t22 =>
 drw <|
 A6 PR (Instr.loadAt 110 t5) fun t27 =>
 B2 PR X 58 [t21, t1] fun t26 =>
 watch PR [(none, (Instr.loadAt 110 t5), t27)] <|
 B2 PR X 59 [t27] fun t28 =>
 A0 PR (Instr.build 95 #[(0, t21), (1, t26), (2, t28)]) fun t29 =>
 B6 PR X (Instr.storeAt 95 t4 t29) <|
 A6 PR (D0 [.c 95 t4]) R) fun J1 =>
 A0 PR (binOp .neq 42 t13 (.int .i64 0)) fun t15 =>
 B3 t15 (
 A0 PR (Instr.build 95 #[(3, (.int .i64 9))]) fun t16 =>
 B6 PR X (Instr.storeAt 95 t4 t16) <|
 A6 PR (D0 [.c 95 t4]) R) (
 J1)
theorem A0f : B0 PR 45 := A8 Tryz.func45 (by kernel_rfl) rfl
theorem A7K {X : Nat → Prop} {t0 t1 : Value} {R : Value → WP} {w : World} (h : A1m X t0 t1 R w) : Fn PR X 45 #[t0, t1] w R := C7 (args := [t0, t1]) mixed Tryz.func45 (by kernel_rfl) h
def A0G (X : Nat → Prop) (t0 t1 t2 t3 t4 t5 : Value) (R : Value → WP) : WP :=
 B1 PR X (Instr.alloc 44 true (.tuple #[])) fun t13 =>
 B2 PR X 60 [t0, t2] fun t23 =>
 A0 PR (binOp .geq 3 t23 (.int .i64 0)) fun t25 =>
 gj t25 true (fun J => J t0) fun t27 =>
 gj t25 true (fun J => J t23) fun t28 =>
 gj t25 true (fun J => A0 PR (A7 .max #[3, 3] 0 [t28, (.int .i64 0)]) J) fun t29 =>
 gj t25 true (fun J => A0 PR (Instr.indexAt 79 t27 t29) J) fun t30 =>
 gj t25 true (fun J => A0 PR (Instr.fieldAt 119 t30 3) J) fun t31 =>
 gj t25 true (fun J => A6 PR (Instr.loadAt 3 t31) J) fun t32 =>
 gj t25 true (fun J => J t4) fun t33 =>
 gj t25 true (fun J => A0 PR (binOp .geq 3 t32 t33) J) fun t34 =>
 A0 PR (do pure (if ← asBool t25 then t34 else (.bool false))) fun t35 =>
 gj t35 true (fun J => J t1) fun t37 =>
 gj t35 true (fun J => J t0) fun t38 =>
 gj t35 true (fun J => J t23) fun t39 =>
 gj t35 true (fun J => A0 PR (A7 .max #[3, 3] 0 [t39, (.int .i64 0)]) J) fun t40 =>
 gj t35 true (fun J => A0 PR (Instr.indexAt 79 t38 t40) J) fun t41 =>
 gj t35 true (fun J => A0 PR (Instr.fieldAt 119 t41 2) J) fun t42 =>
 gj t35 true (fun J => A6 PR (Instr.loadAt 3 t42) J) fun t43 =>
 gj t35 true (fun J => B2 PR X 61 [t37, t43] J) fun t44 =>
 gj t35 true (fun J => A0 PR (binOp .geq 3 t44 (.int .i64 0)) J) fun t45 =>
 A0 PR (do pure (if ← asBool t35 then t45 else (.bool false))) fun t46 =>
 B2 PR X 63 [t2] fun t49 =>
 B2 PR X 62 [t1, t49] fun t50 =>
 jn (n := 2) (fun t16 t12 =>
 jn (n := 1) (fun t12_1 =>
 A0 PR (binOp .add 3 t4 t5) fun t78 =>
 B2 PR X 65 [t0, t2, t16, t78] fun t79 =>
 A0 PR (Instr.extract t79 0) fun t80 =>
 A0 PR (Instr.extract t79 1) fun t81 =>
 jn (n := 1) (fun t12_2 =>
 A0 PR (Op.unary .not t46) fun t90 =>
 A0 PR (Instr.build 44 #[(1, t16), (2, t90)]) fun t91 =>
 B6 PR X (Instr.storeAt 44 t13 t91) <|
 A6 PR (D0 [.v t80, .c 44 t13]) R) fun J1 =>
 A0 PR (binOp .neq 42 t81 (.int .i64 0)) fun t83 =>
 B3 t83 (
 A0 PR (Instr.build 44 #[(0, t81)]) fun t86 =>
 B6 PR X (Instr.storeAt 44 t13 t86) <|
 A6 PR (D0 [.v t0, .c 44 t13]) R) (
 J1 t12_1)) fun J2 =>
 B3 t3 (
 B2 PR X 64 [t0, t2] fun t66 =>
 A0 PR (Instr.extract t66 0) fun t67 =>
 A0 PR (Instr.extract t66 1) fun t68 =>
 A0 PR (Instr.build 44 #[(1, t16)]) fun t71 =>
 B6 PR X (Instr.storeAt 44 t13 t71) <|
 A6 PR (D0 [.v t67, .c 44 t13]) R) (
 J2 t12)) fun J3 =>
 B3 t46 (
 A0 PR (Instr.indexAt 79 t0 t23) fun t54 =>
 A0 PR (Instr.fieldAt 119 t54 2) fun t55 =>
 A6 PR (Instr.loadAt 3 t55) fun t56 =>
 J3 t56 (.slice none 0 0)) (
 A0 PR (A7 .len #[50] 0 [t1]) fun t58 =>
 A0 PR (binOp .eql 3 t58 (.int .i64 0)) fun t59 =>
 B3 t59 (
 A0 PR (Instr.build 44 #[(0, (.int .i64 11))]) fun t61 =>
 B6 PR X (Instr.storeAt 44 t13 t61) <|
 A6 PR (D0 [.v t0, .c 44 t13]) R) (
 J3 t50 (.slice none 0 0)))
theorem x7 : B0 PR 46 := A8 Tryz.func46 (by kernel_rfl) rfl
theorem A4f {X : Nat → Prop} {t0 t1 t2 t3 t4 t5 : Value} {R : Value → WP} {w : World} (h : A0G X t0 t1 t2 t3 t4 t5 R w) : Fn PR X 46 #[t0, t1, t2, t3, t4, t5] w R := C7 (args := [t0, t1, t2, t3, t4, t5]) mixed Tryz.func46 (by kernel_rfl) h
def q5 (X : Nat → Prop) (t0 t1 t2 : Value) (R : Value → WP) : WP :=
 B1 PR X (Instr.box 68 t0) fun t3 =>
 B1 PR X (Instr.alloc 68 true (.tuple #[])) fun t6 =>
 jn (n := 2) (fun t7 t8 =>
 A0 PR (Instr.fieldAt 68 t3 2) fun t32 =>
 B6 PR X (Instr.storeAt 66 t32 t7) <|
 A6 PR (Instr.loadAt 68 t3) fun t33 =>
 B6 PR X (Instr.storeAt 68 t6 t33) <|
 A6 PR (D0 [.c 68 t6]) R) fun J1 =>
 lp (n := 2) (fun L2 t7_1 t8_1 =>
 jn (n := 0) (
 jn (n := 1) (fun t7_2 =>
 A0 PR (binOp .add 3 t8_1 (.int .i64 1)) fun t15 =>
 L2 t7_2 t15) fun J3 =>
 A0 PR (binOp .eql 3 t8_1 t1) fun t18 =>
 B3 t18 (
 B1 PR X (Instr.buildSlice 66 1 #[(0, t2)]) fun t21 =>
 B1 PR X (A7 .append #[66, 66] 66 [t7_1, t21]) fun t22 =>
 J3 t22) (
 A0 PR (Instr.fieldAt 68 t3 2) fun t24 =>
 A6 PR (Instr.loadAt 66 t24) fun t25 =>
 A0 PR (Instr.indexAt 66 t25 t8_1) fun t27 =>
 A6 PR (Instr.loadAt 79 t27) fun t28 =>
 B1 PR X (Instr.buildSlice 66 1 #[(0, t28)]) fun t29 =>
 B1 PR X (A7 .append #[66, 66] 66 [t7_1, t29]) fun t30 =>
 J3 t30)) fun J4 =>
 A0 PR (Instr.fieldAt 68 t3 2) fun t10 =>
 A6 PR (Instr.loadAt 66 t10) fun t11 =>
 A0 PR (A7 .len #[66] 0 [t11]) fun t12 =>
 A0 PR (binOp .lss 3 t8_1 t12) fun t13 =>
 B3 t13 (
 J4) (
 J1 t7_1 t8_1)) (.slice none 0 0) (.int .i64 0)
theorem m4 : B0 PR 47 := A8 Tryz.func47 (by kernel_rfl) rfl
theorem A3n {X : Nat → Prop} {t0 t1 t2 : Value} {R : Value → WP} {w : World} (h : q5 X t0 t1 t2 R w) : Fn PR X 47 #[t0, t1, t2] w R := C7 (args := [t0, t1, t2]) mixed Tryz.func47 (by kernel_rfl) h
def A0p (X : Nat → Prop) (t0 t1 : Value) (R : Value → WP) : WP :=
 jn (n := 1) (fun t4 =>
 B2 PR X 63 [t0] fun t8 =>
 A0 PR (binOp .quo 122 t8 (.int .u64 4294967296)) fun t9 =>
 A0 PR (convert 3 122 t1) fun t11 =>
 A0 PR (binOp .rem 122 t9 t11) fun t12 =>
 A0 PR (convert 122 3 t12) fun t13 =>
 R t13) fun J1 =>
 A0 PR (binOp .lss 3 t1 (.int .i64 1)) fun t6 =>
 B3 t6 (
 R (.int .i64 0)) (
 J1 (.int .i64 0))
theorem A42 : B0 PR 58 := A8 Tryz.func58 (by kernel_rfl) rfl
theorem A5d {X : Nat → Prop} {t0 t1 : Value} {R : Value → WP} {w : World} (h : A0p X t0 t1 R w) : Fn PR X 58 #[t0, t1] w R := C7 (args := [t0, t1]) mixed Tryz.func58 (by kernel_rfl) h
end Go.Proofs.YtlplkjgcfjdinaaGreat
namespace Go.Proofs.YtlplkjgcfjdinaaGreat
open Go
def upW (j : Nat) (x : EnV) (p : Nat × EnV) : Nat × EnV := if p.1 = j then (j, x) else p
theorem C3P (key : ByteArray) : ∀ L, -1 ≤ H9 key L := by
 intro L
 induction L with
 | nil => simp [H9]
 | cons p L ih => (simp only [H9]; repeat' split) <;> first | omega | exact ih
theorem C4n (l : List EnV) (key : ByteArray) : -1 ≤ D3 l key := C3P _ _
theorem C0J {key : ByteArray} {j : Nat} {x : EnV} (h1 : x.st = 1) (hk : x.key = key) : ∀ L, H9 key L = j → H9 key (L.map (upW j x)) = j := by
 intro L
 induction L with
 | nil => intro h; simp [H9] at h <;> omega
 | cons p L ih =>
  intro h
  rw [List.map_cons]
  by_cases c : p.1 = j
  ·simp [H9, upW, c, h1, hk]
  ·have hu : upW j x p = p := if_neg c
   simp only [H9] at h ⊢
   rw [hu]
   split at h
   ·omega
   ·split at h
    ·omega
    ·rename_i c0 c1
     rw [if_neg c0, if_neg c1]; exact ih h
theorem B98 {key : ByteArray} {j : Nat} {x : EnV} (h1 : x.st = 1) (hk : x.key = key) : ∀ L, H9 key L < 0 → P0 L = j → H9 key (L.map (upW j x)) = j := by
 intro L
 induction L with
 | nil => intro _ h; simp [P0] at h <;> omega
 | cons p L ih =>
  intro hf h
  rw [List.map_cons]
  by_cases c : p.1 = j
  ·simp [H9, upW, c, h1, hk]
  ·have hu : upW j x p = p := if_neg c
   simp only [H9, P0] at h hf ⊢
   rw [hu]
   by_cases c1 : p.2.st = 1
   ·rw [if_pos c1] at h
    rw [if_neg (by omega)] at hf ⊢
    by_cases c2 : p.2.st = 1 ∧ p.2.key = key
    ·rw [if_pos c2] at hf; omega
    ·rw [if_neg c2] at hf ⊢; exact ih hf h
   ·rw [if_neg c1] at h; omega
theorem B2Y (l : List EnV) (key : ByteArray) (j : Nat) (x : EnV) (hj : j < l.length) : N1 (l.set j x) key = (N1 l key).map (upW j x) := by
 unfold N1
 rw [List.length_set, List.map_map]
 refine List.map_congr_left fun i hi => ?_
 have hi' : i < l.length := List.mem_range.1 hi
 have hm : (G6 key l.length + i) % l.length < l.length := Nat.mod_lt _ (by omega)
 simp only [Function.comp_apply, upW]
 generalize (G6 key l.length + i) % l.length = q at *
 by_cases c : q = j
 ·subst c; simp [List.getD_eq_getElem?_getD, hm]
 ·rw [if_neg c]; simp [List.getD_eq_getElem?_getD, List.getElem?_set_ne (Ne.symm c)]
theorem C1M {key : ByteArray} {j : Nat} : ∀ L, H9 key L = j → ∃ x, (j, x) ∈ L ∧ x.st = 1 ∧ x.key = key := by
 intro L
 induction L with
 | nil => intro h; simp [H9] at h <;> omega
 | cons p L ih =>
  intro h
  simp only [H9] at h
  split at h
  ·omega
  ·split at h
   ·rename_i c
    have : p.1 = j := by omega
    exact ⟨p.2, by rw [← this]; simp, c⟩
   ·obtain ⟨x, h1, h2⟩ := ih h
    exact ⟨x, List.mem_cons_of_mem _ h1, h2⟩
theorem B2Z {l : List EnV} {key : ByteArray} {p : Nat × EnV} (h : p ∈ N1 l key) : l[p.1]? = some p.2 := by
 unfold N1 at h
 obtain ⟨i, hi, rfl⟩ := List.mem_map.1 h
 have hi' : i < l.length := List.mem_range.1 hi
 exact getD_some p5 (Nat.mod_lt _ (by omega))
theorem B7Q {l : List EnV} {key : ByteArray} {j : Nat} (h : D3 l key = j) : ∃ x, l[j]? = some x ∧ x.st = 1 ∧ x.key = key := by
 obtain ⟨x, h1, h2⟩ := C1M _ h
 exact ⟨x, B2Z h1, h2⟩
theorem A92 {l u : List EnV} {x : EnV} (h : F6 l x = some u) (h1 : x.st = 1) : ∃ j, j < l.length ∧ u = l.set j x ∧ D3 u x.key = (j : Nat) ∧ (D3 l x.key = (j : Nat) ∨ D3 l x.key < 0 ∧ P0 (N1 l x.key) = (j : Nat)) := by
 unfold F6 at h
 simp only at h
 by_cases c : D3 l x.key < 0
 ·rw [if_pos c] at h
  by_cases c2 : S9 l x.key < 0
  ·rw [if_pos c2] at h; cases h
  ·rw [if_neg c2] at h
   injection h with h
   have hr : S9 l x.key = P0 (N1 l x.key) := if_neg (by omega)
   have hlt := B2T (l := l) (key := x.key) (by omega)
   refine ⟨_, hlt, h.symm, ?_, Or.inr ⟨c, by omega⟩⟩
   subst h
   unfold D3
   rw [B2Y _ _ _ _ hlt]
   exact B98 h1 rfl _ c (by omega)
 ·rw [if_neg c, if_neg c] at h
  injection h with h
  have hlt := A0L (l := l) (key := x.key) (by omega)
  refine ⟨_, hlt, h.symm, ?_, Or.inl (by omega)⟩
  subst h
  unfold D3 at *
  rw [B2Y _ _ _ _ hlt]
  exact C0J h1 rfl _ (by omega)
theorem B2l {l u : List EnV} {x : EnV} (h : F6 l x = some u) : ∃ j, j < l.length ∧ u = l.set j x := by
 unfold F6 at h
 simp only at h
 by_cases c : D3 l x.key < 0
 ·rw [if_pos c] at h
  by_cases c2 : S9 l x.key < 0
  ·rw [if_pos c2] at h; cases h
  ·rw [if_neg c2] at h
   injection h with h
   exact ⟨_, B2T (by omega), h.symm⟩
 ·rw [if_neg c, if_neg c] at h
  injection h with h
  exact ⟨_, A0L (by omega), h.symm⟩
theorem C1f {l : List EnV} {x : EnV} (h : F6 l x = none) : D3 l x.key < 0 := by
 unfold F6 at h
 simp only at h
 by_cases c : D3 l x.key < 0
 ·exact c
 ·rw [if_neg c, if_neg c] at h; cases h
theorem C1u {l : List EnV} {i : Nat} {p : Nat × EnV} : p ∈ f7 i l ↔ i ≤ p.1 ∧ l[p.1 - i]? = some p.2 ∧ p.2.st = 1 := by
 induction l generalizing i with
 | nil => simp [f7]
 | cons x l ih =>
  have hs : i + 1 ≤ p.1 → (x :: l)[p.1 - i]? = l[p.1 - (i + 1)]? := fun h => by
   rw [show p.1 - i = (p.1 - (i + 1)) + 1 by omega, List.getElem?_cons_succ]
  have h0 : ∀ h : i ≤ p.1, ¬ i + 1 ≤ p.1 → p.1 = i := fun _ _ => by omega
  unfold f7
  split
  ·rename_i c
   rw [List.mem_cons, ih]
   constructor
   ·rintro (rfl | ⟨a, b, d⟩)
    ·simp [c]
    ·exact ⟨by omega, by rw [hs a]; exact b, d⟩
   ·rintro ⟨a, b, d⟩
    by_cases e : i + 1 ≤ p.1
    ·exact Or.inr ⟨e, by rw [← hs e]; exact b, d⟩
    ·have := h0 a e
     left
     rw [this] at b
     simp at b
     obtain ⟨q, y⟩ := p
     simp_all
  ·rename_i c
   rw [ih]
   constructor
   ·rintro ⟨a, b, d⟩
    exact ⟨by omega, by rw [hs a]; exact b, d⟩
   ·rintro ⟨a, b, d⟩
    by_cases e : i + 1 ≤ p.1
    ·exact ⟨e, by rw [← hs e]; exact b, d⟩
    ·have := h0 a e
     rw [this] at b
     simp at b
     rw [b] at c
     exact absurd d c
theorem A3s {l : List EnV} {p : Nat × EnV} : p ∈ N9 l ↔ l[p.1]? = some p.2 ∧ p.2.st = 1 := by
 unfold N9; rw [C1u]; simp
theorem A4S {l : List EnV} : V2 l = true ↔ ∀ (i : Nat) (x : EnV), l[i]? = some x → x.st = 1 → D3 l x.key = (i : Nat) := by
 unfold V2
 rw [List.all_eq_true]
 constructor
 ·intro h i x hx h1
  simpa using h (i, x) (A3s.2 ⟨hx, h1⟩)
 ·intro h p hp
  obtain ⟨h1, h2⟩ := A3s.1 hp
  simpa using h p.1 p.2 h1 h2
def V0 (l : List EnV) (key : ByteArray) : Prop := ∀ (i : Nat) (x : EnV), l[i]? = some x → x.st = 1 → x.key ≠ key
theorem V0.find {l : List EnV} {key : ByteArray} (h : V0 l key) : D3 l key < 0 := by
 have hg := C4n l key
 by_cases c : D3 l key < 0
 ·exact c
 ·obtain ⟨x, h1, h2, h3⟩ := B7Q (l := l) (key := key) (j := (D3 l key).toNat) (by omega)
  exact absurd h3 (h _ _ h1 h2)
theorem getElem?_set_some {α : Type} {l : List α} {i j : Nat} {x y : α} (h : (l.set j x)[i]? = some y) : (i = j ∧ y = x) ∨ (i ≠ j ∧ l[i]? = some y) := by
 by_cases c : i = j
 ·subst c
  rw [List.getElem?_set_self'] at h
  cases hl : l[i]? with
  | none => rw [hl] at h; cases h
  | some z => rw [hl] at h; left; exact ⟨rfl, by simpa using h.symm⟩
 ·rw [List.getElem?_set_ne (Ne.symm c)] at h
  exact Or.inr ⟨c, h⟩
theorem V0.set {l : List EnV} {key : ByteArray} {j : Nat} {x : EnV} (h : V0 l key) (hx : x.st = 1 → x.key ≠ key) : V0 (l.set j x) key := fun i y hy h1 => by
 rcases getElem?_set_some hy with ⟨_, rfl⟩ | ⟨_, h2⟩
 ·exact hx h1
 ·exact h i y h2 h1
theorem V0.put {l : List EnV} {key : ByteArray} {x : EnV} (h : V0 l key) (hx : x.st = 1 → x.key ≠ key) : V0 (U8 l x) key := by
 unfold U8
 cases hp : F6 l x with
 | none => exact h
 | some u => obtain ⟨j, _, rfl⟩ := B2l hp; exact h.set hx
theorem V0.newE (n : Nat) (key : ByteArray) : V0 (newE n) key := fun i x hx h1 => by
 unfold Go.Proofs.YtlplkjgcfjdinaaGreat.newE at hx
 obtain ⟨_, h2⟩ := List.getElem?_eq_some_iff.1 hx
 rw [List.getElem_replicate] at h2
 rw [← h2] at h1; simp [p5] at h1
theorem V0.tidy {l : List EnV} {key : ByteArray} (h : V0 l key) : V0 (Y1 l) key := by
 unfold Y1
 have : ∀ (L : List (Nat × EnV)) (a : List EnV), (∀ p ∈ L, p.2.st = 1 → p.2.key ≠ key) → V0 a key → V0 (L.foldl (fun acc p => U8 acc p.2) a) key := by
  intro L
  induction L with
  | nil => intro a _ h; exact h
  | cons p L ih => intro a hL ha; rw [List.foldl_cons]; exact ih _ (fun q hq => hL q (List.mem_cons_of_mem _ hq)) (ha.put (hL p (List.mem_cons_self ..)))
 exact this _ _ (fun p hp h1 => h p.1 p.2 (A3s.1 hp).1 h1) (.newE _ _)
theorem V0.settle {l : List EnV} {key : ByteArray} (h : V0 l key) : V0 (H0 l) key := by
 unfold H0; split
 ·exact h.tidy
 ·exact h
end Go.Proofs.YtlplkjgcfjdinaaGreat
namespace Go.Proofs.YtlplkjgcfjdinaaGreat
open Go
theorem C0M {key : ByteArray} {i j : Nat} {x : EnV} (h0 : x.st ≠ 0) (h1 : ¬ (x.st = 1 ∧ x.key = key)) (hij : i ≠ j) : ∀ L, H9 key L = i → H9 key (L.map (upW j x)) = i := by
 intro L
 induction L with
 | nil => intro h; simp [H9] at h <;> omega
 | cons p L ih =>
  intro h
  rw [List.map_cons]
  simp only [H9] at h
  split at h
  ·omega
  ·rename_i c0
   split at h
   ·rename_i c1
    have : p.1 ≠ j := by omega
    rw [upW, if_neg this]
    simp only [H9]
    rw [if_neg c0, if_pos c1]; exact h
   ·rename_i c1
    by_cases c : p.1 = j
    ·rw [upW, if_pos c]
     simp only [H9]
     rw [if_neg h0, if_neg h1]; exact ih h
    ·rw [upW, if_neg c]
     simp only [H9]
     rw [if_neg c0, if_neg c1]; exact ih h
theorem B3K {l : List EnV} {key : ByteArray} {i j : Nat} {x : EnV} (hj : j < l.length) (h0 : x.st ≠ 0) (h1 : ¬ (x.st = 1 ∧ x.key = key)) (hij : i ≠ j) (h : D3 l key = i) : D3 (l.set j x) key = i := by
 unfold D3 at *
 rw [B2Y _ _ _ _ hj]
 exact C0M h0 h1 hij _ h
theorem C03 {l : List EnV} {j : Nat} (hj : j < l.length) (h : V2 l = true) : V2 (l.set j P3) = true := by
 rw [A4S] at h ⊢
 intro i y hy h1
 rcases getElem?_set_some hy with ⟨_, rfl⟩ | ⟨h2, h3⟩
 ·simp [P3] at h1
 ·exact B3K hj (by simp [P3]) (by simp [P3]) h2 (h i y h3 h1)
theorem B5G {l u : List EnV} {x : EnV} (h1 : x.st = 1) (hp : F6 l x = some u) (h : V2 l = true) : V2 u = true := by
 rw [A4S] at h ⊢
 obtain ⟨j, hj, rfl, hf, hc⟩ := A92 hp h1
 intro i y hy hy1
 rcases getElem?_set_some hy with ⟨rfl, rfl⟩ | ⟨h2, h3⟩
 ·exact hf
 ·have hi := h i y h3 hy1
  have hk : x.key ≠ y.key := fun e => by rw [← e] at hi; omega
  exact B3K hj (by omega) (fun e => hk e.2) h2 hi
theorem B5S (n : Nat) : V2 (newE n) = true := by
 rw [A4S]
 intro i x hx h1
 unfold newE at hx
 obtain ⟨_, h2⟩ := List.getElem?_eq_some_iff.1 hx
 rw [List.getElem_replicate] at h2
 rw [← h2] at h1; simp [p5] at h1
theorem C0l {a : List EnV} {x : EnV} (h1 : x.st = 1) (h : V2 a = true) : V2 (U8 a x) = true := by
 unfold U8
 cases hp : F6 a x with
 | none => exact h
 | some u => exact B5G h1 hp h
theorem B95 (l : List EnV) : V2 (Y1 l) = true := by
 unfold Y1
 have : ∀ (L : List (Nat × EnV)) (a : List EnV), (∀ p ∈ L, p.2.st = 1) → V2 a = true → V2 (L.foldl (fun acc p => U8 acc p.2) a) = true := by
  intro L
  induction L with
  | nil => intro a _ h; exact h
  | cons p L ih => intro a hL ha; rw [List.foldl_cons]; exact ih _ (fun q hq => hL q (List.mem_cons_of_mem _ hq)) (C0l (hL p (List.mem_cons_self ..)) ha)
 exact this _ _ (fun p hp => (A3s.1 hp).2) (B5S _)
theorem B6g {l : List EnV} (h : V2 l = true) : V2 (H0 l) = true := by
 unfold H0; split
 ·exact B95 _
 ·exact h
def A3w (x : EnV) : Bool := decide (x.st = 1)
def D1 (l : List EnV) : List EnV := l.filter A3w
def A9F (x : EnV) : List EnV := if x.st = 1 then [x] else []
theorem A3U {l : List EnV} {j : Nat} {y x : EnV} (hy : l[j]? = some y) : (A9F y ++ D1 (l.set j x)).Perm (A9F x ++ D1 l) := by
 obtain ⟨hj, e⟩ := List.getElem?_eq_some_iff.1 hy
 have h1 : l = l.take j ++ y :: l.drop (j + 1) := by rw [← e]; simp
 have h2 : l.set j x = l.take j ++ x :: l.drop (j + 1) := List.set_eq_take_append_cons_drop .. |>.trans (by rw [if_pos hj])
 have f1 : ∀ z : EnV, D1 (l.take j ++ z :: l.drop (j + 1)) = D1 (l.take j) ++ (A9F z ++ D1 (l.drop (j + 1))) := fun z => by
  unfold D1; rw [List.filter_append, List.filter_cons]
  simp only [A9F, A3w, decide_eq_true_eq]
  split <;> simp
 have h3 : D1 l = D1 (l.take j) ++ (A9F y ++ D1 (l.drop (j + 1))) := by rw [← f1, ← h1]
 rw [h2, f1, h3]
 generalize D1 (l.take j) = A
 generalize D1 (l.drop (j + 1)) = B
 have p1 : ∀ (u v : List EnV), (u ++ (A ++ (v ++ B))).Perm (A ++ (u ++ (v ++ B))) := fun u v => by
  rw [← List.append_assoc, ← List.append_assoc A u]
  exact List.perm_append_comm.append_right _
 refine (p1 _ _).trans (((p1 _ _).trans ?_).symm)
 refine List.Perm.append_left _ ?_
 rw [← List.append_assoc, ← List.append_assoc]
 exact List.perm_append_comm.append_right _
theorem B8L (l : List EnV) (i : Nat) : (f7 i l).map (·.2) = D1 l := by
 induction l generalizing i with
 | nil => rfl
 | cons x l ih =>
  unfold f7 D1
  rw [List.filter_cons]
  simp only [A3w, decide_eq_true_eq]
  split
  ·rw [List.map_cons, ih]; rfl
  ·rw [ih]; rfl
theorem B4J {l : List EnV} (h : V2 l = true) : ((D1 l).map (·.key)).Nodup := by
 rw [A4S] at h
 have h2 : ∀ (i : Nat) (m : List EnV), (∀ (k : Nat) (x : EnV), m[k]? = some x → x.st = 1 → D3 l x.key = (i + k : Nat)) → ((D1 m).map (·.key)).Nodup := by
  intro i m
  induction m generalizing i with
  | nil => intro _; simp [D1]
  | cons x m ih =>
   intro hm
   have ih' := ih (i + 1) fun k y hy h1 => by
    have := hm (k + 1) y (by simpa using hy) h1
    rw [this]; congr 1; omega
   unfold D1 at *
   rw [List.filter_cons]
   simp only [A3w, decide_eq_true_eq] at *
   split
   ·rename_i c
    rw [List.map_cons, List.nodup_cons]
    refine ⟨fun hx => ?_, ih'⟩
    obtain ⟨y, hy, e⟩ := List.mem_map.1 hx
    obtain ⟨hy1, hy2⟩ := List.mem_filter.1 hy
    obtain ⟨k, hk, e2⟩ := List.getElem_of_mem hy1
    have a := hm 0 x (by simp) c
    have b := hm (k + 1) y (by simp [hk, e2]) (by simpa [A3w] using hy2)
    rw [e, a] at b
    omega
   ·exact ih'
 exact h2 0 l fun k x hx h1 => by rw [h k x hx h1]; simp
theorem B5w {l : List EnV} {key : ByteArray} : V0 l key ↔ ∀ x ∈ D1 l, x.key ≠ key := by
 unfold V0 D1 A3w
 constructor
 ·intro h x hx
  obtain ⟨h1, h2⟩ := List.mem_filter.1 hx
  obtain ⟨i, hi, e⟩ := List.getElem_of_mem h1
  exact h i x (by simp [hi, e]) (by simpa using h2)
 ·intro h i x hx h1
  exact h x (List.mem_filter.2 ⟨List.mem_of_getElem? hx, by simpa using h1⟩)
theorem C2l : ∀ L, P0 L < 0 → ∀ p ∈ L, p.2.st = 1 := by
 intro L
 induction L with
 | nil => intro _ p hp; cases hp
 | cons q L ih =>
  intro h p hp
  simp only [P0] at h
  split at h
  ·rename_i c
   rcases List.mem_cons.1 hp with rfl | hp
   ·exact c
   ·exact ih h p hp
  ·omega
theorem C5n {l : List EnV} (key : ByteArray) {q : Nat} {y : EnV} (hy : l[q]? = some y) : (q, y) ∈ N1 l key := by
 obtain ⟨hq, e⟩ := List.getElem?_eq_some_iff.1 hy
 unfold N1
 have hl : 0 < l.length := by omega
 have hm : G6 key l.length < l.length := Nat.mod_lt _ hl
 refine List.mem_map.2 ⟨(q + l.length - G6 key l.length) % l.length, List.mem_range.2 (Nat.mod_lt _ hl), ?_⟩
 have : (G6 key l.length + (q + l.length - G6 key l.length) % l.length) % l.length = q := by
  rw [Nat.add_mod, Nat.mod_mod, ← Nat.add_mod, show G6 key l.length + (q + l.length - G6 key l.length) = q + l.length by omega, Nat.add_mod_right, Nat.mod_eq_of_lt hq]
 rw [this]
 simp [List.getD_eq_getElem?_getD, hq, e]
theorem C4l {a : List EnV} {x : EnV} (h1 : x.st = 1) (hn : V0 a x.key) (hl : (D1 a).length < a.length) : ∃ u, F6 a x = some u ∧ (D1 u).Perm (x :: D1 a) := by
 cases hp : F6 a x with
 | none =>
  exfalso
  unfold F6 at hp
  simp only at hp
  rw [if_pos hn.find] at hp
  have hr : S9 a x.key = P0 (N1 a x.key) := if_neg (by have := hn.find; omega)
  by_cases c : S9 a x.key < 0
  ·have h2 := C2l _ (hr ▸ c)
   have h3 : D1 a = a := List.filter_eq_self.2 fun y hy => by
    obtain ⟨q, hq, e⟩ := List.getElem_of_mem hy
    have := h2 (q, y) (C5n _ (by simp [hq, e]))
    simpa [A3w] using this
   rw [h3] at hl; omega
  ·rw [if_neg c] at hp; cases hp
 | some u =>
  obtain ⟨j, hj, rfl, hf, hc⟩ := A92 hp h1
  refine ⟨_, rfl, ?_⟩
  have hj1 : a[j]? = some a[j] := List.getElem?_eq_getElem hj
  have hs := A3U (x := x) hj1
  have hnl : a[j].st ≠ 1 := fun c => by
   rcases hc with hc | ⟨_, hc⟩
   ·have := hn.find; omega
   ·have hm : ∀ L, P0 L = (j : Nat) → ∃ y, (j, y) ∈ L ∧ y.st ≠ 1 := by
     intro L
     induction L with
     | nil => intro h; simp [P0] at h <;> omega
     | cons p L ih =>
      intro h
      simp only [P0] at h
      split at h
      ·obtain ⟨y, h1, h2⟩ := ih h; exact ⟨y, List.mem_cons_of_mem _ h1, h2⟩
      ·rename_i c2
       have : p.1 = j := by omega
       exact ⟨p.2, by rw [← this]; simp, c2⟩
    obtain ⟨y, h2, h3⟩ := hm _ hc
    have h4 := B2Z h2
    rw [hj1] at h4
    injection h4 with h4
    exact h3 (by rw [h4] at c; exact c)
  unfold A9F at hs
  rw [if_neg hnl, if_pos h1] at hs
  simpa using hs
theorem A3T (n : Nat) : D1 (newE n) = [] := by
 unfold D1 newE
 rw [List.filter_eq_nil_iff]
 intro x hx
 rw [(List.mem_replicate.1 hx).2]; simp [A3w, p5]
theorem B8C {l : List EnV} (h : V2 l = true) (hl : l.length ≤ 64) : (D1 (Y1 l)).Perm (D1 l) := by
 have hmain : ∀ (L : List (Nat × EnV)) (a : List EnV), (∀ p ∈ L, p.2.st = 1) → ((D1 a ++ L.map (·.2)).map (·.key)).Nodup → (D1 a).length + L.length ≤ a.length →
   (D1 (L.foldl (fun acc p => U8 acc p.2) a)).Perm (D1 a ++ L.map (·.2)) := by
  intro L
  induction L with
  | nil => intro a _ _ _; simp
  | cons p L ih =>
   intro a hL hn hlen
   rw [List.foldl_cons]
   simp only [List.length_cons] at hlen
   have hk : V0 a p.2.key := B5w.2 fun x hx e => by
    rw [List.map_append, List.nodup_append] at hn
    exact hn.2.2 _ (List.mem_map_of_mem hx) p.2.key (by simp) e
   obtain ⟨u, hu, hp⟩ := C4l (hL p (List.mem_cons_self ..)) hk (by omega)
   have e : U8 a p.2 = u := by simp [U8, hu]
   rw [e]
   have hlu := A89 hu
   have hpl := hp.length_eq
   have hperm : (D1 u ++ L.map (·.2)).Perm (D1 a ++ (p :: L).map (·.2)) := by
    refine (hp.append_right _).trans ?_
    rw [List.map_cons]
    exact (List.perm_middle (a := p.2) (l₁ := D1 a) (l₂ := L.map (·.2))).symm
   refine (ih u (fun q hq => hL q (List.mem_cons_of_mem _ hq)) ?_ ?_).trans hperm
   ·exact ((hperm.map _).nodup_iff).2 hn
   ·rw [hpl, List.length_cons, hlu]; omega
 unfold Y1
 have hm : (N9 l).map (·.2) = D1 l := B8L l 0
 have h1 := hmain (N9 l) (newE l.length) (fun p hp => (A3s.1 hp).2) (by rw [A3T, hm]; exact B4J h)
  (by
   rw [A3T, A5A]
   have : (N9 l).length = (D1 l).length := by rw [← hm]; simp
   have h2 : (D1 l).length ≤ l.length := List.length_filter_le ..
   simp only [List.length_nil]; omega)
 rw [A3T, hm] at h1
 exact h1
theorem B4y {l : List EnV} (h : V2 l = true) (hl : l.length ≤ 64) : (D1 (H0 l)).Perm (D1 l) := by
 unfold H0; split
 ·exact B8C h hl
 ·exact .refl _
theorem C0v {l : List EnV} (hl : l.length ≤ 64) : (H0 l).length = l.length := by
 unfold H0; split
 ·unfold Y1; rw [B16, A5A]; omega
 ·rfl
end Go.Proofs.YtlplkjgcfjdinaaGreat
namespace Go.Proofs.YtlplkjgcfjdinaaGreat
open Go
theorem C6J {l : List ShV} {i n n' : Nat} {t : Value × List EnV} (hx : l[i]? = some (t, n)) : A0H (l.flatMap H3) (i * 2 + 1) [.int .i64 (n' : Int)] = (l.set i (t, n')).flatMap H3 := by
 obtain ⟨hi, _⟩ := List.getElem?_eq_some_iff.1 hx
 have h1 := A3d (f := H3) (k := 2) (fun _ => rfl) l i (t, n') hi
 rw [← h1]
 have h2 := Y4 (f := H3) (k := 2) (fun _ => rfl) l i 0 (by omega)
 rw [hx] at h2
 have h3 : (l.flatMap H3)[i * 2]? = some t.1 := h2
 obtain ⟨h4, h5⟩ := List.getElem?_eq_some_iff.1 h3
 simp only [A0H, H3, List.length_cons, List.length_nil, Nat.zero_add]
 rw [List.take_add_one, h3]
 simp
structure MoOk (m : MoH) : Prop where
 few : m.ts.length ≤ 1000
 len : ∀ t ∈ m.ts, t.1.2.length ≤ 1000000
 keys : ∀ t ∈ m.ts, H7 t.1.2
def A11 (s : MoS) (i now : Int) : MoS × AnsV :=
 if i < 0 ∨ (s.tabs.length : Int) ≤ i then (s, ⟨1, 0, false, 0⟩)
 else let t := s.tabs.getD i.toNat ([], 0); let r := D9 t.1 t.2 4 now; ({ s with tabs := s.tabs.set i.toNat (r.1, r.2.1) }, ⟨0, 0, false, (r.2.2 : Nat)⟩)
theorem C2S (w : World) (m : MoH) (o : OpV) (v : Value) (now : Int) (hv : v.cells = #[v] ∧ plain v = true) (hm : MoOk m) (hw : LW false (C3 (D2 m)) w (D2 m) w) :
  Fn PR B7 54 #[.pointer (some ⟨m.b, 0, none⟩), o.val v, .int .i64 now] w (DoR w m (A11 m.st o.shard now)) := by
 refine A8L (TW.goH (κ := false) (S := C3 (D2 m)) ?_ hw)
 unfold A13
 simp only [OpV.val]
 unfold DoR
 have hlen := hm.few
 have hstl : m.st.tabs.length = m.ts.length := by simp [MoH.st]
 generalize hS : C3 (D2 m) = S at *
 simp only [D2]
 refine Y3 (e := 84) (k := 2) (v := m.sv) (q := m.ts.length) (xs := m.ts.flatMap H3) (by (repeat constructor)) ?_
 intro sa sc hsv
 rw [hsv]
 have hpt : ∀ r' : MoS × AnsV, r' = (m.st, ⟨1, 0, false, 0⟩) → True := fun _ _ => trivial
 by_cases c1 : o.shard < 0
 ·have e : A11 m.st o.shard now = (m.st, ⟨1, 0, false, 0⟩) := if_pos (Or.inl c1)
  rw [e]
  (have zz:=trivial;repeat((first|clear zz|with_reducible first|refine A3 ?_|refine A4 fun _=>?_|refine A5 fun _=>?_);try simp(disch:=first|omega|assumption|((repeat(first|exact A1|exact uH|apply A2|apply uT));first|done|fail)|(simp;first|done|omega|fail))[c1]))
  refine C0 m ⟨by simp [AnsV.val], rfl, rfl⟩ ?_
  simp only [D2, hsv]
  (repeat' constructor)
 by_cases c2 : (m.ts.length : Int) ≤ o.shard
 ·have e : A11 m.st o.shard now = (m.st, ⟨1, 0, false, 0⟩) := if_pos (Or.inr (by rw [hstl]; exact c2))
  rw [e]
  (have zz:=trivial;repeat((first|clear zz|with_reducible first|refine A3 ?_|refine A4 fun _=>?_|refine A5 fun _=>?_);try simp(disch:=first|omega|assumption|((repeat(first|exact A1|exact uH|apply A2|apply uT));first|done|fail)|(simp;first|done|omega|fail))[c1, c2]))
  refine C0 m ⟨by simp [AnsV.val], rfl, rfl⟩ ?_
  simp only [D2, hsv]
  (repeat' constructor)
 obtain ⟨i, hi⟩ : ∃ i : Nat, o.shard = i := ⟨o.shard.toNat, by omega⟩
 rw [hi] at c1 c2 ⊢
 have hlt : i < m.ts.length := by omega
 obtain ⟨⟨⟨tv, tl⟩, tn⟩, hx⟩ : ∃ x, m.ts[i]? = some x := ⟨_, List.getElem?_eq_getElem hlt⟩
 have hxm := List.mem_of_getElem? hx
 have hgd : m.st.tabs.getD i ([], 0) = (tl, tn) := by simp [MoH.st, List.getD_eq_getElem?_getD, hx]
 have e : A11 m.st i now = ({ m.st with tabs := m.st.tabs.set i ((D9 tl tn 4 now).1, (D9 tl tn 4 now).2.1) }, ⟨0, 0, false, ((D9 tl tn 4 now).2.2 : Nat)⟩) := by
  unfold A11
  rw [if_neg (by rw [hstl]; omega)]
  simp only [Int.toNat_natCast, hgd]
 rw [e]
 have h0 : (m.ts.flatMap H3)[i * 2]? = some tv := by
  have := Y4 (f := H3) (k := 2) (fun _ => rfl) m.ts i 0 (by omega); rw [hx] at this; exact this
 have h1 : (m.ts.flatMap H3)[i * 2 + 1]? = some (.int .i64 (tn : Int)) := by
  have := Y4 (f := H3) (k := 2) (fun _ => rfl) m.ts i 1 (by omega); rw [hx] at this; exact this
 refine A1n (e := 84) (k := 2) (v := .slice sa m.ts.length sc) (q := m.ts.length) (xs := m.ts.flatMap H3) (by (repeat constructor)) (by omega) ?_
 rintro g gc hg
 cases hg
 (have zz:=trivial;repeat((first|clear zz|with_reducible first|refine A3 ?_|refine A4 fun _=>?_|refine A5 fun _=>?_);try simp(disch:=first|omega|assumption|((repeat(first|exact A1|exact uH|apply A2|apply uT));first|done|fail)|(simp;first|done|omega|fail))[c1, c2, hlt, h0, h1]))
 refine F3 B4p (fun w' hw' => C6T w' tv tl tn 4 now (hm.keys _ hxm) (hm.len _ hxm) (A2b (t := (tv, tl)) hw' (ts := m.ts.map (·.1)) (by (repeat constructor)) (List.mem_map.2 ⟨_, hxm, rfl⟩))) ?_
 rintro r _ rfl
 refine A2f (e := 119) (k := 4) (v := r) (q := (D9 tl tn 4 now).1.length) (xs := (D9 tl tn 4 now).1.flatMap D5) (by (repeat constructor)) fun hr1 hr2 hr3 => ?_
 (have zz:=trivial;repeat((first|clear zz|with_reducible first|refine A3 ?_|refine A4 fun _=>?_|refine A5 fun _=>?_);try simp(disch:=first|omega|assumption|((repeat(first|exact A1|exact uH|apply A2|apply uT));first|done|fail)|(simp;first|done|omega|fail))[c1, c2, hlt]))
 have hr4 : r.cells.toList = [r] := by rw [hr1]
 refine d9 (by (repeat constructor)) (by simp [hr1]) (by rw [L5 (k := 2) fun _ => rfl]; omega) (by simp [hr3]) ?_
 rw [hr4, B3d (e' := (D9 tl tn 4 now).1) hx]
 have hx2 : (m.ts.set i ((r, (D9 tl tn 4 now).1), tn))[i]? = some ((r, (D9 tl tn 4 now).1), tn) := by simp [hlt]
 (have zz:=trivial;repeat((first|clear zz|with_reducible first|refine A3 ?_|refine A4 fun _=>?_|refine A5 fun _=>?_);try simp(disch:=first|omega|assumption|((repeat(first|exact A1|exact uH|apply A2|apply uT));first|done|fail)|(simp;first|done|omega|fail))[c1, c2, hlt]))
 refine d9 (by (repeat constructor)) (by simp) (by rw [L5 (k := 2) fun _ => rfl, List.length_set]; omega) (by simp) ?_
 simp only [C2K]
 rw [C6J hx2, List.set_set]
 (have zz:=trivial;repeat((first|clear zz|with_reducible first|refine A3 ?_|refine A4 fun _=>?_|refine A5 fun _=>?_);try simp(disch:=first|omega|assumption|((repeat(first|exact A1|exact uH|apply A2|apply uT));first|done|fail)|(simp;first|done|omega|fail))[]))
 refine B7y (r := r) (l := (D9 tl tn 4 now).1) (i := i) (by (repeat' constructor)) ?_
 refine C0 { m with sv := .slice (some ⟨g, 0, none⟩) m.ts.length sc, ts := m.ts.set i ((r, (D9 tl tn 4 now).1), (D9 tl tn 4 now).2.1) } ⟨by simp [AnsV.val], rfl, by simp [MoH.st, List.map_set]⟩ ?_
 simp only [D2, List.map_set, List.length_set]
 (repeat' constructor)
end Go.Proofs.YtlplkjgcfjdinaaGreat
namespace Go.Proofs.YtlplkjgcfjdinaaGreat
open Go
def y8 (ts : List (List EnV × Nat)) : Nat := (ts.map fun t => E9 t.1 1).sum
theorem C4a (ts : List (List EnV × Nat)) (h : ∀ t ∈ ts, t.1.length ≤ 1000000) : y8 ts ≤ ts.length * 1000000 := by
 induction ts with
 | nil => simp [y8]
 | cons t ts ih =>
  have h1 := ih fun x hx => h x (by simp [hx])
  have h2 := h t (by simp)
  have h3 : E9 t.1 1 ≤ t.1.length := List.countP_le_length
  have e : y8 (t :: ts) = E9 t.1 1 + y8 ts := by simp [y8]
  rw [e, List.length_cons]; omega
def B1B (s : MoS) : MoS × AnsV := (s, ⟨0, 0, false, (y8 s.tabs : Nat)⟩)
theorem C30 (w : World) (m : MoH) (o : OpV) (v : Value) (now : Int) (hv : v.cells = #[v] ∧ plain v = true) (hm : MoOk m) (hw : LW false (C3 (D2 m)) w (D2 m) w) :
  Fn PR B7 55 #[.pointer (some ⟨m.b, 0, none⟩), o.val v, .int .i64 now] w (DoR w m (B1B m.st)) := by
 refine A84 (TW.goH (κ := false) (S := C3 (D2 m)) ?_ hw)
 unfold A2W
 simp only [OpV.val]
 unfold DoR
 have hlen := hm.few
 generalize hS : C3 (D2 m) = S at *
 simp only [D2]
 refine Y3 (e := 84) (k := 2) (v := m.sv) (q := m.ts.length) (xs := m.ts.flatMap H3) (by (repeat constructor)) ?_
 intro sa sc hsv
 rw [hsv]
 (have zz:=trivial;repeat((first|clear zz|with_reducible first|refine A3 ?_|refine A4 fun _=>?_|refine A5 fun _=>?_);try simp(disch:=first|omega|assumption|((repeat(first|exact A1|exact uH|apply A2|apply uT));first|done|fail)|(simp;first|done|omega|fail))[]))
 rename_i b4 b6 b7
 obtain ⟨tb, htb⟩ : ∃ tb, tb = m.ts.map fun t => (t.1.2, t.2) := ⟨_, rfl⟩
 have htl : tb.length = m.ts.length := by rw [htb]; simp
 refine C7U m.ts.length (fun i => [.pt b7 (.cells #[.int .i64 0, .int .i64 0, .bool false, .int .i64 (y8 (tb.take i) : Nat)] 44), .pt b6 (.cells #[.int .i64 0, .int .i64 0, .bool false, .int .i64 0] 44),
  .pt b4 (.cells #[.int .i64 o.kind, .string o.packet, v, .int .i64 o.shard] 52), .pt m.b (.cells #[.int .i64 m.c.wk, .int .i64 m.c.sh, .int .i64 m.c.cp, .int .i64 m.c.idle, .int .i64 m.c.sl, m.pv, .slice sa m.ts.length sc] 78),
  .own 129 2 m.pv m.pool.length (m.pool.flatMap E7), .own 84 2 (.slice sa m.ts.length sc) m.ts.length (m.ts.flatMap H3), P1 (m.ts.map (·.1))]) ?_
 intro i hi L hL
 have hsum : y8 (tb.take i) ≤ 1000000000 := by
  have := C4a (tb.take i) (by
   intro t ht
   have ht2 := List.mem_of_mem_take ht
   rw [htb] at ht2
   obtain ⟨x, hx, rfl⟩ := List.mem_map.1 ht2; exact hm.len x hx)
  have h2 : (tb.take i).length ≤ 1000 := by rw [List.length_take]; omega
  have h3 : (tb.take i).length * 1000000 ≤ 1000 * 1000000 := Nat.mul_le_mul_right _ h2
  omega
 by_cases hlt : i < m.ts.length
 ·obtain ⟨⟨⟨tv, tl⟩, tn⟩, hx⟩ : ∃ x, m.ts[i]? = some x := ⟨_, List.getElem?_eq_getElem hlt⟩
  have hxm := List.mem_of_getElem? hx
  have h0 : (m.ts.flatMap H3)[i * 2]? = some tv := by
   have := Y4 (f := H3) (k := 2) (fun _ => rfl) m.ts i 0 (by omega); rw [hx] at this; exact this
  have hst : y8 (tb.take (i + 1)) = y8 (tb.take i) + E9 tl 1 := by
   have hx2 : tb[i]? = some (tl, tn) := by rw [htb, List.getElem?_map, hx]; rfl
   rw [List.take_add_one, hx2]; simp [y8]
  have hcl : E9 tl 1 ≤ 1000000 := Nat.le_trans List.countP_le_length (hm.len _ hxm)
  have hL' := hL hlt
  rw [hst] at hL'
  refine A1n (e := 84) (k := 2) (v := .slice sa m.ts.length sc) (q := m.ts.length) (xs := m.ts.flatMap H3) (by (repeat constructor)) (by omega) ?_
  rintro g gc hg
  cases hg
  (have zz:=trivial;repeat((first|clear zz|with_reducible first|refine A3 ?_|refine A4 fun _=>?_|refine A5 fun _=>?_);try simp(disch:=first|omega|assumption|((repeat(first|exact A1|exact uH|apply A2|apply uT));first|done|fail)|(simp;first|done|omega|fail))[hlt]))
  refine B8 A9D (fun w' hw' => C39 w' g (i * 2) tv tl (by have := (hw'.ownr (e := 84) (k := 2) (q := m.ts.length) (c := sc) (xs := m.ts.flatMap H3) (by (repeat constructor))).get h0; rwa [Nat.zero_add] at this) (hm.len _ hxm) (A2b (t := (tv, tl)) hw' (ts := m.ts.map (·.1)) (by (repeat constructor)) (List.mem_map.2 ⟨_, hxm, rfl⟩))) ?_
  (have zz:=trivial;repeat((first|clear zz|with_reducible first|refine A3 ?_|refine A4 fun _=>?_|refine A5 fun _=>?_);try simp(disch:=first|omega|assumption|((repeat(first|exact A1|exact uH|apply A2|apply uT));first|done|fail)|(simp;first|done|omega|fail))[]))
  exact TW.eqH (by simp) hL'
 ·obtain rfl : i = m.ts.length := by omega
  rw [← htl, List.take_length, htl]
  (have zz:=trivial;repeat((first|clear zz|with_reducible first|refine A3 ?_|refine A4 fun _=>?_|refine A5 fun _=>?_);try simp(disch:=first|omega|assumption|((repeat(first|exact A1|exact uH|apply A2|apply uT));first|done|fail)|(simp;first|done|omega|fail))[]))
  refine C0 m ⟨by simp [AnsV.val, B1B, MoH.st, htb], rfl, rfl⟩ ?_
  simp only [D2, hsv]
  (repeat' constructor)
end Go.Proofs.YtlplkjgcfjdinaaGreat
namespace Go.Proofs.YtlplkjgcfjdinaaGreat
open Go
def A32 (k : KeyV) : ByteArray := if Q8 k then A1S k else W2
def r6 (s : MoS) (pk : ByteArray) (now : Int) : MoS × AnsV :=
 let x := C9 pk
 if x.2.2 ≠ 0 then (s, ⟨9, 0, false, 0⟩)
 else
  let i := N6 (A32 x.1) s.c.sh
  let t := s.tabs.getD i ([], 0)
  let r := D6 t.1 s.pool (A32 x.1) (T8 x.1 x.2.1) now s.c.idle
  ({ s with tabs := s.tabs.set i (r.1, t.2) }, r.2.1)
structure MoOk2 (m : MoH) : Prop extends MoOk m where
 pool : m.pool.length ≤ 1000
 sh : m.c.sh = m.ts.length
 pos : 0 < m.ts.length
theorem A90 {l : List EnV} {p : List G2} {key : ByteArray} {c : Bool} {now idle : Int} (h : (D6 l p key c now idle).2.2 = false) : (D6 l p key c now idle).1 = l := by
 unfold D6 at h ⊢
 split
 ·rfl
 ·rw [if_neg ‹_›] at h
  split
  ·rw [if_pos ‹_›] at h
   simp only at h
   cases hd : U7 l key with
   | none => simp [A1v, hd]
   | some u => rw [hd] at h; cases h
  ·rw [if_neg ‹_›] at h
   cases hp : F6 l (A7M l p key now idle) with
   | none => rfl
   | some u => rw [hp] at h; cases h
theorem C2b {κ : Bool} {S : List Nat} {w0 : World} {H : List Res} {K0 : WP} {ts : List (Value × List EnV)} {t : Value × List EnV} (hm : P1 ts ∈ H) (ht : t ∈ ts) (h : t.1.cells = #[t.1] → t.1.cells.size = 1 → t.1.cells.toList.all plain = true → TW κ S w0 H K0) : TW κ S w0 H K0 := fun w hw => by
 obtain ⟨a, c, e⟩ := V9.form ((hw.hold _ hm : A5H ts w) t ht)
 exact h (by rw [e]; rfl) (by rw [e]; rfl) (by rw [e]; rfl) w hw
theorem B4u (s t : ByteArray) (o : Nat) : (Y6 s o t).size ≤ o + t.size + s.size := by
 simp only [Y6, ByteArray.size_append, ByteArray.size_extract]; omega
theorem B2s (x : Int) : (F7 x 2).size ≤ 2 := by simp
theorem A6k (k : KeyV) : (A32 k).size < 2 ^ 60 := by
 unfold A32
 split
 ·rename_i h
  simp only [Q8, decide_eq_true_eq] at h
  have hl : U0 k.v ≤ 16 := by unfold U0; split <;> (try split) <;> omega
  have h1 := B4u (Y6 (Y6 z38 0 (F7 (k.v * 256 + k.proto) 2 ++ F7 k.fr 2 ++ F7 k.tp 2)) 6 k.src) k.dst 22
  have h2 := B4u (Y6 z38 0 (F7 (k.v * 256 + k.proto) 2 ++ F7 k.fr 2 ++ F7 k.tp 2)) k.src 6
  have h3 := B4u z38 (F7 (k.v * 256 + k.proto) 2 ++ F7 k.fr 2 ++ F7 k.tp 2) 0
  have h4 := B2s (k.v * 256 + k.proto)
  have h5 := B2s k.fr
  have h6 := B2s k.tp
  have h7 := A82
  simp only [ByteArray.size_append] at h3
  unfold A1S
  omega
 ·simp
theorem B8e (w : World) (m : MoH) (o : OpV) (v : Value) (now : Int) (hv : v.cells = #[v] ∧ plain v = true) (hpk : o.packet.size < 2 ^ 40) (hm : MoOk2 m) (hw : LW false (C3 (D2 m)) w (D2 m) w) :
  Fn PR B7 52 #[.pointer (some ⟨m.b, 0, none⟩), o.val v, .int .i64 now] w (DoR w m (r6 m.st o.packet now)) := by
 refine A5l (TW.goH (κ := false) (S := C3 (D2 m)) ?_ hw)
 unfold A0r
 simp only [OpV.val]
 unfold DoR
 have hlen := hm.few
 generalize hS : C3 (D2 m) = S at *
 simp only [D2]
 refine Y3 (e := 84) (k := 2) (v := m.sv) (q := m.ts.length) (xs := m.ts.flatMap H3) (by (repeat constructor)) ?_
 intro sa sc hsv
 rw [hsv]
 (have zz:=trivial;repeat((first|clear zz|with_reducible first|refine A3 ?_|refine A4 fun _=>?_|refine A5 fun _=>?_);try simp(disch:=first|omega|assumption|((repeat(first|exact A1|exact uH|apply A2|apply uT));first|done|fail)|(simp;first|done|omega|fail))[]))
 refine B8 B17 (fun w' hw' => B4W w' o.packet hpk) ?_
 by_cases c1 : (C9 o.packet).2.2 = 0
 case neg =>
  have e : r6 m.st o.packet now = (m.st, ⟨9, 0, false, 0⟩) := by unfold r6; simp only; rw [if_pos c1]
  rw [e]
  (have zz:=trivial;repeat((first|clear zz|with_reducible first|refine A3 ?_|refine A4 fun _=>?_|refine A5 fun _=>?_);try simp(disch:=first|omega|assumption|((repeat(first|exact A1|exact uH|apply A2|apply uT));first|done|fail)|(simp;first|done|omega|fail))[packet.val, U3, c1]))
  refine C0 m ⟨by simp [AnsV.val], rfl, rfl⟩ ?_
  simp only [D2, hsv]
  (repeat' constructor)
 have hk := A6k (C9 o.packet).1
 (have zz:=trivial;repeat((first|clear zz|with_reducible first|refine A3 ?_|refine A4 fun _=>?_|refine A5 fun _=>?_);try simp(disch:=first|omega|assumption|((repeat(first|exact A1|exact uH|apply A2|apply uT));first|done|fail)|(simp;first|done|omega|fail))[packet.val, U3, c1]))
 refine B8 (u := z8 (C9 o.packet).1) B2K (fun w' hw' => C3x w' (C9 o.packet).1) ?_
 (have zz:=trivial;repeat((first|clear zz|with_reducible first|refine A3 ?_|refine A4 fun _=>?_|refine A5 fun _=>?_);try simp(disch:=first|omega|assumption|((repeat(first|exact A1|exact uH|apply A2|apply uT));first|done|fail)|(simp;first|done|omega|fail))[z8]))
 rename_i b4 b6 b7
 have hsh := hm.sh
 have hpos := hm.pos
 rw [show (if Q8 (C9 o.packet).1 = true then A1S (C9 o.packet).1 else W2) = A32 (C9 o.packet).1 from rfl]
 generalize hkey : A32 (C9 o.packet).1 = key at *
 refine B8 B3J (fun w' hw' => C5A w' key m.c.sh hk (by omega)) ?_
 have hlt : N6 key m.c.sh < m.ts.length := by
  unfold N6; rw [if_neg (by omega), hsh, Int.toNat_natCast]; exact Nat.mod_lt _ hpos
 have e : r6 m.st o.packet now = ({ m.st with tabs := m.st.tabs.set (N6 key m.c.sh) ((D6 (m.st.tabs.getD (N6 key m.c.sh) ([], 0)).1 m.pool key (T8 (C9 o.packet).1 (C9 o.packet).2.1) now m.c.idle).1, (m.st.tabs.getD (N6 key m.c.sh) ([], 0)).2) },
   (D6 (m.st.tabs.getD (N6 key m.c.sh) ([], 0)).1 m.pool key (T8 (C9 o.packet).1 (C9 o.packet).2.1) now m.c.idle).2.1) := by
  unfold r6; simp only; rw [if_neg (by rw [c1]; simp), hkey]; rfl
 rw [e]
 generalize N6 key m.c.sh = i at *
 obtain ⟨⟨⟨tv, tl⟩, tn⟩, hx⟩ : ∃ x, m.ts[i]? = some x := ⟨_, List.getElem?_eq_getElem hlt⟩
 have hxm := List.mem_of_getElem? hx
 have hgd : m.st.tabs.getD i ([], 0) = (tl, tn) := by simp [MoH.st, List.getD_eq_getElem?_getD, hx]
 rw [hgd]
 simp only
 generalize hcl : T8 (C9 o.packet).1 (C9 o.packet).2.1 = cl at *
 have h0 : (m.ts.flatMap H3)[i * 2]? = some tv := by
  have := Y4 (f := H3) (k := 2) (fun _ => rfl) m.ts i 0 (by omega); rw [hx] at this; exact this
 refine A1n (e := 84) (k := 2) (v := .slice sa m.ts.length sc) (q := m.ts.length) (xs := m.ts.flatMap H3) (by (repeat constructor)) (by omega) ?_
 rintro g gc hg
 cases hg
 (have zz:=trivial;repeat((first|clear zz|with_reducible first|refine A3 ?_|refine A4 fun _=>?_|refine A5 fun _=>?_);try simp(disch:=first|omega|assumption|((repeat(first|exact A1|exact uH|apply A2|apply uT));first|done|fail)|(simp;first|done|omega|fail))[hlt]))
 cases hnw : (D6 tl m.pool key cl now m.c.idle).2.2 with
 | true =>
  refine B3s (α := Nat × Value) (fun x => x.2.cells = #[x.2] ∧ x.2.cells.size = 1 ∧ x.2.cells.toList.all plain = true) (fun x => [.pt x.1 (.cells #[.int .i64 (D6 tl m.pool key cl now m.c.idle).2.1.err, .int .i64 (D6 tl m.pool key cl now m.c.idle).2.1.bk, .bool (D6 tl m.pool key cl now m.c.idle).2.1.made, .int .i64 (D6 tl m.pool key cl now m.c.idle).2.1.count] 44), E8 x.2 (D6 tl m.pool key cl now m.c.idle).1, 
   .pt b7 (.cells #[.int .i64 (C9 o.packet).1.v, .string (C9 o.packet).1.src, .string (C9 o.packet).1.dst, .int .i64 (C9 o.packet).1.fr, .int .i64 (C9 o.packet).1.tp, .int .i64 (C9 o.packet).1.proto, .int .i64 (C9 o.packet).2.1] 110),
   .pt b6 (.cells #[.int .i64 0, .int .i64 0, .bool false, .int .i64 0] 44),
   .pt m.b (.cells #[.int .i64 m.c.wk, .int .i64 m.c.sh, .int .i64 m.c.cp, .int .i64 m.c.idle, .int .i64 m.c.sl, m.pv, .slice (some ⟨g, 0, none⟩) m.ts.length sc] 78),
   .own 129 2 m.pv m.pool.length (m.pool.flatMap E7), .own 84 2 (.slice (some ⟨g, 0, none⟩) m.ts.length sc) m.ts.length (m.ts.flatMap H3), P1 (m.ts.map (·.1))])
   (fun x => .pointer (some ⟨x.1, 0, none⟩)) (fun x => x.2) ?_ ?_
  ·rintro ⟨ba, r⟩ ⟨hr1, hr2, hr3⟩
   simp only at hr1 hr2 hr3 ⊢
   have hr4 : r.cells.toList = [r] := by rw [hr1]
   (have zz:=trivial;repeat((first|clear zz|with_reducible first|refine A3 ?_|refine A4 fun _=>?_|refine A5 fun _=>?_);try simp(disch:=first|omega|assumption|((repeat(first|exact A1|exact uH|apply A2|apply uT));first|done|fail)|(simp;first|done|omega|fail))[hlt]))
   refine d9 (by (repeat constructor)) (by simp [hr1]) (by rw [L5 (k := 2) fun _ => rfl]; omega) (by simp [hr3]) ?_
   rw [hr4, B3d (e' := (D6 tl m.pool key cl now m.c.idle).1) hx]
   (have zz:=trivial;repeat((first|clear zz|with_reducible first|refine A3 ?_|refine A4 fun _=>?_|refine A5 fun _=>?_);try simp(disch:=first|omega|assumption|((repeat(first|exact A1|exact uH|apply A2|apply uT));first|done|fail)|(simp;first|done|omega|fail))[]))
   refine B7y (r := r) (l := (D6 tl m.pool key cl now m.c.idle).1) (i := i) (by (repeat' constructor)) ?_
   refine C0 { m with sv := .slice (some ⟨g, 0, none⟩) m.ts.length sc, ts := m.ts.set i ((r, (D6 tl m.pool key cl now m.c.idle).1), tn) } ⟨by simp [AnsV.val], rfl, by simp [MoH.st, List.map_set]⟩ ?_
   simp only [D2, List.map_set, List.length_set]
   (repeat' constructor)
  ·intro J hJ
   (have zz:=trivial;repeat((first|clear zz|with_reducible first|refine A3 ?_|refine A4 fun _=>?_|refine A5 fun _=>?_);try simp(disch:=first|omega|assumption|((repeat(first|exact A1|exact uH|apply A2|apply uT));first|done|fail)|(simp;first|done|omega|fail))[hlt, h0]))
   have hclo : ∀ w', Fn PR B7 74 #[U3 (C9 o.packet).1 (C9 o.packet).2.1] w' (fun u w'' => u = .bool cl ∧ C6 [] w' w'') := fun w' => by rw [← hcl]; exact B3z w' _ _
   refine ⟨?_, ?_⟩
   ·refine B8 g8 (fun w' _ => hclo w') ?_
    (have zz:=trivial;repeat((first|clear zz|with_reducible first|refine A3 ?_|refine A4 fun _=>?_|refine A5 fun _=>?_);try simp(disch:=first|omega|assumption|((repeat(first|exact A1|exact uH|apply A2|apply uT));first|done|fail)|(simp;first|done|omega|fail))[h0]))
    refine ⟨?_, ?_⟩
    ·refine F3 V3 (fun w' hw' => A2B w' tv m.pv tl m.pool key cl now m.c.idle hk (hm.keys _ hxm) (hm.len _ hxm) hm.pool (A2b (t := (tv, tl)) hw' (ts := m.ts.map (·.1)) (by (repeat constructor)) (List.mem_map.2 ⟨_, hxm, rfl⟩)) (G0.own (e := 129) (k := 2) (by (repeat constructor)) w' hw')) ?_
     rintro r _ rfl
     simp only [hnw, if_true]
     refine A2f (e := 119) (k := 4) (v := r) (q := (D6 tl m.pool key cl now m.c.idle).1.length) (xs := (D6 tl m.pool key cl now m.c.idle).1.flatMap D5) (by (repeat constructor)) fun hr1 hr2 hr3 => ?_
     (have zz:=trivial;repeat((first|clear zz|with_reducible first|refine A3 ?_|refine A4 fun _=>?_|refine A5 fun _=>?_);try simp(disch:=first|omega|assumption|((repeat(first|exact A1|exact uH|apply A2|apply uT));first|done|fail)|(simp;first|done|omega|fail))[AnsV.val]))
     rename_i bx
     exact Sels.tw (by (repeat' constructor)) (hJ (bx, r) ⟨hr1, hr2, hr3⟩)
    ·refine ⟨?_, fun _ _ => trivial⟩
     (have zz:=trivial;repeat((first|clear zz|with_reducible first|refine A3 ?_|refine A4 fun _=>?_|refine A5 fun _=>?_);try simp(disch:=first|omega|assumption|((repeat(first|exact A1|exact uH|apply A2|apply uT));first|done|fail)|(simp;first|done|omega|fail))[h0]))
     rename_i bx
     refine F3 V3 (fun w' hw' => A2B w' tv m.pv tl m.pool key cl now m.c.idle hk (hm.keys _ hxm) (hm.len _ hxm) hm.pool (A2b (t := (tv, tl)) hw' (ts := m.ts.map (·.1)) (by (repeat constructor)) (List.mem_map.2 ⟨_, hxm, rfl⟩)) (G0.own (e := 129) (k := 2) (by (repeat constructor)) w' hw')) ?_
     rintro r _ rfl
     simp only [hnw, if_true]
     refine A2f (e := 119) (k := 4) (v := r) (q := (D6 tl m.pool key cl now m.c.idle).1.length) (xs := (D6 tl m.pool key cl now m.c.idle).1.flatMap D5) (by (repeat constructor)) fun hr1 hr2 hr3 => ?_
     (have zz:=trivial;repeat((first|clear zz|with_reducible first|refine A3 ?_|refine A4 fun _=>?_|refine A5 fun _=>?_);try simp(disch:=first|omega|assumption|((repeat(first|exact A1|exact uH|apply A2|apply uT));first|done|fail)|(simp;first|done|omega|fail))[AnsV.val]))
     exact Sels.tw (by (repeat' constructor)) (hJ (bx, r) ⟨hr1, hr2, hr3⟩)
   ·refine ⟨?_, fun _ _ => trivial⟩
    (have zz:=trivial;repeat((first|clear zz|with_reducible first|refine A3 ?_|refine A4 fun _=>?_|refine A5 fun _=>?_);try simp(disch:=first|omega|assumption|((repeat(first|exact A1|exact uH|apply A2|apply uT));first|done|fail)|(simp;first|done|omega|fail))[h0]))
    rename_i bx
    rw [M1 (by (repeat constructor)) (by rfl)]
    (have zz:=trivial;repeat((first|clear zz|with_reducible first|refine A3 ?_|refine A4 fun _=>?_|refine A5 fun _=>?_);try simp(disch:=first|omega|assumption|((repeat(first|exact A1|exact uH|apply A2|apply uT));first|done|fail)|(simp;first|done|omega|fail))[h0]))
    refine B8 g8 (fun w' _ => hclo w') ?_
    (have zz:=trivial;repeat((first|clear zz|with_reducible first|refine A3 ?_|refine A4 fun _=>?_|refine A5 fun _=>?_);try simp(disch:=first|omega|assumption|((repeat(first|exact A1|exact uH|apply A2|apply uT));first|done|fail)|(simp;first|done|omega|fail))[h0]))
    refine F3 V3 (fun w' hw' => A2B w' tv m.pv tl m.pool key cl now m.c.idle hk (hm.keys _ hxm) (hm.len _ hxm) hm.pool (A2b (t := (tv, tl)) hw' (ts := m.ts.map (·.1)) (by (repeat constructor)) (List.mem_map.2 ⟨_, hxm, rfl⟩)) (G0.own (e := 129) (k := 2) (by (repeat constructor)) w' hw')) ?_
    rintro r _ rfl
    simp only [hnw, if_true]
    refine A2f (e := 119) (k := 4) (v := r) (q := (D6 tl m.pool key cl now m.c.idle).1.length) (xs := (D6 tl m.pool key cl now m.c.idle).1.flatMap D5) (by (repeat constructor)) fun hr1 hr2 hr3 => ?_
    (have zz:=trivial;repeat((first|clear zz|with_reducible first|refine A3 ?_|refine A4 fun _=>?_|refine A5 fun _=>?_);try simp(disch:=first|omega|assumption|((repeat(first|exact A1|exact uH|apply A2|apply uT));first|done|fail)|(simp;first|done|omega|fail))[AnsV.val]))
    exact Sels.tw (by (repeat' constructor)) (hJ (bx, r) ⟨hr1, hr2, hr3⟩)
 | false =>
  refine C2b (ts := m.ts.map (·.1)) (t := (tv, tl)) (by (repeat constructor)) (List.mem_map.2 ⟨_, hxm, rfl⟩) fun hr1 hr2 hr3 => ?_
  simp only at hr1 hr2 hr3
  refine B3s (α := Nat × Value) (fun x => x.2.cells = #[x.2] ∧ x.2.cells.size = 1 ∧ x.2.cells.toList.all plain = true) (fun x => [.pt x.1 (.cells #[.int .i64 (D6 tl m.pool key cl now m.c.idle).2.1.err, .int .i64 (D6 tl m.pool key cl now m.c.idle).2.1.bk, .bool (D6 tl m.pool key cl now m.c.idle).2.1.made, .int .i64 (D6 tl m.pool key cl now m.c.idle).2.1.count] 44), 
   .pt b7 (.cells #[.int .i64 (C9 o.packet).1.v, .string (C9 o.packet).1.src, .string (C9 o.packet).1.dst, .int .i64 (C9 o.packet).1.fr, .int .i64 (C9 o.packet).1.tp, .int .i64 (C9 o.packet).1.proto, .int .i64 (C9 o.packet).2.1] 110),
   .pt b6 (.cells #[.int .i64 0, .int .i64 0, .bool false, .int .i64 0] 44),
   .pt m.b (.cells #[.int .i64 m.c.wk, .int .i64 m.c.sh, .int .i64 m.c.cp, .int .i64 m.c.idle, .int .i64 m.c.sl, m.pv, .slice (some ⟨g, 0, none⟩) m.ts.length sc] 78),
   .own 129 2 m.pv m.pool.length (m.pool.flatMap E7), .own 84 2 (.slice (some ⟨g, 0, none⟩) m.ts.length sc) m.ts.length (m.ts.flatMap H3), P1 (m.ts.map (·.1))])
   (fun x => .pointer (some ⟨x.1, 0, none⟩)) (fun x => tv) ?_ ?_
  ·rintro ⟨ba, r⟩ _
   simp only
   have hr4 : tv.cells.toList = [tv] := by rw [hr1]
   have hsame : m.ts.set i ((tv, tl), tn) = m.ts := by
    obtain ⟨h, e⟩ := List.getElem?_eq_some_iff.1 hx
    rw [← e]; exact List.set_getElem_self h
   have hst : m.st.tabs.set i (tl, tn) = m.st.tabs := by
    have := congrArg (List.map fun t : ShV => (t.1.2, t.2)) hsame
    rw [List.map_set] at this; exact this
   have hd := A90 hnw
   (have zz:=trivial;repeat((first|clear zz|with_reducible first|refine A3 ?_|refine A4 fun _=>?_|refine A5 fun _=>?_);try simp(disch:=first|omega|assumption|((repeat(first|exact A1|exact uH|apply A2|apply uT));first|done|fail)|(simp;first|done|omega|fail))[hlt]))
   refine d9 (by (repeat constructor)) (by simp [hr1]) (by rw [L5 (k := 2) fun _ => rfl]; omega) (by simp [hr3]) ?_
   rw [hr4, B3d (e' := tl) hx, hsame]
   (have zz:=trivial;repeat((first|clear zz|with_reducible first|refine A3 ?_|refine A4 fun _=>?_|refine A5 fun _=>?_);try simp(disch:=first|omega|assumption|((repeat(first|exact A1|exact uH|apply A2|apply uT));first|done|fail)|(simp;first|done|omega|fail))[]))
   refine C0 m ⟨by simp [AnsV.val], rfl, by rw [hd, hst]⟩ ?_
   simp only [D2, hsv]
   (repeat' constructor)
  ·intro J hJ
   (have zz:=trivial;repeat((first|clear zz|with_reducible first|refine A3 ?_|refine A4 fun _=>?_|refine A5 fun _=>?_);try simp(disch:=first|omega|assumption|((repeat(first|exact A1|exact uH|apply A2|apply uT));first|done|fail)|(simp;first|done|omega|fail))[hlt, h0]))
   have hclo : ∀ w', Fn PR B7 74 #[U3 (C9 o.packet).1 (C9 o.packet).2.1] w' (fun u w'' => u = .bool cl ∧ C6 [] w' w'') := fun w' => by rw [← hcl]; exact B3z w' _ _
   refine ⟨?_, ?_⟩
   ·refine B8 g8 (fun w' _ => hclo w') ?_
    (have zz:=trivial;repeat((first|clear zz|with_reducible first|refine A3 ?_|refine A4 fun _=>?_|refine A5 fun _=>?_);try simp(disch:=first|omega|assumption|((repeat(first|exact A1|exact uH|apply A2|apply uT));first|done|fail)|(simp;first|done|omega|fail))[h0]))
    refine ⟨?_, ?_⟩
    ·refine F3 V3 (fun w' hw' => A2B w' tv m.pv tl m.pool key cl now m.c.idle hk (hm.keys _ hxm) (hm.len _ hxm) hm.pool (A2b (t := (tv, tl)) hw' (ts := m.ts.map (·.1)) (by (repeat constructor)) (List.mem_map.2 ⟨_, hxm, rfl⟩)) (G0.own (e := 129) (k := 2) (by (repeat constructor)) w' hw')) ?_
     rintro r _ rfl
     simp only [hnw, Bool.false_eq_true, if_false]
     (have zz:=trivial;repeat((first|clear zz|with_reducible first|refine A3 ?_|refine A4 fun _=>?_|refine A5 fun _=>?_);try simp(disch:=first|omega|assumption|((repeat(first|exact A1|exact uH|apply A2|apply uT));first|done|fail)|(simp;first|done|omega|fail))[AnsV.val]))
     rename_i bx
     exact Sels.tw (by (repeat' constructor)) (hJ (bx, tv) ⟨hr1, hr2, hr3⟩)
    ·refine ⟨?_, fun _ _ => trivial⟩
     (have zz:=trivial;repeat((first|clear zz|with_reducible first|refine A3 ?_|refine A4 fun _=>?_|refine A5 fun _=>?_);try simp(disch:=first|omega|assumption|((repeat(first|exact A1|exact uH|apply A2|apply uT));first|done|fail)|(simp;first|done|omega|fail))[h0]))
     rename_i bx
     refine F3 V3 (fun w' hw' => A2B w' tv m.pv tl m.pool key cl now m.c.idle hk (hm.keys _ hxm) (hm.len _ hxm) hm.pool (A2b (t := (tv, tl)) hw' (ts := m.ts.map (·.1)) (by (repeat constructor)) (List.mem_map.2 ⟨_, hxm, rfl⟩)) (G0.own (e := 129) (k := 2) (by (repeat constructor)) w' hw')) ?_
     rintro r _ rfl
     simp only [hnw, Bool.false_eq_true, if_false]
     (have zz:=trivial;repeat((first|clear zz|with_reducible first|refine A3 ?_|refine A4 fun _=>?_|refine A5 fun _=>?_);try simp(disch:=first|omega|assumption|((repeat(first|exact A1|exact uH|apply A2|apply uT));first|done|fail)|(simp;first|done|omega|fail))[AnsV.val]))
     exact Sels.tw (by (repeat' constructor)) (hJ (bx, tv) ⟨hr1, hr2, hr3⟩)
   ·refine ⟨?_, fun _ _ => trivial⟩
    (have zz:=trivial;repeat((first|clear zz|with_reducible first|refine A3 ?_|refine A4 fun _=>?_|refine A5 fun _=>?_);try simp(disch:=first|omega|assumption|((repeat(first|exact A1|exact uH|apply A2|apply uT));first|done|fail)|(simp;first|done|omega|fail))[h0]))
    rename_i bx
    rw [M1 (by (repeat constructor)) (by rfl)]
    (have zz:=trivial;repeat((first|clear zz|with_reducible first|refine A3 ?_|refine A4 fun _=>?_|refine A5 fun _=>?_);try simp(disch:=first|omega|assumption|((repeat(first|exact A1|exact uH|apply A2|apply uT));first|done|fail)|(simp;first|done|omega|fail))[h0]))
    refine B8 g8 (fun w' _ => hclo w') ?_
    (have zz:=trivial;repeat((first|clear zz|with_reducible first|refine A3 ?_|refine A4 fun _=>?_|refine A5 fun _=>?_);try simp(disch:=first|omega|assumption|((repeat(first|exact A1|exact uH|apply A2|apply uT));first|done|fail)|(simp;first|done|omega|fail))[h0]))
    refine F3 V3 (fun w' hw' => A2B w' tv m.pv tl m.pool key cl now m.c.idle hk (hm.keys _ hxm) (hm.len _ hxm) hm.pool (A2b (t := (tv, tl)) hw' (ts := m.ts.map (·.1)) (by (repeat constructor)) (List.mem_map.2 ⟨_, hxm, rfl⟩)) (G0.own (e := 129) (k := 2) (by (repeat constructor)) w' hw')) ?_
    rintro r _ rfl
    simp only [hnw, Bool.false_eq_true, if_false]
    (have zz:=trivial;repeat((first|clear zz|with_reducible first|refine A3 ?_|refine A4 fun _=>?_|refine A5 fun _=>?_);try simp(disch:=first|omega|assumption|((repeat(first|exact A1|exact uH|apply A2|apply uT));first|done|fail)|(simp;first|done|omega|fail))[AnsV.val]))
    exact Sels.tw (by (repeat' constructor)) (hJ (bx, tv) ⟨hr1, hr2, hr3⟩)
end Go.Proofs.YtlplkjgcfjdinaaGreat
namespace Go.Proofs.YtlplkjgcfjdinaaGreat
open Go
theorem bdF (a b c d : FuncId) (K : Value → WP) : A0 PR (Instr.build 106 #[(0, .func (.func a) #[] #[]), (1, .func (.func b) #[] #[]), (2, .func (.func c) #[] #[]), (3, .func (.func d) #[] #[])]) K = K (.agg #[.func (.func a) #[] #[], .func (.func b) #[] #[], .func (.func c) #[] #[], .func (.func d) #[] #[]]) :=
 B7k C0F C0d (by rw [show (#[(0, Value.func (.func a) #[] #[]), (1, .func (.func b) #[] #[]), (2, .func (.func c) #[] #[]), (3, .func (.func d) #[] #[])] : Array (Nat × Value)).toList = [(0, .func (.func a) #[] #[]), (1, .func (.func b) #[] #[]), (2, .func (.func c) #[] #[]), (3, .func (.func d) #[] #[])] from rfl, B5 rfl rfl (by simp), B5 rfl rfl (by simp [B9]), B5 rfl rfl (by simp [B9]), B5 rfl rfl (by simp [B9])]; rfl)
def M2 (s : MoS) (o : OpV) (now : Int) : MoS × AnsV :=
 if o.kind = 0 then r6 s o.packet now else if o.kind = 1 then A7Y s o.pool else if o.kind = 2 then A11 s o.shard now else if o.kind = 3 then B1B s else (s, ⟨1, 0, false, 0⟩)
theorem C0E (w : World) (m : MoH) (o : OpV) (v : Value) (now : Int) (hv : PoolAt w m v o.pool) (hpk : o.packet.size < 2 ^ 40) (hm : MoOk2 m) (hw : LW false (C3 (D2 m)) w (D2 m) w) :
  Fn PR B7 44 #[.pointer (some ⟨m.b, 0, none⟩), o.val v, .int .i64 now] w (DoR w m (M2 m.st o now)) := by
 refine B1U (TW.goH (κ := false) (S := C3 (D2 m)) ?_ hw)
 unfold A4D
 simp only [OpV.val]
 unfold DoR
 generalize hS : C3 (D2 m) = S at *
 have hc1 : v.cells.size = 1 := by rw [hv.form.1]; rfl
 by_cases c0 : o.kind < 0
 ·have e : M2 m.st o now = (m.st, ⟨1, 0, false, 0⟩) := by unfold M2; rw [if_neg (by omega), if_neg (by omega), if_neg (by omega), if_neg (by omega)]
  rw [e]
  simp only [D2]
  (have zz:=trivial;repeat((first|clear zz|with_reducible first|refine A3 ?_|refine A4 fun _=>?_|refine A5 fun _=>?_);try simp(disch:=first|omega|assumption|((repeat(first|exact A1|exact uH|apply A2|apply uT));first|done|fail)|(simp;first|done|omega|fail))[c0, bdF]))
  refine C0 m ⟨by simp [AnsV.val], rfl, rfl⟩ ?_
  simp only [D2]
  (repeat' constructor)
 by_cases c4 : 4 ≤ o.kind
 ·have e : M2 m.st o now = (m.st, ⟨1, 0, false, 0⟩) := by unfold M2; rw [if_neg (by omega), if_neg (by omega), if_neg (by omega), if_neg (by omega)]
  rw [e]
  simp only [D2]
  (have zz:=trivial;repeat((first|clear zz|with_reducible first|refine A3 ?_|refine A4 fun _=>?_|refine A5 fun _=>?_);try simp(disch:=first|omega|assumption|((repeat(first|exact A1|exact uH|apply A2|apply uT));first|done|fail)|(simp;first|done|omega|fail))[c0, c4, bdF]))
  refine C0 m ⟨by simp [AnsV.val], rfl, rfl⟩ ?_
  simp only [D2]
  (repeat' constructor)
 have hk : o.kind = 0 ∨ o.kind = 1 ∨ o.kind = 2 ∨ o.kind = 3 := by omega
 rcases hk with hk | hk | hk | hk
 ·rw [show M2 m.st o now = r6 m.st o.packet now by simp [M2, hk]]
  simp only [D2]
  (have zz:=trivial;repeat((first|clear zz|with_reducible first|refine A3 ?_|refine A4 fun _=>?_|refine A5 fun _=>?_);try simp(disch:=first|omega|assumption|((repeat(first|exact A1|exact uH|apply A2|apply uT));first|done|fail)|(simp;first|done|omega|fail))[hk, bdF]))
  refine F9 (Hc := D2 m) A4m (fun w' hw' hs => by have := B8e w' m o v now hv.form hpk hm hs; rw [OpV.val, hk] at this; exact this) (by simp only [D2]; (repeat' constructor)) ?_
  rintro m' _ ⟨rfl, hb, hst⟩
  simp only [D2]
  (have zz:=trivial;repeat((first|clear zz|with_reducible first|refine A3 ?_|refine A4 fun _=>?_|refine A5 fun _=>?_);try simp(disch:=first|omega|assumption|((repeat(first|exact A1|exact uH|apply A2|apply uT));first|done|fail)|(simp;first|done|omega|fail))[AnsV.val]))
  refine C0 m' ⟨by simp [AnsV.val], hb, hst⟩ ?_
  simp only [D2]
  (repeat' constructor)
 ·rw [show M2 m.st o now = A7Y m.st o.pool by simp [M2, hk]]
  simp only [D2]
  (have zz:=trivial;repeat((first|clear zz|with_reducible first|refine A3 ?_|refine A4 fun _=>?_|refine A5 fun _=>?_);try simp(disch:=first|omega|assumption|((repeat(first|exact A1|exact uH|apply A2|apply uT));first|done|fail)|(simp;first|done|omega|fail))[hk, bdF]))
  refine F9 (Hc := D2 m) A7G (fun w' hw' hs => by have := C1d w' m o v now ⟨hv.at (by rw [hS]; exact hw'.ks), hv.off, hv.len, hv.form⟩ hs; rw [OpV.val, hk] at this; exact this) (by simp only [D2]; (repeat' constructor)) ?_
  rintro m' _ ⟨rfl, hb, hst⟩
  simp only [D2]
  (have zz:=trivial;repeat((first|clear zz|with_reducible first|refine A3 ?_|refine A4 fun _=>?_|refine A5 fun _=>?_);try simp(disch:=first|omega|assumption|((repeat(first|exact A1|exact uH|apply A2|apply uT));first|done|fail)|(simp;first|done|omega|fail))[AnsV.val]))
  refine C0 m' ⟨by simp [AnsV.val], hb, hst⟩ ?_
  simp only [D2]
  (repeat' constructor)
 ·rw [show M2 m.st o now = A11 m.st o.shard now by simp [M2, hk]]
  simp only [D2]
  (have zz:=trivial;repeat((first|clear zz|with_reducible first|refine A3 ?_|refine A4 fun _=>?_|refine A5 fun _=>?_);try simp(disch:=first|omega|assumption|((repeat(first|exact A1|exact uH|apply A2|apply uT));first|done|fail)|(simp;first|done|omega|fail))[hk, bdF]))
  refine F9 (Hc := D2 m) A7d (fun w' hw' hs => by have := C2S w' m o v now hv.form hm.toMoOk hs; rw [OpV.val, hk] at this; exact this) (by simp only [D2]; (repeat' constructor)) ?_
  rintro m' _ ⟨rfl, hb, hst⟩
  simp only [D2]
  (have zz:=trivial;repeat((first|clear zz|with_reducible first|refine A3 ?_|refine A4 fun _=>?_|refine A5 fun _=>?_);try simp(disch:=first|omega|assumption|((repeat(first|exact A1|exact uH|apply A2|apply uT));first|done|fail)|(simp;first|done|omega|fail))[AnsV.val]))
  refine C0 m' ⟨by simp [AnsV.val], hb, hst⟩ ?_
  simp only [D2]
  (repeat' constructor)
 ·rw [show M2 m.st o now = B1B m.st by simp [M2, hk]]
  simp only [D2]
  (have zz:=trivial;repeat((first|clear zz|with_reducible first|refine A3 ?_|refine A4 fun _=>?_|refine A5 fun _=>?_);try simp(disch:=first|omega|assumption|((repeat(first|exact A1|exact uH|apply A2|apply uT));first|done|fail)|(simp;first|done|omega|fail))[hk, bdF]))
  refine F9 (Hc := D2 m) A8C (fun w' hw' hs => by have := C30 w' m o v now hv.form hm.toMoOk hs; rw [OpV.val, hk] at this; exact this) (by simp only [D2]; (repeat' constructor)) ?_
  rintro m' _ ⟨rfl, hb, hst⟩
  simp only [D2]
  (have zz:=trivial;repeat((first|clear zz|with_reducible first|refine A3 ?_|refine A4 fun _=>?_|refine A5 fun _=>?_);try simp(disch:=first|omega|assumption|((repeat(first|exact A1|exact uH|apply A2|apply uT));first|done|fail)|(simp;first|done|omega|fail))[AnsV.val]))
  refine C0 m' ⟨by simp [AnsV.val], hb, hst⟩ ?_
  simp only [D2]
  (repeat' constructor)
end Go.Proofs.YtlplkjgcfjdinaaGreat
namespace Go.Proofs.YtlplkjgcfjdinaaGreat
open Go
theorem A8z {l : List EnV} {j : Nat} {x : EnV} (h : H7 l) (hx : x.key.size < 2 ^ 60) : H7 (l.set j x) := fun y hy => by
 rcases List.mem_or_eq_of_mem_set hy with h1 | rfl
 ·exact h y h1
 ·exact hx
theorem B8A (n : Nat) : H7 (newE n) := fun x hx => by
 unfold newE at hx
 rw [(List.mem_replicate.1 hx).2]; simp [p5]
theorem C2p {a : List EnV} {x : EnV} (h : H7 a) (hx : x.key.size < 2 ^ 60) : H7 (U8 a x) := by
 unfold U8
 cases hp : F6 a x with
 | none => exact h
 | some u => obtain ⟨j, _, rfl⟩ := B2l hp; exact A8z h hx
theorem C1D {l : List EnV} (h : H7 l) : H7 (Y1 l) := by
 unfold Y1
 have : ∀ (L : List (Nat × EnV)) (a : List EnV), (∀ p ∈ L, p.2.key.size < 2 ^ 60) → H7 a → H7 (L.foldl (fun acc p => U8 acc p.2) a) := by
  intro L
  induction L with
  | nil => intro a _ h; exact h
  | cons p L ih => intro a hL ha; rw [List.foldl_cons]; exact ih _ (fun q hq => hL q (List.mem_cons_of_mem _ hq)) (C2p ha (hL p (List.mem_cons_self ..)))
 exact this _ _ (fun p hp => h _ (B48 p hp).1) (B8A _)
theorem B8l {l : List EnV} (h : H7 l) : H7 (H0 l) := by
 unfold H0; split
 ·exact C1D h
 ·exact h
theorem B70 : P3.key.size < 2 ^ 60 := by simp [P3]
structure TabOk (n : Nat) (l : List EnV) : Prop where
 len : l.length = n
 few : n ≤ 64
 keys : H7 l
 right : V2 l = true
theorem TabOk.new {n : Nat} (h : n ≤ 64) : TabOk n (newE n) := ⟨by rw [A5A]; omega, h, B8A _, B5S _⟩
theorem TabOk.settle {n : Nat} {l : List EnV} (h : TabOk n l) : TabOk n (H0 l) := ⟨by rw [C0v (by rw [h.len]; exact h.few), h.len], h.few, B8l h.keys, B6g h.right⟩
theorem TabOk.tomb {n : Nat} {l : List EnV} {j : Nat} (h : TabOk n l) (hj : j < l.length) : TabOk n (l.set j P3) := ⟨by rw [List.length_set, h.len], h.few, A8z h.keys B70, C03 hj h.right⟩
theorem TabOk.put {n : Nat} {l u : List EnV} {x : EnV} (h : TabOk n l) (hx : x.key.size < 2 ^ 60) (h1 : x.st = 1) (hp : F6 l x = some u) : TabOk n u :=
 ⟨by rw [A89 hp, h.len], h.few, by obtain ⟨j, _, rfl⟩ := B2l hp; exact A8z h.keys hx, B5G h1 hp h.right⟩
theorem TabOk.perm {n : Nat} {l : List EnV} (h : TabOk n l) : (D1 (H0 l)).Perm (D1 l) := B4y h.right (by rw [h.len]; exact h.few)
theorem A3S {l : List EnV} {key : ByteArray} (h : 0 ≤ D3 l key) : l[(D3 l key).toNat]? = some (e9 l key) ∧ (e9 l key).st = 1 ∧ (e9 l key).key = key := by
 obtain ⟨x, h1, h2, h3⟩ := B7Q (l := l) (key := key) (j := (D3 l key).toNat) (by omega)
 have e : e9 l key = x := by unfold e9; rw [List.getD_eq_getElem?_getD, h1]; rfl
 rw [e]; exact ⟨h1, h2, h3⟩
theorem C1U {l u : List EnV} {key : ByteArray} (h : U7 l key = some u) : 0 ≤ D3 l key ∧ (D3 l key).toNat < l.length ∧ u = l.set (D3 l key).toNat P3 ∧ (e9 l key :: D1 u).Perm (D1 l) := by
 unfold U7 at h
 split at h
 ·cases h
 ·rename_i c
  injection h with h
  subst h
  have h0 : 0 ≤ D3 l key := by omega
  obtain ⟨h1, h2, h3⟩ := A3S h0
  have hs := A3U (x := P3) h1
  unfold A9F at hs
  rw [if_pos h2, if_neg (by simp [P3])] at hs
  exact ⟨h0, A0L h0, rfl, by simpa using hs⟩
theorem B9y {l u : List EnV} {x : EnV} (h1 : x.st = 1) (hp : F6 l x = some u) : (0 ≤ D3 l x.key ∧ (e9 l x.key :: D1 u).Perm (x :: D1 l)) ∨ (D3 l x.key < 0 ∧ (D1 u).Perm (x :: D1 l)) := by
 obtain ⟨j, hj, rfl, hf, hc⟩ := A92 hp h1
 have hj1 : l[j]? = some l[j] := List.getElem?_eq_getElem hj
 have hs := A3U (x := x) hj1
 unfold A9F at hs
 rw [if_pos h1] at hs
 rcases hc with hc | ⟨hc, hr⟩
 ·left
  have h0 : 0 ≤ D3 l x.key := by omega
  obtain ⟨e1, e2, e3⟩ := A3S h0
  have : (D3 l x.key).toNat = j := by omega
  rw [this, hj1] at e1
  injection e1 with e1
  rw [e1, if_pos e2] at hs
  exact ⟨h0, by simpa using hs⟩
 ·right
  refine ⟨hc, ?_⟩
  have hm : ∀ L, P0 L = (j : Nat) → ∃ y, (j, y) ∈ L ∧ y.st ≠ 1 := by
   intro L
   induction L with
   | nil => intro h; simp [P0] at h <;> omega
   | cons p L ih =>
    intro h
    simp only [P0] at h
    split at h
    ·obtain ⟨y, h1, h2⟩ := ih h; exact ⟨y, List.mem_cons_of_mem _ h1, h2⟩
    ·rename_i c2
     have : p.1 = j := by omega
     exact ⟨p.2, by rw [← this]; simp, c2⟩
  obtain ⟨y, h2, h3⟩ := hm _ hr
  have h4 := B2Z h2
  rw [hj1] at h4
  injection h4 with h4
  rw [if_neg (by rw [h4]; exact h3)] at hs
  simpa using hs
structure Decided (l u : List EnV) (key : ByteArray) (made : Bool) : Prop where
 up : (D1 u).length ≤ (D1 l).length + 1
 down : (D1 l).length ≤ (D1 u).length + 1
 new : (D1 l).length < (D1 u).length → made = true
 from' : ∀ x ∈ D1 u, x ∈ D1 l ∨ x.key = key
theorem Decided.refl (l : List EnV) (key : ByteArray) (made : Bool) : Decided l l key made := ⟨by omega, by omega, by omega, fun x hx => Or.inl hx⟩
theorem B3c {l : List EnV} {p : List G2} {key : ByteArray} {now : Int} (h : D3 l key < 0) : (H8 l p key now).2 = false := by
 unfold H8; rw [if_pos (Or.inl h)]
theorem C0S {n : Nat} {l : List EnV} {p : List G2} {key : ByteArray} {closing : Bool} {now idle : Int} (h : TabOk n l) (hk : key.size < 2 ^ 60) :
  TabOk n (D6 l p key closing now idle).1 ∧ Decided l (D6 l p key closing now idle).1 key (D6 l p key closing now idle).2.1.made := by
 unfold D6
 split
 ·exact ⟨h, .refl _ _ _⟩
 ·split
  ·unfold A1v
   cases hd : U7 l key with
   | none => exact ⟨h, .refl _ _ _⟩
   | some u =>
    obtain ⟨h0, hlt, rfl, hp⟩ := C1U hd
    have ht := h.tomb hlt
    have hp2 := (ht.perm.cons (e9 l key)).trans hp
    have hl := hp2.length_eq
    simp only [List.length_cons] at hl
    exact ⟨ht.settle, by simp only; omega, by simp only; omega, fun h => by simp only at h; omega, fun x hx => Or.inl (hp2.subset (List.mem_cons_of_mem _ hx))⟩
  ·cases hp : F6 l (A7M l p key now idle) with
   | none => exact ⟨h, .refl _ _ _⟩
   | some u =>
    refine ⟨h.put hk rfl hp, ?_⟩
    rcases B9y (x := A7M l p key now idle) rfl hp with ⟨h0, h1⟩ | ⟨h0, h1⟩
    ·have hl := h1.length_eq
     simp only [List.length_cons] at hl
     exact ⟨by simp only; omega, by simp only; omega, fun h => by simp only at h; omega, fun x hx => by
      rcases List.mem_cons.1 (h1.subset (List.mem_cons_of_mem _ hx)) with rfl | h2
      ·exact Or.inr rfl
      ·exact Or.inl h2⟩
    ·have hl := h1.length_eq
     simp only [List.length_cons] at hl
     exact ⟨by simp only; omega, by simp only; omega, fun h => by simp [B3c (p := p) (now := now) (show D3 l key < 0 from h0)], fun x hx => by
      rcases List.mem_cons.1 (h1.subset hx) with rfl | h2
      ·exact Or.inr rfl
      ·exact Or.inl h2⟩
def A2u (now : Int) (l u : List EnV) (k : Nat) : Prop := ∃ r, (r ++ D1 u).Perm (D1 l) ∧ (∀ x ∈ r, A1x x now = true) ∧ r.length = k
theorem A2u.trans {now : Int} {a b c : List EnV} {i j : Nat} (h : A2u now a b i) (h' : A2u now b c j) : A2u now a c (i + j) := by
 obtain ⟨r, h1, h2, h3⟩ := h
 obtain ⟨s, h4, h5, h6⟩ := h'
 refine ⟨r ++ s, ?_, ?_, by rw [List.length_append, h3, h6]⟩
 ·rw [List.append_assoc]; exact (h4.append_left r).trans h1
 ·intro x hx
  rcases List.mem_append.1 hx with hx | hx
  ·exact h2 x hx
  ·exact h5 x hx
theorem C4q {n : Nat} {l : List EnV} {now : Int} {c j : Nat} (h : TabOk n l) (hj : j < l.length) : TabOk n (P7 now (l, c) j).1 ∧ ∃ k, (P7 now (l, c) j).2 = c + k ∧ A2u now l (P7 now (l, c) j).1 k ∧ (∀ i x, (P7 now (l, c) j).1[i]? = some x → A1x x now = true → i ≠ j ∧ l[i]? = some x) := by
 have hj1 : l[j]? = some l[j] := List.getElem?_eq_getElem hj
 have hd : l.getD j p5 = l[j] := by rw [List.getD_eq_getElem?_getD, hj1]; rfl
 unfold P7
 simp only [hd]
 by_cases c1 : A1x l[j] now = true
 ·rw [if_pos c1]
  have hst : l[j].st = 1 := by unfold A1x at c1; simp at c1; exact c1.1
  have hs := A3U (x := P3) hj1
  unfold A9F at hs
  rw [if_pos hst, if_neg (by simp [P3])] at hs
  refine ⟨h.tomb hj, 1, rfl, ⟨[l[j]], by simpa using hs, by simpa using c1, rfl⟩, fun i x hx hdx => ?_⟩
  rcases getElem?_set_some hx with ⟨_, rfl⟩ | h2
  ·simp [A1x, P3] at hdx
  ·exact h2
 ·rw [if_neg c1]
  refine ⟨h, 0, rfl, ⟨[], by simp, by simp, rfl⟩, fun i x hx hdx => ⟨fun e => ?_, hx⟩⟩
  subst e
  rw [hj1] at hx
  injection hx with hx
  rw [hx] at c1
  exact c1 hdx
theorem C5g {n : Nat} {now : Int} : ∀ (L : List Nat) (l : List EnV) (c : Nat), TabOk n l → (∀ j ∈ L, j < n) → TabOk n (L.foldl (P7 now) (l, c)).1 ∧ ∃ k, (L.foldl (P7 now) (l, c)).2 = c + k ∧ A2u now l (L.foldl (P7 now) (l, c)).1 k ∧ (∀ i x, (L.foldl (P7 now) (l, c)).1[i]? = some x → A1x x now = true → i ∉ L ∧ l[i]? = some x) := by
 intro L
 induction L with
 | nil => intro l c h _; exact ⟨h, 0, rfl, ⟨[], by simp, by simp, rfl⟩, fun i x hx _ => ⟨by simp, hx⟩⟩
 | cons j L ih =>
  intro l c h hL
  obtain ⟨h1, k, h2, h3, h3'⟩ := C4q (now := now) (c := c) h (by rw [h.len]; exact hL j (List.mem_cons_self ..))
  obtain ⟨h4, k', h5, h6, h6'⟩ := ih (P7 now (l, c) j).1 (P7 now (l, c) j).2 h1 fun q hq => hL q (List.mem_cons_of_mem _ hq)
  rw [List.foldl_cons]
  refine ⟨h4, k + k', by rw [h5, h2]; omega, h3.trans h6, fun i x hx hd => ?_⟩
  obtain ⟨a, b⟩ := h6' i x hx hd
  obtain ⟨c, d⟩ := h3' i x b hd
  exact ⟨by simp [a, c], d⟩
theorem A2u.zero {now : Int} {l u : List EnV} (h : (D1 u).Perm (D1 l)) : A2u now l u 0 := ⟨[], h, by simp, rfl⟩
theorem C3G {f n m : Nat} (hm : 0 < m) : ∀ j ∈ N3 f n m, j < m := fun j hj => by
 unfold N3 at hj
 obtain ⟨i, _, rfl⟩ := List.mem_map.1 hj
 exact Nat.mod_lt _ hm
theorem C2A {n : Nat} {l : List EnV} {f k now : Int} (h : TabOk n l) (hn : 0 < n) : TabOk n (D9 l f k now).1 ∧ A2u now l (D9 l f k now).1 (D9 l f k now).2.2 := by
 obtain ⟨h1, q, h2, h3⟩ : TabOk n (W0 l (F8 l f) (Q6 l k) now).1 ∧ ∃ q, (W0 l (F8 l f) (Q6 l k) now).2 = q ∧ A2u now l (W0 l (F8 l f) (Q6 l k) now).1 q := by
  obtain ⟨h1, q, h2, h3, _⟩ := C5g (now := now) (N3 (F8 l f) (Q6 l k) l.length) l 0 h (by rw [← h.len]; exact C3G (by rw [h.len]; exact hn))
  exact ⟨h1, q, by rw [Nat.zero_add] at h2; exact h2, h3⟩
 unfold D9
 simp only
 by_cases c : 0 < (W0 l (F8 l f) (Q6 l k) now).2
 ·rw [if_pos c]
  refine ⟨h1.settle, ?_⟩
  have := h3.trans (A2u.zero (now := now) h1.perm)
  rw [h2]; simpa using this
 ·rw [if_neg c]
  exact ⟨h1, by rw [h2]; exact h3⟩
structure Inv (c : CfgV) (s : MoS) : Prop where
 cfg : s.c = c
 ok : W9 c = true
 pool : N8 s.pool = 0
 sh : (s.tabs.length : Int) = c.sh
 tab : ∀ t ∈ s.tabs, TabOk c.cp.toNat t.1
 own : ∀ (i : Nat) t, s.tabs[i]? = some t → ∀ x ∈ D1 t.1, N6 x.key c.sh = i
theorem A2S {c : CfgV} (h : W9 c = true) : 1 ≤ c.wk ∧ c.wk ≤ 64 ∧ 1 ≤ c.sh ∧ c.sh ≤ 16 ∧ 1 ≤ c.cp ∧ c.cp ≤ 64 ∧ 0 ≤ c.idle ∧ c.idle ≤ 1000000 := by
 simp [W9, W6] at h; omega
theorem Inv.new {c : CfgV} (h : W9 c = true) : Inv c ⟨c, [], x6 c⟩ := by
 have hb := A2S h
 refine ⟨rfl, h, rfl, by simp [x6]; omega, fun t ht => ?_, fun i t ht x hx => ?_⟩
 ·rw [x6] at ht
  rw [(List.mem_replicate.1 ht).2]
  exact TabOk.new (by omega)
 ·have ht := List.mem_of_getElem? ht
  rw [x6] at ht
  rw [(List.mem_replicate.1 ht).2, A3T] at hx
  cases hx
theorem C2B {key : ByteArray} {n : Int} (h : 1 ≤ n) : N6 key n < n.toNat := by
 unfold N6; rw [if_neg (by omega)]; exact Nat.mod_lt _ (by omega)
theorem Inv.set {c : CfgV} {s : MoS} (h : Inv c s) {i : Nat} {t u : List EnV × Nat} (ht : s.tabs[i]? = some t) (hu : TabOk c.cp.toNat u.1) (hf : ∀ x ∈ D1 u.1, x ∈ D1 t.1 ∨ N6 x.key c.sh = i) : Inv c { s with tabs := s.tabs.set i u } := by
 refine ⟨h.cfg, h.ok, h.pool, by rw [List.length_set]; exact h.sh, fun v hv => ?_, fun j v hv x hx => ?_⟩
 ·rcases List.mem_or_eq_of_mem_set hv with h1 | rfl
  ·exact h.tab v h1
  ·exact hu
 ·rcases getElem?_set_some hv with ⟨rfl, rfl⟩ | ⟨_, h2⟩
  ·rcases hf x hx with h1 | h1
   ·exact h.own j t ht x h1
   ·exact h1
  ·exact h.own j v h2 x hx
theorem Inv.at {c : CfgV} {s : MoS} (h : Inv c s) {i : Nat} (hi : i < c.sh.toNat) : s.tabs[i]? = some (s.tabs.getD i ([], 0)) := getD_some _ (by have := h.sh; omega)
theorem Inv.do' {c : CfgV} {s : MoS} (h : Inv c s) (o : OpV) (now : Int) : Inv c (M2 s o now).1 := by
 have hb := A2S h.ok
 obtain ⟨sc, sp, st⟩ := s
 obtain rfl : sc = c := h.cfg
 unfold M2
 split
 ·unfold r6
  simp only
  split
  ·exact h
  ·have hi := C2B (key := A32 (C9 o.packet).1) hb.2.2.1
   have hat := h.at hi
   have ht := h.tab _ (List.mem_of_getElem? hat)
   obtain ⟨h1, h2⟩ := C0S (p := sp) (closing := T8 (C9 o.packet).1 (C9 o.packet).2.1) (now := now) (idle := sc.idle) ht (A6k (C9 o.packet).1)
   exact h.set (u := (_, _)) hat h1 fun x hx => by
    rcases h2.from' x hx with h3 | h3
    ·exact Or.inl h3
    ·exact Or.inr (by rw [h3])
 split
 ·unfold A7Y
  split
  ·rename_i hc
   exact ⟨h.cfg, h.ok, hc, h.sh, h.tab, h.own⟩
  ·exact h
 split
 ·unfold A11
  split
  ·exact h
  ·rename_i hc
   have hat := h.at (i := o.shard.toNat) (by have := h.sh; omega)
   have ht := h.tab _ (List.mem_of_getElem? hat)
   simp only
   obtain ⟨h1, h2⟩ := C2A (f := (st.getD o.shard.toNat ([], 0)).2) (k := 4) (now := now) ht (by omega)
   refine h.set (u := (_, _)) hat h1 fun x hx => ?_
   obtain ⟨r, h3, _⟩ := h2
   exact Or.inl (h3.subset (List.mem_append_right _ hx))
 split
 ·exact h
 ·exact h
theorem Inv.ok2 {m : MoH} {c : CfgV} (h : Inv c m.st) : MoOk2 m := by
 have hb := A2S h.ok
 have hl : m.st.tabs.length = m.ts.length := by simp [MoH.st]
 have hsh := h.sh
 have hm : ∀ t ∈ m.ts, TabOk c.cp.toNat t.1.2 := fun t ht => h.tab (t.1.2, t.2) (List.mem_map.2 ⟨t, ht, rfl⟩)
 have hc : m.c = c := h.cfg
 have hp := h.pool
 refine ⟨⟨by omega, fun t ht => by rw [(hm t ht).len]; omega, fun t ht => (hm t ht).keys⟩, ?_, by rw [hc]; omega, by omega⟩
 have : m.st.pool = m.pool := rfl
 rw [this] at hp
 unfold N8 at hp
 split at hp
 ·rename_i hc; simp at hc; omega
 ·cases hp
end Go.Proofs.YtlplkjgcfjdinaaGreat
namespace Go.Proofs.YtlplkjgcfjdinaaGreat
open Go
section
variable {κ : Bool} {S : List Nat} {w0 w : World} {H Hk : List Res} {K : Value → WP}
theorem Part.skip {x : Res} {Hc : List Res} (h : Part Hc H Hk) : Part Hc (x :: H) (x :: Hk) := by
 induction h with
 | nil => exact Part.nil
 | cons h1 _ ih => exact Part.cons (Sel.there h1) ih
theorem B9j (s : MoS) (o : OpV) (now : Int) (h : o.kind = 0) : M2 s o now = r6 s o.packet now := by unfold M2; rw [if_pos h]
theorem C2v (s : MoS) (o : OpV) (now : Int) (h : o.kind = 1) : M2 s o now = A7Y s o.pool := by unfold M2; rw [if_neg (by omega), if_pos h]
theorem C26 (s : MoS) (o : OpV) (now : Int) (h : o.kind = 2) : M2 s o now = A11 s o.shard now := by unfold M2; rw [if_neg (by omega), if_neg (by omega), if_pos h]
theorem B9n (s : MoS) (o : OpV) (now : Int) (h : o.kind = 3) : M2 s o now = B1B s := by unfold M2; rw [if_neg (by omega), if_neg (by omega), if_neg (by omega), if_pos h]
theorem B9Z (s : MoS) (o : OpV) (now : Int) (h : o.kind < 0 ∨ 3 < o.kind) : M2 s o now = (s, ⟨1, 0, false, 0⟩) := by unfold M2; rw [if_neg (by omega), if_neg (by omega), if_neg (by omega), if_neg (by omega)]
theorem C4s {v : Value} {n : Nat} {xs : List Value} (h : D4 w v n xs) (hn : 0 < n → 0 < xs.length) : 0 < n → ∀ g ∈ P6 v, g < sz w := fun h0 g hg => by
 obtain ⟨a, c, rfl, hr⟩ := h.form
 obtain ⟨b, o, rfl, hrow⟩ := hr h0
 simp only [P6, List.mem_cons, List.not_mem_nil, or_false] at hg
 subst hg
 have h1 := hrow 0 (hn h0)
 rw [List.getElem?_eq_getElem (hn h0)] at h1
 obtain ⟨c', t', z', h1, h2⟩ := p7 h1
 exact M4 h1
theorem Inv.tabs {c : CfgV} {m : MoH} (hi : Inv c m.st) : ∀ t ∈ m.ts, TabOk c.cp.toNat t.1.2 := fun t ht => hi.tab (t.1.2, t.2) (List.mem_map.2 ⟨t, ht, rfl⟩)
theorem C8m {c : CfgV} (h0 : W9 c = false → TW false S w0 H (K (.tuple #[.pointer none, .int .i64 1])))
  (h1 : ∀ m : MoH, W9 c = true → m.st = ⟨c, [], x6 c⟩ → Inv c m.st → TW false S w0 (D2 m ++ H) (K (.tuple #[.pointer (some ⟨m.b, 0, none⟩), .int .i64 0]))) : TW false S w0 H (B2 PR B7 24 [c.val] K) := by
 refine F3 B6T (fun w' _ => C54 w' c) ?_
 rintro m u hm
 cases hc : W9 c with
 | false =>
  simp only [hc, Bool.false_eq_true, if_false] at hm ⊢
  subst hm
  exact h0 hc
 | true =>
  simp only [hc, if_true] at hm ⊢
  obtain ⟨rfl, hmc, hmp, hmt⟩ := hm
  have e : m.st = ⟨c, [], x6 c⟩ := by unfold MoH.st; rw [hmc, hmp, hmt]
  exact h1 m hc e (by rw [e]; exact Inv.new hc)
end
end Go.Proofs.YtlplkjgcfjdinaaGreat
namespace Go.Proofs.YtlplkjgcfjdinaaGreat
open Go
def A43 (o : OpV × Value) : List Value := [.int .i64 o.1.kind, .string o.1.packet, o.2, .int .i64 o.1.shard]
def C62 (o : OpV × Value) : Prop := ∃ a c, o.2 = .slice a o.1.pool.length c
def A4c (c : CfgV) : Bool := decide (c.wk ≤ 6) && decide (c.sh ≤ 6) && decide (c.cp ≤ 12)
def B2e (o : OpV) : Bool := decide (o.packet.size ≤ 100) && decide (o.pool.length ≤ 8)
def u6 (l : List OpV) (most : Int) : Bool := decide ((l.length : Int) ≤ most) && l.all B2e
theorem C4N (w : World) (c : CfgV) : Fn PR B7 19 #[c.val] w (fun r w' => r = .bool (A4c c) ∧ C6 [] w w') := by
 refine Fn.pure (A50 (TW.go (κ := false) (S := []) ?_))
 unfold A0l
 simp only [CfgV.val]
 by_cases c1 : c.wk ≤ 6
 ·by_cases c2 : c.sh ≤ 6
  ·(have zz:=trivial;repeat((first|clear zz|with_reducible first|refine A3 ?_|refine A4 fun _=>?_|refine A5 fun _=>?_);try simp(disch:=first|omega|assumption|((repeat(first|exact A1|exact uH|apply A2|apply uT));first|done|fail)|(simp;first|done|omega|fail))[c1, c2]))
   exact A9 (by simp [A4c, c1, c2])
  ·(have zz:=trivial;repeat((first|clear zz|with_reducible first|refine A3 ?_|refine A4 fun _=>?_|refine A5 fun _=>?_);try simp(disch:=first|omega|assumption|((repeat(first|exact A1|exact uH|apply A2|apply uT));first|done|fail)|(simp;first|done|omega|fail))[c1, c2]))
   exact A9 (by simp [A4c, c1, c2])
 ·(have zz:=trivial;repeat((first|clear zz|with_reducible first|refine A3 ?_|refine A4 fun _=>?_|refine A5 fun _=>?_);try simp(disch:=first|omega|assumption|((repeat(first|exact A1|exact uH|apply A2|apply uT));first|done|fail)|(simp;first|done|omega|fail))[c1]))
  exact A9 (by simp [A4c, c1])
theorem C4H (w : World) (v : Value) (l : List (OpV × Value)) (most : Int) (hn : l.length ≤ 9223372036854775807) (hv : D4 w v l.length (l.flatMap A43)) (hp : ∀ o ∈ l, C62 o) :
  Fn PR B7 18 #[v, .int .i64 most] w (fun r w' => r = .bool (u6 (l.map (·.1)) most) ∧ C6 [] w w') := by
 refine Fn.pure (A7u (TW.go (κ := false) (S := []) ?_))
 unfold A2A
 obtain ⟨a, c, rfl, hr⟩ := hv.form
 by_cases c0 : most < (l.length : Int)
 ·(have zz:=trivial;repeat((first|clear zz|with_reducible first|refine A3 ?_|refine A4 fun _=>?_|refine A5 fun _=>?_);try simp(disch:=first|omega|assumption|((repeat(first|exact A1|exact uH|apply A2|apply uT));first|done|fail)|(simp;first|done|omega|fail))[c0]))
  exact A9 (by simp [u6]; omega)
 (have zz:=trivial;repeat((first|clear zz|with_reducible first|refine A3 ?_|refine A4 fun _=>?_|refine A5 fun _=>?_);try simp(disch:=first|omega|assumption|((repeat(first|exact A1|exact uH|apply A2|apply uT));first|done|fail)|(simp;first|done|omega|fail))[c0]))
 refine H4 l.length (fun _ _ => .bool false) (fun _ (_ : Unit) => []) (fun i _ => ∀ (j : Nat) x, j < i → l[j]? = some x → B2e x.1 = true) () (by intros; omega) ?_
 rintro i _ hi hφ L hL
 by_cases hlt : i < l.length
 ·have hx := List.getElem?_eq_getElem hlt
  obtain ⟨b, o, rfl, hrow⟩ := hr (by omega)
  have h1 := hrow.cellAt (f := A43) (k := 4) (j := 1) (fun _ => rfl) hx rfl
  have h2 := hrow.cellAt (f := A43) (k := 4) (j := 2) (fun _ => rfl) hx rfl
  obtain ⟨pa, pc, hpl⟩ := hp l[i] (List.getElem_mem hlt)
  rw [hpl] at h2
  have bad : B2e l[i].1 = false → u6 (l.map (·.1)) most = false := fun h => by
   unfold u6
   rw [Bool.and_eq_false_iff]; right
   rw [List.all_eq_false]
   exact ⟨l[i].1, List.mem_map_of_mem (List.getElem_mem hlt), by simp [h]⟩
  by_cases c1 : (100 : Int) < l[i].1.packet.size
  ·(have zz:=trivial;repeat((first|clear zz|with_reducible first|refine A3 ?_|refine A4 fun _=>?_|refine A5 fun _=>?_);try simp(disch:=first|omega|assumption|((repeat(first|exact A1|exact uH|apply A2|apply uT));first|done|fail)|(simp;first|done|omega|fail))[hlt, h1, h2, c1]))
   exact A9 (by rw [bad (by simp [B2e]; omega)])
  by_cases c2 : (8 : Int) < l[i].1.pool.length
  ·(have zz:=trivial;repeat((first|clear zz|with_reducible first|refine A3 ?_|refine A4 fun _=>?_|refine A5 fun _=>?_);try simp(disch:=first|omega|assumption|((repeat(first|exact A1|exact uH|apply A2|apply uT));first|done|fail)|(simp;first|done|omega|fail))[hlt, h1, h2, c1, c2]))
   exact A9 (by rw [bad (by simp [B2e]; omega)])
  (have zz:=trivial;repeat((first|clear zz|with_reducible first|refine A3 ?_|refine A4 fun _=>?_|refine A5 fun _=>?_);try simp(disch:=first|omega|assumption|((repeat(first|exact A1|exact uH|apply A2|apply uT));first|done|fail)|(simp;first|done|omega|fail))[hlt, h1, h2, c1, c2]))
  refine hL hlt () fun j x hj hx' => ?_
  by_cases e : j < i
  ·exact hφ j x e hx'
  ·obtain rfl : j = i := by omega
   rw [hx] at hx'; injection hx' with hx'; subst hx'
   simp [B2e]; omega
 ·(have zz:=trivial;repeat((first|clear zz|with_reducible first|refine A3 ?_|refine A4 fun _=>?_|refine A5 fun _=>?_);try simp(disch:=first|omega|assumption|((repeat(first|exact A1|exact uH|apply A2|apply uT));first|done|fail)|(simp;first|done|omega|fail))[hlt]))
  refine A9 ?_
  have : u6 (l.map (·.1)) most = true := by
   unfold u6
   rw [Bool.and_eq_true]
   refine ⟨by simp; omega, ?_⟩
   rw [List.all_eq_true]
   intro x hx
   obtain ⟨y, hy, rfl⟩ := List.mem_map.1 hx
   obtain ⟨j, hj, e⟩ := List.getElem_of_mem hy
   exact hφ j y (by omega) (by simp [hj, e])
  rw [this]
end Go.Proofs.YtlplkjgcfjdinaaGreat
namespace Go.Proofs.YtlplkjgcfjdinaaGreat
open Go Go.ChangeShapes Go.WideShapes Go.ChangeAt Go.RowKit
set_option maxRecDepth 10000
section
variable {H : Type} {enc : TypeId × Value → H} {w : World} {base : Nat} {spare : Nat → Bool} {held : Bool} {fuel : Nat} {cs : List Value} {x : DataW H × List MemPlace}
theorem C3Q (h : DataW.trod enc PR w base spare held fuel 23 cs = some x) : ∃ c : CfgV, cs = [.int .i64 c.wk, .int .i64 c.sh, .int .i64 c.cp, .int .i64 c.idle, .int .i64 c.sl] ∧ True := by
 obtain ⟨xs, n, _, rfl, hl, hxl, hf⟩ := DataW.trod_struct A5L.und h
 have hl4 : cs.length = 5 := hl.trans (by kernel_rfl)
 have hx4 : xs.length = 5 := hxl.trans (by kernel_rfl)
 match cs, hl4 with
 | [c0, c1, c2, c3, c4], _ =>
  have f0 := hf 0 _ rfl
  have f1 := hf 1 _ rfl
  have f2 := hf 2 _ rfl
  have f3 := hf 3 _ rfl
  have f4 := hf 4 _ rfl
  rw [List.getElem?_eq_getElem (by omega)] at f0 f1 f2 f3 f4
  obtain ⟨a0, e0, _⟩ := K9 Tryz.underlying3 f0
  obtain ⟨a1, e1, _⟩ := K9 Tryz.underlying3 f1
  obtain ⟨a2, e2, _⟩ := K9 Tryz.underlying3 f2
  obtain ⟨a3, e3, _⟩ := K9 Tryz.underlying3 f3
  obtain ⟨a4, e4, _⟩ := K9 Tryz.underlying3 f4
  have e0 : [c0] = [.int .i64 a0] := e0
  have e1 : [c1] = [.int .i64 a1] := e1
  have e2 : [c2] = [.int .i64 a2] := e2
  have e3 : [c3] = [.int .i64 a3] := e3
  have e4 : [c4] = [.int .i64 a4] := e4
  cases e0; cases e1; cases e2; cases e3; cases e4
  exact ⟨⟨a0, a1, a2, a3, a4⟩, rfl, trivial⟩
theorem C6s (h : DataW.trod enc PR w base spare held fuel 52 cs = some x) : ∃ o : OpV × Value, cs = A43 o ∧ D4 w o.2 o.1.pool.length (o.1.pool.flatMap E7) := by
 obtain ⟨xs, n, _, rfl, hl, hxl, hf⟩ := DataW.trod_struct A88.und h
 have hl4 : cs.length = 4 := hl.trans (by kernel_rfl)
 have hx4 : xs.length = 4 := hxl.trans (by kernel_rfl)
 match cs, hl4 with
 | [c0, c1, c2, c3], _ =>
  have f0 := hf 0 _ rfl
  have f1 := hf 1 _ rfl
  have f2 := hf 2 _ rfl
  have f3 := hf 3 _ rfl
  rw [List.getElem?_eq_getElem (by omega)] at f0 f1 f2 f3
  obtain ⟨a0, e0, _⟩ := K9 Tryz.underlying3 f0
  obtain ⟨a1, e1, _⟩ := C09 Tryz.underlying9 f1
  obtain ⟨v, l, e2, hv, _⟩ := C4k f2
  obtain ⟨a3, e3, _⟩ := K9 Tryz.underlying3 f3
  have e0 : [c0] = [.int .i64 a0] := e0
  have e1 : [c1] = [.string a1] := e1
  have e2 : [c2] = [v] := e2
  have e3 : [c3] = [.int .i64 a3] := e3
  cases e0; cases e1; cases e2; cases e3
  exact ⟨(⟨a0, a1, l, a3⟩, c2), rfl, hv⟩
end
end Go.Proofs.YtlplkjgcfjdinaaGreat
namespace Go.Proofs.YtlplkjgcfjdinaaGreat
open Go
structure RecV where
 th : Int
 op : Int
 st : Int
 tk : Int
 en : Int
 nw : Int
 an : AnsV
 deriving DecidableEq
def H6 (x : RecV) : List Value := [.int .i64 x.th, .int .i64 x.op, .int .i64 x.st, .int .i64 x.tk, .int .i64 x.en, .int .i64 x.nw, .int .i64 x.an.err, .int .i64 x.an.bk, .bool x.an.made, .int .i64 x.an.count]
def RecV.cs (x : RecV) : Array Value := #[.int .i64 x.th, .int .i64 x.op, .int .i64 x.st, .int .i64 x.tk, .int .i64 x.en, .int .i64 x.nw, .int .i64 x.an.err, .int .i64 x.an.bk, .bool x.an.made, .int .i64 x.an.count]
def RecV.val (x : RecV) : Value := .agg x.cs
def A7V : RecV := ⟨0, 0, 0, 0, 0, 0, ⟨0, 0, false, 0⟩⟩
def G1 (l : List RecV) (i : Nat) : Int := (l.getD i A7V).tk
abbrev T5 := Value × List (OpV × Value)
def A1s (t : T5) : List Value := [t.1]
structure ThRd (w : World) (t : T5) : Prop where
 rd : D4 w t.1 t.2.length (t.2.flatMap A43)
 pool : ∀ o ∈ t.2, D4 w o.2 o.1.pool.length (o.1.pool.flatMap E7)
 len : t.2.length ≤ 9223372036854775807
theorem A4d {l : List RecV} {i : Nat} (h : i < l.length) : G1 l i = l[i].tk := by simp [G1, List.getD_eq_getElem?_getD, List.getElem?_eq_getElem h]
end Go.Proofs.YtlplkjgcfjdinaaGreat
namespace Go.Proofs.YtlplkjgcfjdinaaGreat
open Go Go.ChangeShapes Go.WideShapes Go.ChangeAt Go.RowKit
set_option maxRecDepth 10000
section
variable {H : Type} {enc : TypeId × Value → H} {w : World} {base : Nat} {spare : Nat → Bool} {held : Bool} {fuel : Nat} {cs : List Value} {x : DataW H × List MemPlace}
theorem C08 {P : Program} {t : TypeId} (ht : P.underlying t = some .bool) (h : DataW.trod enc P w base spare held fuel t cs = some x) : ∃ b : Bool, cs = [.bool b] := by
 obtain ⟨b, h1, h2⟩ := DataW.trod_bool ht h
 exact ⟨b, h1⟩
theorem C3K (h : DataW.trod enc PR w base spare held fuel 44 cs = some x) : ∃ a : AnsV, cs = [.int .i64 a.err, .int .i64 a.bk, .bool a.made, .int .i64 a.count] := by
 obtain ⟨xs, n, _, rfl, hl, hxl, hf⟩ := DataW.trod_struct A3y.und h
 have hl4 : cs.length = 4 := hl.trans (by kernel_rfl)
 have hx4 : xs.length = 4 := hxl.trans (by kernel_rfl)
 match cs, hl4 with
 | [c0, c1, c2, c3], _ =>
  have f0 := hf 0 _ rfl
  have f1 := hf 1 _ rfl
  have f2 := hf 2 _ rfl
  have f3 := hf 3 _ rfl
  rw [List.getElem?_eq_getElem (by omega)] at f0 f1 f2 f3
  obtain ⟨a0, e0, _⟩ := K9 Tryz.underlying42 f0
  obtain ⟨a1, e1, _⟩ := K9 Tryz.underlying3 f1
  obtain ⟨a2, e2⟩ := C08 Tryz.underlying4 f2
  obtain ⟨a3, e3, _⟩ := K9 Tryz.underlying3 f3
  have e0 : [c0] = [.int .i64 a0] := e0
  have e1 : [c1] = [.int .i64 a1] := e1
  have e2 : [c2] = [.bool a2] := e2
  have e3 : [c3] = [.int .i64 a3] := e3
  cases e0; cases e1; cases e2; cases e3
  exact ⟨⟨a0, a1, a2, a3⟩, rfl⟩
theorem C4J (h : DataW.trod enc PR w base spare held fuel 46 cs = some x) : ∃ r : RecV, cs = H6 r ∧ True := by
 obtain ⟨xs, n, _, rfl, hl, hxl, hf⟩ := DataW.trod_struct A7H.und h
 have hl4 : cs.length = 10 := hl.trans (by kernel_rfl)
 have hx4 : xs.length = 7 := hxl.trans (by kernel_rfl)
 match cs, hl4 with
 | [c0, c1, c2, c3, c4, c5, c6, c7, c8, c9], _ =>
  have f0 := hf 0 _ rfl
  have f1 := hf 1 _ rfl
  have f2 := hf 2 _ rfl
  have f3 := hf 3 _ rfl
  have f4 := hf 4 _ rfl
  have f5 := hf 5 _ rfl
  have f6 := hf 6 _ rfl
  rw [List.getElem?_eq_getElem (by omega)] at f0 f1 f2 f3 f4 f5 f6
  obtain ⟨a0, e0, _⟩ := K9 Tryz.underlying3 f0
  obtain ⟨a1, e1, _⟩ := K9 Tryz.underlying3 f1
  obtain ⟨a2, e2, _⟩ := K9 Tryz.underlying3 f2
  obtain ⟨a3, e3, _⟩ := K9 Tryz.underlying3 f3
  obtain ⟨a4, e4, _⟩ := K9 Tryz.underlying3 f4
  obtain ⟨a5, e5, _⟩ := K9 Tryz.underlying3 f5
  obtain ⟨a6, e6⟩ := C3K f6
  have e0 : [c0] = [.int .i64 a0] := e0
  have e1 : [c1] = [.int .i64 a1] := e1
  have e2 : [c2] = [.int .i64 a2] := e2
  have e3 : [c3] = [.int .i64 a3] := e3
  have e4 : [c4] = [.int .i64 a4] := e4
  have e5 : [c5] = [.int .i64 a5] := e5
  have g6 : [c6, c7, c8, c9] = [.int .i64 a6.err, .int .i64 a6.bk, .bool a6.made, .int .i64 a6.count] := e6
  cases e0; cases e1; cases e2; cases e3; cases e4; cases e5
  clear e6
  simp only [List.cons.injEq, and_true] at g6
  obtain ⟨rfl, rfl, rfl, rfl⟩ := g6
  exact ⟨⟨a0, a1, a2, a3, a4, a5, a6⟩, rfl, trivial⟩
theorem B5q {r : Reach} {b0 : Nat} {v : Value} {d : DataW H} {ps : List MemPlace} (hval : Value.okWide PR w r b0 28 v) (hd : DataW.Trod enc PR w base spare held 28 v d ps) : ∃ l : List RecV, D4 w v l.length (l.flatMap H6) ∧ True ∧ l.length ≤ maxLen := by
 obtain ⟨l, h1, h2, h3⟩ := B9w (f := H6) (Q := fun l => (∀ a ∈ l, True) ∧ l.length ≤ maxLen) Tryz.underlying28 hval hd fun _ _ _ h => B1C (f := H6) (k := 10) (Q := fun _ => True) (fun _ => rfl) (by omega) Tryz.underlying28 (by kernel_rfl) h (fun n cs' y hy => C4J hy)
 exact ⟨l, h1, trivial, h3⟩
theorem C4D (h : DataW.trod enc PR w base spare held fuel 53 cs = some x) : ∃ t : T5, cs = A1s t ∧ ThRd w t := by
 obtain ⟨v, l, h1, h2, h3, h4⟩ := B1C (f := A43) (k := 4) (Q := fun o => D4 w o.2 o.1.pool.length (o.1.pool.flatMap E7)) (fun _ => rfl) (by omega) Tryz.underlying53 (by kernel_rfl) h (fun n cs' y hy => C6s hy)
 exact ⟨(v, l), h1, h2, h3, h4⟩
structure ScrRd (w : World) (tv pv : Value) (ts : List T5) : Prop where
 rd : D4 w tv ts.length (ts.flatMap A1s)
 thr : ∀ t ∈ ts, ThRd w t
 len : ts.length ≤ 9223372036854775807
 picks : ∃ a n c, pv = .slice a n c ∧ n ≤ 9223372036854775807
def C4P (c : CfgV) (tv pv : Value) : Value := .agg #[.int .i64 c.wk, .int .i64 c.sh, .int .i64 c.cp, .int .i64 c.idle, .int .i64 c.sl, tv, pv]
theorem B6n {r : Reach} {b0 : Nat} {v : Value} {d : DataW H} {ps : List MemPlace} (hval : Value.okWide PR w r b0 27 v) (hd : DataW.Trod enc PR w base spare held 27 v d ps) : ∃ s : CfgV × Value × Value × List T5, v = C4P s.1 s.2.1 s.2.2.1 ∧ ScrRd w s.2.1 s.2.2.1 s.2.2.2 := by
 obtain ⟨cs', e, _⟩ := okWide_struct B4m.und hval
 obtain ⟨fuel, hf0⟩ := hd
 obtain ⟨xs, n, _, _, hl, hxl, hf⟩ := DataW.trod_struct B4m.und hf0
 have e : v = .agg cs' := e
 subst e
 have ec : (Value.agg cs').cells.toList = cs'.toList := rfl
 rw [ec] at hl hf
 generalize hcs : cs'.toList = cs at *
 have hl4 : cs.length = 7 := hl.trans (by kernel_rfl)
 have hx4 : xs.length = 3 := hxl.trans (by kernel_rfl)
 match cs, hl4 with
 | [c0, c1, c2, c3, c4, c5, c6], _ =>
  have f0 := hf 0 _ rfl
  have f1 := hf 1 _ rfl
  have f2 := hf 2 _ rfl
  rw [List.getElem?_eq_getElem (by omega)] at f0 f1 f2
  obtain ⟨c, e0, _⟩ := C3Q f0
  obtain ⟨tv, ts, e1, ht1, ht2, ht3⟩ := B1C (f := A1s) (k := 1) (Q := ThRd w) (fun _ => rfl) (by omega) Tryz.underlying24 (by kernel_rfl) f1 (fun n cs' y hy => C4D hy)
  have g0 : [c0, c1, c2, c3, c4] = [.int .i64 c.wk, .int .i64 c.sh, .int .i64 c.cp, .int .i64 c.idle, .int .i64 c.sl] := e0
  have g1 : [c5] = [tv] := e1
  have hpk : ∃ a n k, c6 = .slice a n k ∧ n ≤ 9223372036854775807 := by
   rcases Go.Deep.open_slice Tryz.underlying25 f2 with ⟨h, _⟩ | ⟨a, len, cap, m, n, D, Pl, h, hb, hl, hm, hmm, _, hx⟩
   ·have h : [c6] = [Value.slice none 0 0] := h
    exact ⟨none, 0, 0, by injection h, by omega⟩
   ·have h : [c6] = [Value.slice (some a) len cap] := h
    exact ⟨_, _, _, by injection h, by simp only [maxLen] at *; omega⟩
  clear e0 e1
  simp only [List.cons.injEq, and_true] at g0 g1
  obtain ⟨rfl, rfl, rfl, rfl, rfl⟩ := g0
  subst g1
  refine ⟨(c, c5, c6, ts), ?_, ht1, ht2, by simp only [maxLen] at ht3; omega, hpk⟩
  have : cs' = #[.int .i64 c.wk, .int .i64 c.sh, .int .i64 c.cp, .int .i64 c.idle, .int .i64 c.sl, c5, c6] := by
   rw [← Array.toList_inj]; exact hcs
  rw [this]; rfl
end
end Go.Proofs.YtlplkjgcfjdinaaGreat
namespace Go.Proofs.YtlplkjgcfjdinaaGreat
open Go
def A59 (l : List Nat) (i j : Nat) : List Nat := (l.set i (l.getD j 0)).set j (l.getD i 0)
theorem B0K (l : List Nat) (i j : Nat) : (A59 l i j).length = l.length := by simp [A59]
theorem B6w (l : List Nat) (i j x : Nat) (hi : i < l.length) : (l.set i x).getD j 0 = if j = i then x else l.getD j 0 := by
 simp only [List.getD_eq_getElem?_getD, List.getElem?_set]
 by_cases h : i = j
 ·subst h; simp [hi]
 ·rw [if_neg h, if_neg (Ne.symm h)]
theorem B0x (l : List Nat) (i j t : Nat) (hi : i < l.length) (hj : j < l.length) : (A59 l i j).getD t 0 = if t = j then l.getD i 0 else if t = i then l.getD j 0 else l.getD t 0 := by
 unfold A59
 rw [B6w _ _ _ _ (by simpa using hj), B6w _ _ _ _ hi]
theorem B0z {l l' : List Nat} (h : l.length = l'.length) (he : ∀ t, t < l.length → l.getD t 0 = l'.getD t 0) : l = l' := by
 apply List.ext_getElem h
 intro t h1 h2
 have := he t h1
 simpa [List.getD_eq_getElem?_getD, List.getElem?_eq_getElem h1, List.getElem?_eq_getElem h2] using this
def n5 (s m e t : Nat) : Nat := if t < s then t else if t < s + (e - m) then m + (t - s) else if t < e then t - (e - m) else t
def Q3 (l : List Nat) (s m e : Nat) : List Nat := l.take s ++ ((l.drop m).take (e - m) ++ ((l.drop s).take (m - s) ++ l.drop e))
theorem r7 {l : List Nat} {s m e : Nat} (h1 : s ≤ m) (h2 : m ≤ e) (h3 : e ≤ l.length) : (Q3 l s m e).length = l.length := by simp [Q3]; omega
theorem A29 (a b : List Nat) (t : Nat) : (a ++ b).getD t 0 = if t < a.length then a.getD t 0 else b.getD (t - a.length) 0 := by
 simp only [List.getD_eq_getElem?_getD, List.getElem?_append]; split <;> rfl
theorem A15 (l : List Nat) (n t : Nat) (h : t < n) : (l.take n).getD t 0 = l.getD t 0 := by
 simp only [List.getD_eq_getElem?_getD, List.getElem?_take_of_lt h]
theorem A2G (l : List Nat) (n t : Nat) : (l.drop n).getD t 0 = l.getD (n + t) 0 := by
 simp only [List.getD_eq_getElem?_getD, List.getElem?_drop]
theorem V4 {l : List Nat} {s m e : Nat} (h1 : s ≤ m) (h2 : m ≤ e) (h3 : e ≤ l.length) (t : Nat) : (Q3 l s m e).getD t 0 = l.getD (n5 s m e t) 0 := by
 have a1 : (l.take s).length = s := by simp; omega
 have a2 : ((l.drop m).take (e - m)).length = e - m := by simp; omega
 have a3 : ((l.drop s).take (m - s)).length = m - s := by simp; omega
 unfold Q3 n5
 rw [A29, a1]
 by_cases c1 : t < s
 ·rw [if_pos c1, if_pos c1, A15 _ _ _ c1]
 rw [if_neg c1, if_neg c1, A29, a2]
 by_cases c2 : t < s + (e - m)
 ·rw [if_pos (by omega), if_pos c2, A15 _ _ _ (by omega), A2G]
 rw [if_neg (by omega), if_neg c2, A29, a3]
 by_cases c3 : t < e
 ·rw [if_pos (by omega), if_pos c3, A15 _ _ _ (by omega), A2G]; congr 1; omega
 rw [if_neg (by omega), if_neg c3, A2G]; congr 1; omega
theorem C1e {l : List Nat} {s m e : Nat} (h1 : s ≤ m) (h2 : m ≤ e) (h3 : e ≤ l.length) : (Q3 l s m e).Perm l := by
 have e1 : l = l.take s ++ ((l.drop s).take (m - s) ++ ((l.drop m).take (e - m) ++ l.drop e)) := by
  apply B0z
  ·simp; omega
  ·intro t ht
   rw [A29, A29, A29]
   have a1 : (l.take s).length = s := by simp; omega
   have a2 : ((l.drop m).take (e - m)).length = e - m := by simp; omega
   have a3 : ((l.drop s).take (m - s)).length = m - s := by simp; omega
   rw [a1, a2, a3]
   by_cases c1 : t < s
   ·rw [if_pos c1, A15 _ _ _ c1]
   rw [if_neg c1]
   by_cases c2 : t - s < m - s
   ·rw [if_pos c2, A15 _ _ _ c2, A2G]; congr 1; omega
   rw [if_neg c2]
   by_cases c3 : t - s - (m - s) < e - m
   ·rw [if_pos c3, A15 _ _ _ c3, A2G]; congr 1; omega
   rw [if_neg c3, A2G]; congr 1; omega
 conv => rhs; rw [e1]
 unfold Q3
 refine List.Perm.append_left _ ?_
 rw [← List.append_assoc, ← List.append_assoc]
 exact List.Perm.append_right _ List.perm_append_comm
def l9 (l : List Nat) (x y : Nat) : Nat → List Nat
 | 0 => l
 | n + 1 => A59 (l9 l x y n) (x + n) (y + n)
def swI (x y n t : Nat) : Nat := if x ≤ t ∧ t < x + n then y + (t - x) else if y ≤ t ∧ t < y + n then x + (t - y) else t
theorem A0S (l : List Nat) (x y n : Nat) : (l9 l x y n).length = l.length := by
 induction n with
 | zero => rfl
 | succ n ih => rw [l9, B0K, ih]
theorem B0b {l : List Nat} {x y n : Nat} (h1 : x + n ≤ y) (h2 : y + n ≤ l.length) (t : Nat) : (l9 l x y n).getD t 0 = l.getD (swI x y n t) 0 := by
 induction n generalizing t with
 | zero =>
  have e : swI x y 0 t = t := by unfold swI; rw [if_neg (by omega), if_neg (by omega)]
  rw [e]; rfl
 | succ n ih =>
  have hl := A0S l x y n
  rw [l9, B0x _ _ _ _ (by omega) (by omega), ih (by omega) (by omega), ih (by omega) (by omega), ih (by omega) (by omega)]
  by_cases c1 : t = y + n
  ·rw [if_pos c1]; congr 1; unfold swI; repeat' split
   all_goals omega
  rw [if_neg c1]
  by_cases c2 : t = x + n
  ·rw [if_pos c2]; congr 1; unfold swI; repeat' split
   all_goals omega
  rw [if_neg c2]; congr 1; unfold swI; repeat' split
  all_goals omega
theorem C7m {l : List Nat} {m i j : Nat} (hi : i ≤ m) (h : j < i) (hl : m + j ≤ l.length) : Q3 (l9 l (m - i) m j) (m - i + j) m (m + j) = Q3 l (m - i) m (m + j) := by
 have e := A0S l (m - i) m j
 apply B0z
 ·rw [r7 (by omega) (by omega) (by omega), r7 (by omega) (by omega) (by omega), e]
 intro t ht
 rw [V4 (by omega) (by omega) (by omega), V4 (by omega) (by omega) (by omega), B0b (by omega) (by omega)]
 congr 1; unfold n5 swI; repeat' split
 all_goals omega
theorem C7Y {l : List Nat} {m i j : Nat} (hi : i ≤ m) (h : i < j) (hl : m + j ≤ l.length) : Q3 (l9 l (m - i) (m + j - i) i) (m - i) m (m + j - i) = Q3 l (m - i) m (m + j) := by
 have e := A0S l (m - i) (m + j - i) i
 apply B0z
 ·rw [r7 (by omega) (by omega) (by omega), r7 (by omega) (by omega) (by omega), e]
 intro t ht
 rw [V4 (by omega) (by omega) (by omega), V4 (by omega) (by omega) (by omega), B0b (by omega) (by omega)]
 congr 1; unfold n5 swI; repeat' split
 all_goals omega
theorem C63 {l : List Nat} {m i : Nat} (hi : i ≤ m) (hl : m + i ≤ l.length) : l9 l (m - i) m i = Q3 l (m - i) m (m + i) := by
 apply B0z
 ·rw [A0S, r7 (by omega) (by omega) (by omega)]
 intro t ht
 rw [V4 (by omega) (by omega) (by omega), B0b (by omega) (by omega)]
 congr 1; unfold n5 swI; repeat' split
 all_goals omega
def u5 (key : Nat → Int) (x y : Nat) : Prop := key x < key y ∨ key x = key y ∧ x < y
theorem u5.trans {key : Nat → Int} {x y z : Nat} (h : u5 key x y) (h' : u5 key y z) : u5 key x z := by unfold u5 at *; omega
def M8 (key : Nat → Int) (l : List Nat) (a b : Nat) : Prop := ∀ i j, a ≤ i → i < j → j < b → u5 key (l.getD i 0) (l.getD j 0)
def St (key : Nat → Int) (l : List Nat) (a m b : Nat) : Prop := ∀ i j, a ≤ i → i < m → m ≤ j → j < b → key (l.getD i 0) = key (l.getD j 0) → l.getD i 0 < l.getD j 0
structure Mix (l : List Nat) (a b : Nat) (l' : List Nat) : Prop where
 len : l'.length = l.length
 out : ∀ i, i < a ∨ b ≤ i → l'.getD i 0 = l.getD i 0
 ins : ∀ i, a ≤ i → i < b → ∃ j, a ≤ j ∧ j < b ∧ l'.getD i 0 = l.getD j 0
 perm : l'.Perm l
theorem Mix.refl (l : List Nat) (a b : Nat) : Mix l a b l := ⟨rfl, fun _ _ => rfl, fun i h1 h2 => ⟨i, h1, h2, rfl⟩, List.Perm.refl _⟩
theorem Mix.trans {l l1 l2 : List Nat} {a b : Nat} (h : Mix l a b l1) (h' : Mix l1 a b l2) : Mix l a b l2 :=
 ⟨h'.len.trans h.len, fun i hi => (h'.out i hi).trans (h.out i hi), fun i h1 h2 => by
  obtain ⟨j, j1, j2, e⟩ := h'.ins i h1 h2
  obtain ⟨k, k1, k2, e'⟩ := h.ins j j1 j2
  exact ⟨k, k1, k2, e.trans e'⟩, h'.perm.trans h.perm⟩
theorem Mix.wide {l l' : List Nat} {a b a' b' : Nat} (h : Mix l a b l') (h1 : a' ≤ a) (h2 : b ≤ b') : Mix l a' b' l' :=
 ⟨h.len, fun i hi => h.out i (by omega), fun i i1 i2 => by
  by_cases c : a ≤ i ∧ i < b
  ·obtain ⟨j, j1, j2, e⟩ := h.ins i c.1 c.2
   exact ⟨j, by omega, by omega, e⟩
  ·exact ⟨i, i1, i2, h.out i (by omega)⟩, h.perm⟩
theorem B9V {s m e i : Nat} (h1 : s ≤ m) (h2 : m ≤ e) (i1 : s ≤ i) (i2 : i < e) : s ≤ n5 s m e i ∧ n5 s m e i < e := by
 unfold n5; repeat' split
 all_goals omega
theorem B7l {s m e i : Nat} (h1 : s ≤ m) (h2 : m ≤ e) (h : i < s ∨ e ≤ i) : n5 s m e i = i := by
 unfold n5; repeat' split
 all_goals omega
theorem B4T {l : List Nat} {s m e : Nat} (h1 : s ≤ m) (h2 : m ≤ e) (h3 : e ≤ l.length) : Mix l s e (Q3 l s m e) :=
 ⟨r7 h1 h2 h3, fun i hi => by rw [V4 h1 h2 h3, B7l h1 h2 hi], fun i i1 i2 => ⟨_, (B9V h1 h2 i1 i2).1, (B9V h1 h2 i1 i2).2, V4 h1 h2 h3 i⟩, C1e h1 h2 h3⟩
structure Halves (key : Nat → Int) (l : List Nat) (a s mid e b : Nat) : Prop where
 s1 : M8 key l a s
 s2 : M8 key l s mid
 st1 : St key l a s mid
 s3 : M8 key l mid e
 s4 : M8 key l e b
 st2 : St key l mid e b
 cross : ∀ i j, a ≤ i → i < mid → mid ≤ j → j < b → u5 key (l.getD i 0) (l.getD j 0)
theorem B7Z {s m e t : Nat} (h : t < s) : n5 s m e t = t := by unfold n5; rw [if_pos h]
theorem B7w {s m e t : Nat} (h : s ≤ t) (h' : t < s + (e - m)) : n5 s m e t = m + (t - s) := by unfold n5; rw [if_neg (by omega), if_pos h']
theorem B4B {s m e t : Nat} (h1 : s ≤ m) (h : s + (e - m) ≤ t) (h' : t < e) : n5 s m e t = t - (e - m) := by unfold n5; rw [if_neg (by omega), if_neg (by omega), if_pos h']
theorem B43 {s m e t : Nat} (h1 : s ≤ m) (h2 : m ≤ e) (h : e ≤ t) : n5 s m e t = t := B7l h1 h2 (Or.inr h)
theorem C7V {key : Nat → Int} {l : List Nat} {a s m e b : Nat} (ha : a ≤ s) (h1 : s ≤ m) (h2 : m ≤ e) (hb : e ≤ b) (hl : b ≤ l.length) (hS1 : M8 key l a m) (hS2 : M8 key l m b) (hSt : St key l a m b)
  (hL : ∀ i j, a ≤ i → i < s → e ≤ j → j < b → u5 key (l.getD i 0) (l.getD j 0)) (hR : ∀ i j, s ≤ i → i < m → m ≤ j → j < e → u5 key (l.getD j 0) (l.getD i 0)) :
  Halves key (Q3 l s m e) a s (s + (e - m)) e b := by
 have g := fun t => V4 (l := l) h1 h2 (by omega) t
 refine ⟨fun i j i1 i2 i3 => ?_, fun i j i1 i2 i3 => ?_, fun i j i1 i2 i3 i4 => ?_, fun i j i1 i2 i3 => ?_, fun i j i1 i2 i3 => ?_, fun i j i1 i2 i3 i4 => ?_, fun i j i1 i2 i3 i4 => ?_⟩
 ·rw [g, g, B7Z (by omega), B7Z (by omega)]; exact hS1 i j i1 i2 (by omega)
 ·rw [g, g, B7w (by omega) (by omega), B7w (by omega) (by omega)]; exact hS2 _ _ (by omega) (by omega) (by omega)
 ·rw [g, g, B7Z (by omega), B7w (by omega) (by omega)]; exact hSt _ _ i1 (by omega) (by omega) (by omega)
 ·rw [g, g, B4B h1 (by omega) (by omega), B4B h1 (by omega) (by omega)]; exact hS1 _ _ (by omega) (by omega) (by omega)
 ·rw [g, g, B43 h1 h2 (by omega), B43 h1 h2 (by omega)]; exact hS2 _ _ (by omega) (by omega) (by omega)
 ·rw [g, g, B4B h1 (by omega) (by omega), B43 h1 h2 (by omega)]; exact hSt _ _ (by omega) (by omega) (by omega) (by omega)
 ·rw [g, g]
  by_cases c1 : i < s
  ·rw [B7Z c1]
   by_cases c2 : j < e
   ·rw [B4B h1 (by omega) c2]; exact hS1 _ _ i1 (by omega) (by omega)
   ·rw [B43 h1 h2 (by omega)]; exact hL _ _ i1 c1 (by omega) i4
  ·rw [B7w (by omega) (by omega)]
   by_cases c2 : j < e
   ·rw [B4B h1 (by omega) c2]; exact hR _ _ (by omega) (by omega) (by omega) (by omega)
   ·rw [B43 h1 h2 (by omega)]; exact hS2 _ _ (by omega) (by omega) (by omega)
theorem B3a {key : Nat → Int} {l : List Nat} {a m b i j : Nat} (hSt : St key l a m b) (i1 : a ≤ i) (i2 : i < m) (j1 : m ≤ j) (j2 : j < b) : (key (l.getD j 0) < key (l.getD i 0) → u5 key (l.getD j 0) (l.getD i 0)) ∧ (¬ key (l.getD j 0) < key (l.getD i 0) → u5 key (l.getD i 0) (l.getD j 0)) := by
 have h := hSt i j i1 i2 j1 j2
 refine ⟨fun h => Or.inl h, fun hn => ?_⟩
 by_cases c : key (l.getD i 0) = key (l.getD j 0)
 ·exact Or.inr ⟨c, h c⟩
 ·exact Or.inl (by omega)
theorem M8.le {key : Nat → Int} {l : List Nat} {a b i j x : Nat} (h : M8 key l a b) (i1 : a ≤ i) (i2 : i ≤ j) (i3 : j < b) (hx : u5 key (l.getD j 0) x) : u5 key (l.getD i 0) x := by
 by_cases c : i = j
 ·subst c; exact hx
 ·exact (h i j i1 (by omega) i3).trans hx
theorem M8.ge {key : Nat → Int} {l : List Nat} {a b i j x : Nat} (h : M8 key l a b) (i1 : a ≤ i) (i2 : i ≤ j) (i3 : j < b) (hx : u5 key x (l.getD i 0)) : u5 key x (l.getD j 0) := by
 by_cases c : i = j
 ·subst c; exact hx
 ·exact hx.trans (h i j i1 (by omega) i3)
theorem B0D {key : Nat → Int} {l : List Nat} {a s m e b : Nat} (ha : a ≤ s) (h1 : s ≤ m) (h2 : m ≤ e) (hb : e ≤ b) (hl : b ≤ l.length) (hS1 : M8 key l a m) (hS2 : M8 key l m b) (hSt : St key l a m b)
  (hL : a < s → e < b → ¬ key (l.getD e 0) < key (l.getD (s - 1) 0)) (hR : s < m → m < e → key (l.getD (e - 1) 0) < key (l.getD s 0)) : Halves key (Q3 l s m e) a s (s + (e - m)) e b := by
 refine C7V ha h1 h2 hb hl hS1 hS2 hSt (fun i j i1 i2 i3 i4 => ?_) (fun i j i1 i2 i3 i4 => ?_)
 ·have := (B3a hSt (i := s - 1) (j := e) (by omega) (by omega) h2 (by omega)).2 (hL (by omega) (by omega))
  exact hS1.le i1 (by omega) (by omega) (hS2.ge h2 i3 i4 this)
 ·have := (B3a hSt (i := s) (j := e - 1) (by omega) (by omega) (by omega) (by omega)).1 (hR (by omega) (by omega))
  exact hS2.le i3 (by omega) (by omega) (hS1.ge (by omega) i1 i2 this)
theorem C28 {key : Nat → Int} {l l1 l2 : List Nat} {a s mid e b : Nat} (h : Halves key l a s mid e b) (hm : a ≤ mid) (hb : mid ≤ b) (m1 : Mix l a mid l1) (g1 : M8 key l1 a mid) (m2 : Mix l1 mid b l2) (g2 : M8 key l2 mid b) : M8 key l2 a b ∧ Mix l a b l2 := by
 refine ⟨fun i j i1 i2 i3 => ?_, (m1.wide (by omega) hb).trans (m2.wide hm (by omega))⟩
 by_cases c1 : j < mid
 ·rw [m2.out i (by omega), m2.out j (by omega)]; exact g1 i j i1 i2 c1
 by_cases c2 : mid ≤ i
 ·exact g2 i j c2 i2 i3
 ·rw [m2.out i (by omega)]
  obtain ⟨i', p1, p2, e1⟩ := m1.ins i i1 (by omega)
  obtain ⟨j', q1, q2, e2⟩ := m2.ins j (by omega) i3
  rw [e1, e2, m1.out j' (by omega)]
  exact h.cross i' j' p1 p2 q1 q2
theorem M8.same {key : Nat → Int} {l l' : List Nat} {a b : Nat} (h : M8 key l a b) (he : ∀ i, a ≤ i → i < b → l'.getD i 0 = l.getD i 0) : M8 key l' a b := fun i j i1 i2 i3 => by
 rw [he i i1 (by omega), he j (by omega) i3]; exact h i j i1 i2 i3
theorem St.same {key : Nat → Int} {l l' : List Nat} {a m b : Nat} (h : St key l a m b) (he : ∀ i, a ≤ i → i < b → l'.getD i 0 = l.getD i 0) (hm : a ≤ m) (hb : m ≤ b) : St key l' a m b := fun i j i1 i2 i3 i4 => by
 rw [he i i1 (by omega), he j (by omega) i4]; exact h i j i1 i2 i3 i4
theorem B3D {key : Nat → Int} {l : List Nat} {a s m e b : Nat} (ha : a ≤ s) (h1 : s ≤ m) (h2 : m ≤ e) (hb : e ≤ b) (h : Halves key (Q3 l s m e) a s (s + (e - m)) e b)
  (hA : ∀ i j, a ≤ i → i < s → s ≤ j → j < s + (e - m) → u5 key ((Q3 l s m e).getD i 0) ((Q3 l s m e).getD j 0)) (hB : ∀ i j, s + (e - m) ≤ i → i < e → e ≤ j → j < b → u5 key ((Q3 l s m e).getD i 0) ((Q3 l s m e).getD j 0)) : M8 key (Q3 l s m e) a b := fun i j i1 i2 i3 => by
 by_cases c1 : j < s
 ·exact h.s1 i j i1 i2 c1
 by_cases c2 : j < s + (e - m)
 ·by_cases c3 : i < s
  ·exact hA i j i1 c3 (by omega) c2
  ·exact h.s2 i j (by omega) i2 c2
 by_cases c3 : i < s + (e - m)
 ·exact h.cross i j i1 c3 (by omega) i3
 by_cases c4 : j < e
 ·exact h.s3 i j (by omega) i2 c4
 by_cases c5 : i < e
 ·exact hB i j (by omega) c5 (by omega) i3
 ·exact h.s4 i j (by omega) i2 i3
def upL (l : List Nat) (a : Nat) : Nat → List Nat
 | 0 => l
 | n + 1 => A59 (upL l a n) (a + n) (a + n + 1)
theorem B4U (l : List Nat) (a n : Nat) : (upL l a n).length = l.length := by
 induction n with
 | zero => rfl
 | succ n ih => rw [upL, B0K, ih]
theorem C5m {l : List Nat} {a n : Nat} (h : a + n < l.length) (t : Nat) : (upL l a n).getD t 0 = l.getD (if a ≤ t ∧ t < a + n then t + 1 else if t = a + n then a else t) 0 := by
 induction n generalizing t with
 | zero =>
  have e : (if a ≤ t ∧ t < a + 0 then t + 1 else if t = a + 0 then a else t) = t := by
   repeat' split
   all_goals omega
  rw [e]; rfl
 | succ n ih =>
  have hl := B4U l a n
  rw [upL, B0x _ _ _ _ (by omega) (by omega), ih (by omega), ih (by omega), ih (by omega)]
  by_cases c1 : t = a + n + 1
  ·rw [if_pos c1]; congr 1; repeat' split
   all_goals omega
  rw [if_neg c1]
  by_cases c2 : t = a + n
  ·rw [if_pos c2]; congr 1; repeat' split
   all_goals omega
  rw [if_neg c2]; congr 1; repeat' split
  all_goals omega
theorem C5x {l : List Nat} {a n : Nat} (h : a + n < l.length) : upL l a n = Q3 l a (a + 1) (a + n + 1) := by
 apply B0z
 ·rw [B4U, r7 (by omega) (by omega) (by omega)]
 intro t ht
 rw [C5m h, V4 (by omega) (by omega) (by omega)]
 congr 1; unfold n5; repeat' split
 all_goals omega
def T1 (l : List Nat) (m : Nat) : Nat → List Nat
 | 0 => l
 | n + 1 => A59 (T1 l m n) (m - n) (m - n - 1)
theorem A6m (l : List Nat) (m n : Nat) : (T1 l m n).length = l.length := by
 induction n with
 | zero => rfl
 | succ n ih => rw [T1, B0K, ih]
theorem B0E {l : List Nat} {m n : Nat} (h : m < l.length) (hn : n ≤ m) (t : Nat) : (T1 l m n).getD t 0 = l.getD (if t = m - n then m else if m - n < t ∧ t ≤ m then t - 1 else t) 0 := by
 induction n generalizing t with
 | zero =>
  have e : (if t = m - 0 then m else if m - 0 < t ∧ t ≤ m then t - 1 else t) = t := by
   repeat' split
   all_goals omega
  rw [e]; rfl
 | succ n ih =>
  have hl := A6m l m n
  rw [T1, B0x _ _ _ _ (by omega) (by omega), ih (by omega), ih (by omega), ih (by omega)]
  by_cases c1 : t = m - n - 1
  ·rw [if_pos c1]; congr 1; repeat' split
   all_goals omega
  rw [if_neg c1]
  by_cases c2 : t = m - n
  ·rw [if_pos c2]; congr 1; repeat' split
   all_goals omega
  rw [if_neg c2]; congr 1; repeat' split
  all_goals omega
theorem B5n {l : List Nat} {m n : Nat} (h : m < l.length) (hn : n ≤ m) : T1 l m n = Q3 l (m - n) m (m + 1) := by
 apply B0z
 ·rw [A6m, r7 (by omega) (by omega) (by omega)]
 intro t ht
 rw [B0E h hn, V4 (by omega) (by omega) (by omega)]
 congr 1; unfold n5; repeat' split
 all_goals omega
theorem B5F {key : Nat → Int} {l : List Nat} {a s m : Nat} (ha : a ≤ s) (h1 : s ≤ m) (hl : m < l.length) (hS : M8 key l a m) (hSt : St key l a m (m + 1)) (hL : a < s → ¬ key (l.getD m 0) < key (l.getD (s - 1) 0)) (hR : s < m → key (l.getD m 0) < key (l.getD s 0)) :
  M8 key (Q3 l s m (m + 1)) a (m + 1) ∧ Mix l a (m + 1) (Q3 l s m (m + 1)) := by
 have hS2 : M8 key l m (m + 1) := fun i j _ _ _ => by omega
 have hh := B0D ha h1 (show m ≤ m + 1 by omega) (Nat.le_refl _) (by omega) hS hS2 hSt (fun _ h => by omega) (fun h _ => hR h)
 have g := fun t => V4 (l := l) h1 (show m ≤ m + 1 by omega) (by omega) t
 refine ⟨B3D ha h1 (by omega) (Nat.le_refl _) hh (fun i j i1 i2 i3 i4 => ?_) (fun i j _ _ _ _ => by omega), (B4T h1 (by omega) (by omega)).wide ha (Nat.le_refl _)⟩
 rw [g, g, B7Z (by omega), B7w (by omega) (by omega), show m + (j - s) = m by omega]
 have := (B3a hSt (i := s - 1) (j := m) (by omega) (by omega) (Nat.le_refl _) (by omega)).2 (hL (by omega))
 exact hS.le i1 (by omega) (by omega) this
theorem C4f {key : Nat → Int} {l : List Nat} {a e b : Nat} (h2 : a + 1 ≤ e) (hb : e ≤ b) (hl : b ≤ l.length) (hS : M8 key l (a + 1) b) (hSt : St key l a (a + 1) b) (hL : e < b → ¬ key (l.getD e 0) < key (l.getD a 0)) (hR : a + 1 < e → key (l.getD (e - 1) 0) < key (l.getD a 0)) :
  M8 key (Q3 l a (a + 1) e) a b ∧ Mix l a b (Q3 l a (a + 1) e) := by
 have hS1 : M8 key l a (a + 1) := fun i j _ _ _ => by omega
 have hh := B0D (Nat.le_refl a) (show a ≤ a + 1 by omega) h2 hb hl hS1 hS hSt (fun h => by omega) (fun _ h => hR h)
 have g := fun t => V4 (l := l) (show a ≤ a + 1 by omega) h2 (by omega) t
 refine ⟨B3D (Nat.le_refl a) (by omega) h2 hb hh (fun i j _ _ _ _ => by omega) (fun i j i1 i2 i3 i4 => ?_), (B4T (by omega) h2 (by omega)).wide (Nat.le_refl a) hb⟩
 rw [g, g, B4B (by omega) i1 i2, B43 (by omega) h2 i3, show i - (e - (a + 1)) = a by omega]
 have := (B3a hSt (i := a) (j := e) (Nat.le_refl _) (by omega) (by omega) (by omega)).2 (hL (by omega))
 exact hS.ge (by omega) i3 i4 this
def Inc (l : List Nat) (a b : Nat) : Prop := ∀ i j, a ≤ i → i < j → j < b → l.getD i 0 < l.getD j 0
theorem Inc.st {key : Nat → Int} {l l' : List Nat} {a i b : Nat} (h : Inc l a b) (hm : Mix l a i l') (hi : i < b) : St key l' a i (i + 1) := fun p q p1 p2 q1 q2 _ => by
 obtain ⟨p', r1, r2, e⟩ := hm.ins p p1 p2
 rw [e, hm.out q (by omega)]
 exact h p' q r1 (by omega) (by omega)
theorem C65 {key : Nat → Int} {l l' : List Nat} (hp : l'.Perm l) (h : M8 key l 0 l.length) (h' : M8 key l' 0 l'.length) : l' = l := by
 have pw : ∀ m : List Nat, M8 key m 0 m.length → m.Pairwise (u5 key) := fun m hm => List.pairwise_iff_getElem.2 fun i j hi hj hij => by
  have := hm i j (Nat.zero_le _) hij hj
  simpa [List.getD_eq_getElem?_getD, List.getElem?_eq_getElem hi, List.getElem?_eq_getElem hj] using this
 exact hp.eq_of_pairwise (fun a b _ _ h1 h2 => by unfold u5 at h1 h2; omega) (pw l' h') (pw l h)
end Go.Proofs.YtlplkjgcfjdinaaGreat
namespace Go.Proofs.YtlplkjgcfjdinaaGreat
open Go
def A1u (key : Nat → Int) : List Nat → Nat → List Nat
 | [], i => [i]
 | p :: ps, i => if key p > key i then i :: p :: ps else p :: A1u key ps i
def B28 (key : Nat → Int) (out : List Nat) (i : Nat) : List Nat := if 0 ≤ key i then A1u key out i else out
def T4 (key : Nat → Int) (n : Nat) : List Nat := (List.range n).foldl (B28 key) []
def y7 (key : Nat → Int) (n : Nat) : List Nat := (List.range n).filter fun i => decide (0 ≤ key i)
theorem B0M (key : Nat → Int) (n : Nat) : T4 key (n + 1) = B28 key (T4 key n) n := by unfold T4; rw [List.range_succ, List.foldl_append]; rfl
theorem B7r (key : Nat → Int) (n : Nat) : y7 key (n + 1) = if 0 ≤ key n then y7 key n ++ [n] else y7 key n := by
 unfold y7; rw [List.range_succ, List.filter_append]
 by_cases h : 0 ≤ key n <;> simp [h]
theorem B5C (key : Nat → Int) (l : List Nat) (i : Nat) : (A1u key l i).Perm (l ++ [i]) := by
 induction l with
 | nil => exact List.Perm.refl _
 | cons p ps ih =>
  unfold A1u
  split
  ·exact (List.perm_append_comm (l₁ := [i]) (l₂ := p :: ps))
  ·exact ih.cons p
theorem C6j (key : Nat → Int) (l : List Nat) (i : Nat) (h : l.Pairwise (u5 key)) (hi : ∀ p ∈ l, p < i) : (A1u key l i).Pairwise (u5 key) := by
 induction l with
 | nil => exact List.pairwise_singleton _ _
 | cons p ps ih =>
  have hh := List.pairwise_cons.1 h
  unfold A1u
  split
  ·rename_i hg
   refine List.pairwise_cons.2 ⟨fun x hx => ?_, h⟩
   rcases List.mem_cons.1 hx with rfl | hx
   ·exact Or.inl hg
   ·exact (show u5 key i p from Or.inl hg).trans (hh.1 x hx)
  ·rename_i hg
   refine List.pairwise_cons.2 ⟨fun x hx => ?_, ih hh.2 fun q hq => hi q (List.mem_cons_of_mem _ hq)⟩
   have := (B5C key ps i).mem_iff.1 hx
   rcases List.mem_append.1 this with hx | hx
   ·exact hh.1 x hx
   ·obtain rfl : x = i := by simpa using hx
    have := hi p List.mem_cons_self
    unfold u5; omega
theorem B0l (key : Nat → Int) (n : Nat) : (T4 key n).Perm (y7 key n) := by
 induction n with
 | zero => exact List.Perm.refl _
 | succ n ih =>
  rw [B0M, B7r]
  unfold B28
  split
  ·exact (B5C _ _ _).trans (ih.append_right _)
  ·exact ih
theorem C1b {key : Nat → Int} {n i : Nat} (h : i ∈ y7 key n) : i < n ∧ 0 ≤ key i := by simpa [y7] using h
theorem B1K {key : Nat → Int} {n i : Nat} (h : i ∈ T4 key n) : i < n ∧ 0 ≤ key i := C1b ((B0l key n).mem_iff.1 h)
theorem C5j (key : Nat → Int) (n : Nat) : (T4 key n).Pairwise (u5 key) := by
 induction n with
 | zero => exact List.Pairwise.nil
 | succ n ih =>
  rw [B0M]
  unfold B28
  split
  ·exact C6j key _ _ ih fun p hp => (B1K hp).1
  ·exact ih
theorem B6z (key : Nat → Int) (n : Nat) : (y7 key n).length ≤ n := by
 have := List.length_filter_le (fun i => decide (0 ≤ key i)) (List.range n)
 rw [List.length_range] at this
 exact this
theorem B75 (key : Nat → Int) (n : Nat) : (T4 key n).length = (y7 key n).length := (B0l key n).length_eq
theorem A4b {l : List Nat} {i : Nat} (h : i < l.length) : l.getD i 0 = l[i] := by simp [List.getD_eq_getElem?_getD, List.getElem?_eq_getElem h]
theorem C3D {key : Nat → Int} {l : List Nat} (h : l.Pairwise (u5 key)) : M8 key l 0 l.length := fun i j _ h2 h3 => by
 rw [A4b (by omega), A4b h3]
 exact List.pairwise_iff_getElem.1 h i j (by omega) h3 h2
theorem C5w (key : Nat → Int) (n : Nat) : Inc (y7 key n) 0 (y7 key n).length := fun i j _ h2 h3 => by
 rw [A4b (by omega), A4b h3]
 have h : (y7 key n).Pairwise (· < ·) := List.pairwise_lt_range.filter _
 exact List.pairwise_iff_getElem.1 h i j (by omega) h3 h2
theorem B9p {key : Nat → Int} {n : Nat} {l : List Nat} (hp : l.Perm (y7 key n)) (h : M8 key l 0 (y7 key n).length) : l = T4 key n :=
 C65 (hp.trans (B0l key n).symm) (C3D (C5j key n)) (by rw [hp.length_eq]; exact h)
theorem Inc.mono {l : List Nat} {a b a' b' : Nat} (h : Inc l a b) (h1 : a ≤ a') (h2 : b' ≤ b) : Inc l a' b' := fun i j i1 i2 i3 => h i j (by omega) i2 (by omega)
theorem Inc.st2 {key : Nat → Int} {l l1 l2 : List Nat} {a m b : Nat} (h : Inc l a b) (m1 : Mix l a m l1) (m2 : Mix l1 m b l2) : St key l2 a m b := fun p q p1 p2 q1 q2 _ => by
 rw [m2.out p (by omega)]
 obtain ⟨p', r1, r2, e⟩ := m1.ins p p1 p2
 obtain ⟨q', s1, s2, e'⟩ := m2.ins q q1 q2
 rw [e, e', m1.out q' (by omega)]
 exact h p' q' r1 (by omega) s2
end Go.Proofs.YtlplkjgcfjdinaaGreat
namespace Go.Proofs.YtlplkjgcfjdinaaGreat
open Go
def A2k (ts : List T5) (x : RecV) : Bool := decide (0 ≤ x.th) && decide (x.th < ts.length) && (decide (0 ≤ x.op) && decide (x.op < ((ts.getD x.th.toNat (.nilIface, [])).2.length)))
def B9q (ts : List T5) (x : RecV) : OpV × Value := (ts.getD x.th.toNat (.nilIface, [])).2.getD x.op.toNat (⟨0, ⟨#[]⟩, [], 0⟩, .nilIface)
def K3 (s : MoS) (o : OpV) (x : RecV) : MoS × AnsV :=
 if (o.kind = 0 ∧ x.th = 0) ∨ (o.kind = 1 ∧ x.th ≠ 0) then (s, ⟨1, 0, false, 0⟩) else if o.kind = 1 ∧ 0 ≤ x.en ∧ x.an = ⟨13, 0, false, 0⟩ then (s, ⟨13, 0, false, 0⟩) else M2 s o x.nw
def stepL (ts : List T5) (s : MoS) (x : RecV) : MoS × Bool :=
 if A2k ts x then ((K3 s (B9q ts x).1 x).1, decide (x.en < 0) || decide (x.an = (K3 s (B9q ts x).1 x).2)) else (s, false)
def stL (ts : List T5) (s : MoS) (l : List RecV) : MoS := l.foldl (fun s x => (stepL ts s x).1) s
def okL (ts : List T5) : MoS → List RecV → List Bool
 | _, [] => []
 | s, x :: xs => (stepL ts s x).2 :: okL ts (stepL ts s x).1 xs
theorem A4e (ts : List T5) (l : List RecV) : ∀ s, (okL ts s l).length = l.length := by
 induction l with
 | nil => intro s; rfl
 | cons x xs ih => intro s; simp [okL, ih]
theorem C6l (ts : List T5) (a b : List RecV) : ∀ s, okL ts s (a ++ b) = okL ts s a ++ okL ts (stL ts s a) b := by
 induction a with
 | nil => intro s; rfl
 | cons x xs ih => intro s; simp only [List.cons_append, okL, ih]; rfl
theorem C3A (ts : List T5) (s : MoS) {l : List RecV} {i : Nat} {x : RecV} (hx : l[i]? = some x) : (okL ts s l)[i]? = some (stepL ts (stL ts s (l.take i)) x).2 := by
 obtain ⟨hi, rfl⟩ := List.getElem?_eq_some_iff.1 hx
 have e : l = l.take i ++ (l[i] :: l.drop (i + 1)) := by rw [← List.drop_eq_getElem_cons hi, List.take_append_drop]
 conv => lhs; rw [e]
 rw [C6l, List.getElem?_append_right (by rw [A4e, List.length_take]; omega), A4e, List.length_take, show i - min i l.length = 0 by omega]
 rfl
theorem B7g (ts : List T5) (s : MoS) {l : List RecV} {i : Nat} {x : RecV} (hx : l[i]? = some x) : stL ts s (l.take (i + 1)) = (stepL ts (stL ts s (l.take i)) x).1 := by
 unfold stL
 rw [List.take_add_one, hx, List.foldl_append]; rfl
def A1B : List Bool → Int → Int
 | [], _ => -1
 | b :: l, n => if b then A1B l (n + 1) else n
theorem B3Q {l : List Bool} (h : ∀ b ∈ l, b = true) : ∀ n, A1B l n = -1 := by
 induction l with
 | nil => intro n; rfl
 | cons b l ih => intro n; rw [A1B, if_pos (h b List.mem_cons_self)]; exact ih (fun b hb => h b (List.mem_cons_of_mem _ hb)) _
theorem B5L {l : List Bool} : ∀ {i : Nat} (n : Int), l[i]? = some false → (∀ j, j < i → l[j]? = some true) → A1B l n = n + i := by
 induction l with
 | nil => intro i n h; simp at h
 | cons b l ih =>
  intro i n h hj
  cases i with
  | zero =>
   have : b = false := by simpa using h
   rw [A1B, this]; simp
  | succ i =>
   have hb : b = true := by simpa using hj 0 (by omega)
   rw [A1B, if_pos hb, ih (n + 1) (by simpa using h) (fun j hj' => by simpa using hj (j + 1) (by omega))]
   omega
def A0W (l : List RecV) : List RecV := (T4 (G1 l) l.length).map fun i => l.getD i A7V
def s5 (c : CfgV) (ts : List T5) (l : List RecV) : Int := if W9 c then A1B (okL ts ⟨c, [], x6 c⟩ (A0W l)) 0 else 0
end Go.Proofs.YtlplkjgcfjdinaaGreat
namespace Go.Proofs.YtlplkjgcfjdinaaGreat
open Go
def A5T (X : Nat → Prop) (t0 : Value) (R : Value → WP) : WP :=
 B1 PR X (Instr.box 32 t0) fun t1 =>
 jn (n := 2) (fun t3 t8 =>
 A0 PR (Instr.makeFunc (.func 21) #[] #[t1]) fun t22 =>
 B2 PR X 20 [t3, t22] fun t23 =>
 R t3) fun J1 =>
 A6 PR (Instr.loadAt 32 t1) fun t6 =>
 A0 PR (A7 .len #[32] 0 [t6]) fun t7 =>
 lp (n := 2) (fun L2 t3_1 t8_1 =>
 A0 PR (binOp .lss 3 t8_1 t7) fun t9 =>
 jn (n := 0) (
 jn (n := 1) (fun t3_2 =>
 A0 PR (binOp .add 3 t8_1 (.int .i64 1)) fun t20 =>
 L2 t3_2 t20) fun J3 =>
 A0 PR (Instr.indexAt 32 t6 t8_1) fun t11 =>
 A6 PR (Instr.loadAt 47 t11) fun t12 =>
 B1 PR X (Instr.alloc 47 true (.tuple #[])) fun t5 =>
 B6 PR X (Instr.storeAt 47 t5 t12) <|
 A0 PR (Instr.fieldAt 47 t5 3) fun t13 =>
 A6 PR (Instr.loadAt 3 t13) fun t14 =>
 A0 PR (binOp .geq 3 t14 (.int .i64 0)) fun t15 =>
 B3 t15 (
 B1 PR X (Instr.buildSlice 35 1 #[(0, t8_1)]) fun t18 =>
 B1 PR X (A7 .append #[35, 35] 35 [t3_1, t18]) fun t19 =>
 J3 t19) (
 J3 t3_1)) fun J4 =>
 B3 t9 (
 J4) (
 J1 t3_1 t8_1)) (.slice none 0 0) (.int .i64 0)
theorem A08 : B0 PR 11 := A8 Tryz.func11 (by kernel_rfl) rfl
theorem B2Q {X : Nat → Prop} {t0 : Value} {R : Value → WP} {w : World} (h : A5T X t0 R w) : Fn PR X 11 #[t0] w R := C7 (args := [t0]) mixed Tryz.func11 (by kernel_rfl) h
def A9W (X : Nat → Prop) (t0 : Value) (R : Value → WP) : WP :=
 B1 PR X (Instr.makeMap 59 none) fun t6 =>
 jn (n := 2) (fun t2 t9 =>
 R (.bool true)) fun J1 =>
 A0 PR (A7 .len #[32] 0 [t0]) fun t8 =>
 lp (n := 2) (fun L2 t2_1 t9_1 =>
 A0 PR (binOp .lss 3 t9_1 t8) fun t10 =>
 jn (n := 0) (
 jn (n := 1) (fun t2_2 =>
 A0 PR (binOp .add 3 t9_1 (.int .i64 1)) fun t49 =>
 L2 t2_2 t49) fun J3 =>
 A0 PR (Instr.indexAt 32 t0 t9_1) fun t11 =>
 A6 PR (Instr.loadAt 47 t11) fun t12 =>
 B1 PR X (Instr.alloc 47 true (.tuple #[])) fun t5 =>
 B6 PR X (Instr.storeAt 47 t5 t12) <|
 jn (n := 2) (fun t26 t2_3 =>
 A0 PR (Instr.fieldAt 47 t5 3) fun t47 =>
 A6 PR (Instr.loadAt 3 t47) fun t48 =>
 B6 PR X (Instr.mapUpdate 59 t6 t48 (.bool true)) <|
 J3 t2_3) fun J4 =>
 A0 PR (Instr.fieldAt 47 t5 3) fun t14 =>
 A6 PR (Instr.loadAt 3 t14) fun t15 =>
 A0 PR (binOp .lss 3 t15 (.int .i64 0)) fun t16 =>
 gj t16 true (fun J => A0 PR (Instr.fieldAt 47 t5 4) J) fun t18 =>
 gj t16 true (fun J => A6 PR (Instr.loadAt 3 t18) J) fun t19 =>
 gj t16 true (fun J => A0 PR (binOp .geq 3 t19 (.int .i64 0)) J) fun t20 =>
 A0 PR (do pure (if ← asBool t16 then t20 else (.bool false))) fun t21 =>
 B3 t21 (
 R (.bool false)) (
 A0 PR (Instr.fieldAt 47 t5 3) fun t23 =>
 A6 PR (Instr.loadAt 3 t23) fun t24 =>
 A0 PR (binOp .lss 3 t24 (.int .i64 0)) fun t25 =>
 B3 t25 (
 J3 t2_1) (
 jn (n := 1) (fun t26_1 =>
 B3 t26_1 (
 R (.bool false)) (
 J4 t26_1 t2_1)) fun J5 =>
 A0 PR (Instr.fieldAt 47 t5 2) fun t27 =>
 A6 PR (Instr.loadAt 3 t27) fun t28 =>
 A0 PR (Instr.fieldAt 47 t5 3) fun t29 =>
 A6 PR (Instr.loadAt 3 t29) fun t30 =>
 A0 PR (binOp .gtr 3 t28 t30) fun t31 =>
 B3 t31 (
 J5 t31) (
 A0 PR (Instr.fieldAt 47 t5 4) fun t32 =>
 A6 PR (Instr.loadAt 3 t32) fun t33 =>
 A0 PR (binOp .geq 3 t33 (.int .i64 0)) fun t34 =>
 gj t34 true (fun J => A0 PR (Instr.fieldAt 47 t5 3) J) fun t36 =>
 gj t34 true (fun J => A6 PR (Instr.loadAt 3 t36) J) fun t37 =>
 gj t34 true (fun J => A0 PR (Instr.fieldAt 47 t5 4) J) fun t38 =>
 gj t34 true (fun J => A6 PR (Instr.loadAt 3 t38) J) fun t39 =>
 gj t34 true (fun J => A0 PR (binOp .gtr 3 t37 t39) J) fun t40 =>
 A0 PR (do pure (if ← asBool t34 then t40 else (.bool false))) fun t41 =>
 B3 t41 (
 J5 t41) (
 A0 PR (Instr.fieldAt 47 t5 3) fun t43 =>
 A6 PR (Instr.loadAt 3 t43) fun t44 =>
 A6 PR (Instr.lookup 59 t6 t44 false) fun t45 =>
 J5 t45))))) fun J6 =>
 B3 t10 (
 J6) (
 J1 t2_1 t9_1)) (.bool false) (.int .i64 0)
theorem A3J : B0 PR 14 := A8 Tryz.func14 (by kernel_rfl) rfl
theorem B6U {X : Nat → Prop} {t0 : Value} {R : Value → WP} {w : World} (h : A9W X t0 R w) : Fn PR X 14 #[t0] w R := C7 (args := [t0]) mixed Tryz.func14 (by kernel_rfl) h
def A7p (X : Nat → Prop) (t0 t1 t2 : Value) (R : Value → WP) : WP :=
 B1 PR X (Instr.box 23 t0) fun t3 =>
 B1 PR X (Instr.alloc 3 true (.tuple #[])) fun t6 =>
 A6 PR (Instr.loadAt 23 t3) fun t12 =>
 B2 PR X 24 [t12] fun t13 =>
 A0 PR (Instr.extract t13 0) fun t14 =>
 A0 PR (Instr.extract t13 1) fun t15 =>
 jn (n := 0) (
 jn (n := 0) (
 B6 PR X (Instr.storeAt 3 t6 (.int .i64 (-1))) <|
 j8 (A6 PR (D0 [.c 3 t6]) R)) fun J1 =>
 B2 PR X 25 [t14, t1, t2] fun t21 =>
 rng (N := 2) PR X (fun t22 t23 K2 =>
 bgn <|
 A0 PR (Op.unary .not t23) fun t25 =>
 B3 t25 (
 B6 PR (fun _ => False) (Instr.storeAt 3 t6 t22) <|
 K2 (some .ret)) (
 K2 none)) t21 (fun j => match j with | none => (J1) | some (.exit i) => (match Nat.beq i 0 with | true => (J1) | false => (G5)) | some .ret => (j8 (A6 PR (D0 [.c 3 t6]) R)) | some _ => G5)) fun J3 =>
 A0 PR (binOp .neq 42 t15 (.int .i64 0)) fun t17 =>
 B3 t17 (
 B6 PR X (Instr.storeAt 3 t6 (.int .i64 0)) <|
 j8 (A6 PR (D0 [.c 3 t6]) R)) (
 J3)
theorem Y0 : B0 PR 15 := A8 Tryz.func15 (by kernel_rfl) rfl
theorem B44 {X : Nat → Prop} {t0 t1 t2 : Value} {R : Value → WP} {w : World} (h : A7p X t0 t1 t2 R w) : Fn PR X 15 #[t0, t1, t2] w R := C7 (args := [t0, t1, t2]) mixed Tryz.func15 (by kernel_rfl) h
def A24 (X : Nat → Prop) (t0 t1 t2 : Value) (R : Value → WP) : WP :=
 drw <|
 A6 PR (Instr.loadAt 32 t2) fun t6 =>
 A0 PR (Instr.indexAt 32 t6 t0) fun t8 =>
 A0 PR (Instr.fieldAt 47 t8 3) fun t9 =>
 A6 PR (Instr.loadAt 3 t9) fun t10 =>
 A6 PR (Instr.loadAt 32 t2) fun t11 =>
 A0 PR (Instr.indexAt 32 t11 t1) fun t13 =>
 A0 PR (Instr.fieldAt 47 t13 3) fun t14 =>
 A6 PR (Instr.loadAt 3 t14) fun t15 =>
 B2 PR X 22 [t10, t15] fun t16 =>
 R t16
theorem Z5 : B0 PR 21 := A8 Tryz.func21 (by kernel_rfl) rfl
theorem A9w {X : Nat → Prop} {t0 t1 t2 : Value} {R : Value → WP} {w : World} (h : A24 X t0 t1 t2 R w) : Fn PR X 21 #[t0, t1, t2] w R := C7 (args := [t0, t1, t2]) mixed Tryz.func21 (by kernel_rfl) h
def A6F (X : Nat → Prop) (t0 t1 t2 : Value) (R : Value → WP) : WP :=
 B1 PR X (Instr.box 60 t0) fun t3 =>
 B1 PR X (Instr.box 24 t1) fun t4 =>
 B1 PR X (Instr.box 32 t2) fun t5 =>
 A0 PR (Instr.makeFunc (.func 34) #[] #[t4]) fun t8 =>
 B1 PR X (Instr.alloc 85 true (.tuple #[])) fun t7 =>
 B6 PR X (Instr.storeAt 85 t7 t8) <|
 A0 PR (Instr.makeFunc (.func 35) #[] #[t5, t7, t3, t4]) fun t9 =>
 R t9
theorem B2E : B0 PR 25 := A8 Tryz.func25 (by kernel_rfl) rfl
theorem B3B {X : Nat → Prop} {t0 t1 t2 : Value} {R : Value → WP} {w : World} (h : A6F X t0 t1 t2 R w) : Fn PR X 25 #[t0, t1, t2] w R := C7 (args := [t0, t1, t2]) mixed Tryz.func25 (by kernel_rfl) h
def A3f (X : Nat → Prop) (t0 t1 : Value) (R : Value → WP) : WP :=
 B1 PR X (Instr.box 47 t0) fun t2 =>
 drw <|
 A0 PR (Instr.fieldAt 47 t2 0) fun t4 =>
 A6 PR (Instr.loadAt 3 t4) fun t5 =>
 A0 PR (binOp .geq 3 t5 (.int .i64 0)) fun t6 =>
 gj t6 true (fun J => A0 PR (Instr.fieldAt 47 t2 0) J) fun t8 =>
 gj t6 true (fun J => A6 PR (Instr.loadAt 3 t8) J) fun t9 =>
 gj t6 true (fun J => A6 PR (Instr.loadAt 24 t1) J) fun t10 =>
 gj t6 true (fun J => A0 PR (A7 .len #[24] 0 [t10]) J) fun t11 =>
 gj t6 true (fun J => A0 PR (binOp .lss 3 t9 t11) J) fun t12 =>
 A0 PR (do pure (if ← asBool t6 then t12 else (.bool false))) fun t13 =>
 gj t13 true (fun J => A0 PR (Instr.fieldAt 47 t2 1) J) fun t15 =>
 gj t13 true (fun J => A6 PR (Instr.loadAt 3 t15) J) fun t16 =>
 gj t13 true (fun J => A0 PR (binOp .geq 3 t16 (.int .i64 0)) J) fun t17 =>
 A0 PR (do pure (if ← asBool t13 then t17 else (.bool false))) fun t18 =>
 gj t18 true (fun J => A0 PR (Instr.fieldAt 47 t2 1) J) fun t20 =>
 gj t18 true (fun J => A6 PR (Instr.loadAt 3 t20) J) fun t21 =>
 gj t18 true (fun J => A6 PR (Instr.loadAt 24 t1) J) fun t22 =>
 gj t18 true (fun J => A0 PR (Instr.fieldAt 47 t2 0) J) fun t23 =>
 gj t18 true (fun J => A6 PR (Instr.loadAt 3 t23) J) fun t24 =>
 gj t18 true (fun J => A0 PR (Instr.indexAt 24 t22 t24) J) fun t25 =>
 gj t18 true (fun J => A6 PR (Instr.loadAt 53 t25) J) fun t26 =>
 gj t18 true (fun J => A0 PR (A7 .len #[53] 0 [t26]) J) fun t27 =>
 gj t18 true (fun J => A0 PR (binOp .lss 3 t21 t27) J) fun t28 =>
 A0 PR (do pure (if ← asBool t18 then t28 else (.bool false))) fun t29 =>
 R t29
theorem A9l : B0 PR 34 := A8 Tryz.func34 (by kernel_rfl) rfl
theorem B0L {X : Nat → Prop} {t0 t1 : Value} {R : Value → WP} {w : World} (h : A3f X t0 t1 R w) : Fn PR X 34 #[t0, t1] w R := C7 (args := [t0, t1]) mixed Tryz.func34 (by kernel_rfl) h
def A3u (X : Nat → Prop) (t0 t1 t2 t3 t4 : Value) (R : Value → WP) : WP :=
 A6 PR (Instr.loadAt 32 t1) fun t11 =>
 B2 PR X 11 [t11] fun t12 =>
 A0 PR (A7 .len #[35] 0 [t12]) fun t13 =>
 lp (n := 1) (fun L1 t14 =>
 A0 PR (binOp .lss 3 t14 t13) fun t15 =>
 jn (n := 0) (
 jn (n := 1) (fun t9 =>
 A0 PR (binOp .add 3 t14 (.int .i64 1)) fun t53 =>
 L1 t53) fun J2 =>
 A0 PR (Instr.indexAt 35 t12 t14) fun t17 =>
 A6 PR (Instr.loadAt 3 t17) fun t18 =>
 A6 PR (Instr.loadAt 32 t1) fun t19 =>
 A0 PR (Instr.indexAt 32 t19 t18) fun t21 =>
 A6 PR (Instr.loadAt 47 t21) fun t22 =>
 B1 PR X (Instr.alloc 47 true (.tuple #[])) fun t8 =>
 B6 PR X (Instr.storeAt 47 t8 t22) <|
 A6 PR (Instr.loadAt 85 t2) fun t23 =>
 A6 PR (Instr.loadAt 47 t8) fun t24 =>
 J0 PR X t23 [t24] fun t25 =>
 jn (n := 1) (fun t9_1 =>
 J0 PR X t0 [t14, t9_1] fun t51 =>
 A0 PR (Op.unary .not t51) fun t52 =>
 B3 t52 (
 R (.tuple #[])) (
 J2 t9_1)) fun J3 =>
 B3 t25 (
 drw <|
 kt (n := 1) (fun t10 =>
 A0 PR (Instr.fieldAt 47 t8 4) fun t39 =>
 A6 PR (Instr.loadAt 3 t39) fun t40 =>
 A0 PR (binOp .lss 3 t40 (.int .i64 0)) fun t41 =>
 gj t41 false (fun J => A0 PR (Instr.fieldAt 47 t8 6) J) fun t43 =>
 gj t41 false (fun J => A6 PR (Instr.loadAt 44 t43) J) fun t44 =>
 gj t41 false (fun J => A6 PR (Instr.loadAt 44 t10) J) fun t45 =>
 gj t41 false (fun J => A6 PR (n8 .eql 44 (.tmp 44) (.tmp 45) t44 t45) J) fun t46 =>
 A0 PR (do pure (if ← asBool t41 then (.bool true) else t46)) fun t47 =>
 J3 t47) fun C4 =>
 A6 PR (Instr.loadAt 60 t3) fun t27_1 =>
 A6 PR (Instr.loadAt 24 t4) fun t28_1 =>
 A0 PR (Instr.fieldAt 47 t8 0) fun t29_1 =>
 A6 PR (Instr.loadAt 3 t29_1) fun t30_1 =>
 A0 PR (Instr.indexAt 24 t28_1 t30_1) fun t31_1 =>
 A6 PR (Instr.loadAt 53 t31_1) fun t32_1 =>
 A0 PR (Instr.fieldAt 47 t8 1) fun t33_1 =>
 A6 PR (Instr.loadAt 3 t33_1) fun t34_1 =>
 A0 PR (Instr.indexAt 53 t32_1 t34_1) fun t35_1 =>
 A6 PR (Instr.loadAt 52 t35_1) fun t36_1 =>
 A6 PR (Instr.loadAt 47 t8) fun t37_1 =>
 both (B2 PR X 36 [t27_1, t36_1, t37_1] fun t38_2 =>
 B1 PR X (Instr.alloc 44 true (.tuple #[])) fun t10_2 =>
 B6 PR X (Instr.storeAt 44 t10_2 t38_2) <|
 C4 t10_2) (both (B1 PR X (Instr.alloc 44 true (.tuple #[])) fun t10_1 =>
 watch PR [(none, (Instr.loadAt 47 t8), t37_1), (none, (Instr.loadAt 52 t35_1), t36_1), (none, (Instr.loadAt 3 t33_1), t34_1), (none, (Instr.loadAt 53 t31_1), t32_1), (none, (Instr.loadAt 3 t29_1), t30_1), (none, (Instr.loadAt 24 t4), t28_1), (none, (Instr.loadAt 60 t3), t27_1)] <|
 B2 PR X 36 [t27_1, t36_1, t37_1] fun t38_1 =>
 B6 PR X (Instr.storeAt 44 t10_1 t38_1) <|
 C4 t10_1) ((fun _ => True)))) (
 J3 t25)) fun J5 =>
 B3 t15 (
 J5) (
 R (.tuple #[]))) (.int .i64 0)
theorem A9r : B0 PR 35 := A8 Tryz.func35 (by kernel_rfl) rfl
theorem B0g {X : Nat → Prop} {t0 t1 t2 t3 t4 : Value} {R : Value → WP} {w : World} (h : A3u X t0 t1 t2 t3 t4 R w) : Fn PR X 35 #[t0, t1, t2, t3, t4] w R := C7 (args := [t0, t1, t2, t3, t4]) mixed Tryz.func35 (by kernel_rfl) h
theorem B0T {X : Nat → Prop} {t0 t1 t2 t3 t4 : Value} {K : Value → WP} {w : World} (h : Fn PR X 35 #[t0, t1, t2, t3, t4] w K) : A12 PR X 35 [t0, t1, t2, t3, t4] K w := ⟨A9r, h⟩
def A4G (X : Nat → Prop) (t0 t1 t2 : Value) (R : Value → WP) : WP :=
 B1 PR X (Instr.box 52 t1) fun t4 =>
 B1 PR X (Instr.box 47 t2) fun t5 =>
 B1 PR X (Instr.alloc 44 true (.tuple #[])) fun t6 =>
 A0 PR (Instr.makeFunc (.func 42) #[] #[t5]) fun t8 =>
 jn (n := 1) (fun t9 =>
 A6 PR (Instr.loadAt 52 t4) fun t37 =>
 A0 PR (Instr.fieldAt 47 t5 5) fun t38 =>
 A6 PR (Instr.loadAt 3 t38) fun t39 =>
 B2 PR X 44 [t0, t37, t39] fun t40 =>
 B6 PR X (Instr.storeAt 44 t6 t40) <|
 A6 PR (D0 [.c 44 t6]) R) fun J1 =>
 jn (n := 1) (fun t9_1 =>
 B3 t9_1 (
 B2 PR X 43 [(.int .i64 1)] fun t26 =>
 B6 PR X (Instr.storeAt 44 t6 t26) <|
 A6 PR (D0 [.c 44 t6]) R) (
 A0 PR (Instr.fieldAt 52 t4 0) fun t28 =>
 A6 PR (Instr.loadAt 3 t28) fun t29 =>
 A0 PR (binOp .eql 3 t29 (.int .i64 1)) fun t30 =>
 gj t30 true (fun J => J t8) fun t32 =>
 gj t30 true (fun J => J0 PR X t32 [] J) fun t33 =>
 A0 PR (do pure (if ← asBool t30 then t33 else (.bool false))) fun t34 =>
 B3 t34 (
 B2 PR X 43 [(.int .i64 13)] fun t35 =>
 B6 PR X (Instr.storeAt 44 t6 t35) <|
 A6 PR (D0 [.c 44 t6]) R) (
 J1 t9_1))) fun J2 =>
 A0 PR (Instr.fieldAt 52 t4 0) fun t10 =>
 A6 PR (Instr.loadAt 3 t10) fun t11 =>
 A0 PR (binOp .eql 3 t11 (.int .i64 0)) fun t12 =>
 gj t12 true (fun J => A0 PR (Instr.fieldAt 47 t5 0) J) fun t14 =>
 gj t12 true (fun J => A6 PR (Instr.loadAt 3 t14) J) fun t15 =>
 gj t12 true (fun J => A0 PR (binOp .eql 3 t15 (.int .i64 0)) J) fun t16 =>
 A0 PR (do pure (if ← asBool t12 then t16 else (.bool false))) fun t17 =>
 B3 t17 (
 J2 t17) (
 A0 PR (Instr.fieldAt 52 t4 0) fun t18 =>
 A6 PR (Instr.loadAt 3 t18) fun t19 =>
 A0 PR (binOp .eql 3 t19 (.int .i64 1)) fun t20 =>
 gj t20 true (fun J => A0 PR (Instr.fieldAt 47 t5 0) J) fun t22 =>
 gj t20 true (fun J => A6 PR (Instr.loadAt 3 t22) J) fun t23 =>
 gj t20 true (fun J => A0 PR (binOp .neq 3 t23 (.int .i64 0)) J) fun t24 =>
 A0 PR (do pure (if ← asBool t20 then t24 else (.bool false))) fun t25 =>
 J2 t25)
theorem A3v : B0 PR 36 := A8 Tryz.func36 (by kernel_rfl) rfl
theorem B1Q {X : Nat → Prop} {t0 t1 t2 : Value} {R : Value → WP} {w : World} (h : A4G X t0 t1 t2 R w) : Fn PR X 36 #[t0, t1, t2] w R := C7 (args := [t0, t1, t2]) mixed Tryz.func36 (by kernel_rfl) h
def A2q (X : Nat → Prop) (t0 : Value) (R : Value → WP) : WP :=
 drw <|
 A0 PR (Instr.fieldAt 47 t0 4) fun t2 =>
 A6 PR (Instr.loadAt 3 t2) fun t3 =>
 A0 PR (binOp .geq 3 t3 (.int .i64 0)) fun t4 =>
 gj t4 true (fun J => A0 PR (Instr.fieldAt 47 t0 6) J) fun t6 =>
 gj t4 true (fun J => A6 PR (Instr.loadAt 44 t6) J) fun t7 =>
 gj t4 true (fun J => B2 PR X 43 [(.int .i64 13)] J) fun t8 =>
 watch PR [((some (t4, true)), (Instr.loadAt 44 t6), t7)] <|
 gj t4 true (fun J => A6 PR (n8 .eql 44 (.tmp 7) (.tmp 8) t7 t8) J) fun t9 =>
 A0 PR (do pure (if ← asBool t4 then t9 else (.bool false))) fun t10 =>
 R t10
theorem A8b : B0 PR 42 := A8 Tryz.func42 (by kernel_rfl) rfl
theorem A8e {X : Nat → Prop} {t0 : Value} {R : Value → WP} {w : World} (h : A2q X t0 R w) : Fn PR X 42 #[t0] w R := C7 (args := [t0]) mixed Tryz.func42 (by kernel_rfl) h
def A8B (X : Nat → Prop) (t0 : Value) (R : Value → WP) : WP :=
 B1 PR X (Instr.alloc 44 true (.tuple #[])) fun t2 =>
 A0 PR (Instr.build 44 #[(0, t0)]) fun t4 =>
 B6 PR X (Instr.storeAt 44 t2 t4) <|
 A6 PR (D0 [.c 44 t2]) R
theorem w9 : B0 PR 43 := A8 Tryz.func43 (by kernel_rfl) rfl
theorem B4d {X : Nat → Prop} {t0 : Value} {R : Value → WP} {w : World} (h : A8B X t0 R w) : Fn PR X 43 #[t0] w R := C7 (args := [t0]) mixed Tryz.func43 (by kernel_rfl) h
end Go.Proofs.YtlplkjgcfjdinaaGreat
namespace Go.Proofs.YtlplkjgcfjdinaaGreat
open Go
def A14 (X : Nat → Prop) (t0 : Value) (R : Value → WP) : WP :=
 B1 PR X (Instr.box 27 t0) fun t1 =>
 jn (n := 1) (fun t2 =>
 jn (n := 3) (fun t3 t2_1 t4 =>
 A0 PR (Instr.fieldAt 27 t1 0) fun t41 =>
 A6 PR (Instr.loadAt 23 t41) fun t42 =>
 B2 PR X 19 [t42] fun t43 =>
 R t43) fun J1 =>
 lp (n := 3) (fun L2 t3_1 t2_2 t4_1 =>
 jn (n := 0) (
 jn (n := 2) (fun t3_2 t2_3 =>
 A0 PR (binOp .add 3 t4_1 (.int .i64 1)) fun t21 =>
 L2 t3_2 t2_3 t21) fun J3 =>
 A0 PR (Instr.fieldAt 27 t1 1) fun t23 =>
 A6 PR (Instr.loadAt 24 t23) fun t24 =>
 A0 PR (Instr.indexAt 24 t24 t4_1) fun t26 =>
 A6 PR (Instr.loadAt 53 t26) fun t27 =>
 A0 PR (A7 .len #[53] 0 [t27]) fun t28 =>
 A0 PR (binOp .add 3 t3_1 t28) fun t29 =>
 A0 PR (binOp .gtr 3 t29 (.int .i64 24)) fun t31 =>
 gj t31 false (fun J => A0 PR (Instr.fieldAt 27 t1 1) J) fun t33 =>
 gj t31 false (fun J => A6 PR (Instr.loadAt 24 t33) J) fun t34 =>
 gj t31 false (fun J => J t4_1) fun t35 =>
 gj t31 false (fun J => A0 PR (Instr.indexAt 24 t34 t35) J) fun t36 =>
 gj t31 false (fun J => A6 PR (Instr.loadAt 53 t36) J) fun t37 =>
 gj t31 false (fun J => B2 PR X 18 [t37, (.int .i64 24)] J) fun t38 =>
 gj t31 false (fun J => A0 PR (Op.unary .not t38) J) fun t39 =>
 A0 PR (do pure (if ← asBool t31 then (.bool true) else t39)) fun t40 =>
 B3 t40 (
 R (.bool false)) (
 J3 t29 t2_2)) fun J4 =>
 A0 PR (Instr.fieldAt 27 t1 1) fun t16 =>
 A6 PR (Instr.loadAt 24 t16) fun t17 =>
 A0 PR (A7 .len #[24] 0 [t17]) fun t18 =>
 A0 PR (binOp .lss 3 t4_1 t18) fun t19 =>
 B3 t19 (
 J4) (
 J1 t3_1 t2_2 t4_1)) (.int .i64 0) t2 (.int .i64 0)) fun J5 =>
 A0 PR (Instr.fieldAt 27 t1 1) fun t5 =>
 A6 PR (Instr.loadAt 24 t5) fun t6 =>
 A0 PR (A7 .len #[24] 0 [t6]) fun t7 =>
 A0 PR (binOp .gtr 3 t7 (.int .i64 7)) fun t8 =>
 gj t8 false (fun J => A0 PR (Instr.fieldAt 27 t1 2) J) fun t10 =>
 gj t8 false (fun J => A6 PR (Instr.loadAt 25 t10) J) fun t11 =>
 gj t8 false (fun J => A0 PR (A7 .len #[25] 0 [t11]) J) fun t12 =>
 gj t8 false (fun J => A0 PR (binOp .gtr 3 t12 (.int .i64 400)) J) fun t13 =>
 A0 PR (do pure (if ← asBool t8 then (.bool true) else t13)) fun t14 =>
 B3 t14 (
 R (.bool false)) (
 J5 (.bool false))
theorem A7a : B0 PR 7 := A8 Tryz.func7 (by kernel_rfl) rfl
theorem A74 {X : Nat → Prop} {t0 : Value} {R : Value → WP} {w : World} (h : A14 X t0 R w) : Fn PR X 7 #[t0] w R := C7 (args := [t0]) mixed Tryz.func7 (by kernel_rfl) h
end Go.Proofs.YtlplkjgcfjdinaaGreat
namespace Go.Proofs.YtlplkjgcfjdinaaGreat
open Go
def A16 (X : Nat → Prop) (t0 : Value) (R : Value → WP) : WP :=
 A0 PR (A7 .len #[28] 0 [t0]) fun t4 =>
 A0 PR (binOp .leq 3 t4 (.int .i64 24)) fun t5 =>
 R t5
theorem A7B : B0 PR 8 := A8 Tryz.func8 (by kernel_rfl) rfl
theorem A8Q {X : Nat → Prop} {t0 : Value} {R : Value → WP} {w : World} (h : A16 X t0 R w) : Fn PR X 8 #[t0] w R := C7 (args := [t0]) mixed Tryz.func8 (by kernel_rfl) h
def y6 (X : Nat → Prop) (t0 : Value) (R : Value → WP) : WP :=
 jn (n := 2) (fun t3 t4 =>
 R t3) fun J1 =>
 lp (n := 2) (fun L2 t3_1 t4_1 =>
 jn (n := 0) (
 jn (n := 1) (fun t3_2 =>
 A0 PR (binOp .add 3 t4_1 (.int .i64 1)) fun t10 =>
 L2 t3_2 t10) fun J3 =>
 A0 PR (Instr.indexAt 28 t0 t4_1) fun t13 =>
 A0 PR (Instr.fieldAt 46 t13 3) fun t14 =>
 A6 PR (Instr.loadAt 3 t14) fun t15 =>
 A0 PR (binOp .geq 3 t15 (.int .i64 0)) fun t16 =>
 B3 t16 (
 B2 PR X 23 [t0, t3_1, t4_1] fun t20 =>
 J3 t20) (
 J3 t3_1)) fun J4 =>
 A0 PR (A7 .len #[28] 0 [t0]) fun t7 =>
 A0 PR (binOp .lss 3 t4_1 t7) fun t8 =>
 B3 t8 (
 J4) (
 J1 t3_1 t4_1)) (.slice none 0 0) (.int .i64 0)
theorem u3 : B0 PR 12 := A8 Tryz.func12 (by kernel_rfl) rfl
theorem A4L {X : Nat → Prop} {t0 : Value} {R : Value → WP} {w : World} (h : y6 X t0 R w) : Fn PR X 12 #[t0] w R := C7 (args := [t0]) mixed Tryz.func12 (by kernel_rfl) h
def A1k (X : Nat → Prop) (t0 : Value) (R : Value → WP) : WP :=
 jn (n := 2) (fun t2 t3 =>
 R (.bool true)) fun J1 =>
 lp (n := 2) (fun L2 t2_1 t3_1 =>
 jn (n := 0) (
 jn (n := 1) (fun t2_2 =>
 A0 PR (binOp .add 3 t3_1 (.int .i64 1)) fun t11 =>
 L2 t2_2 t11) fun J3 =>
 A0 PR (Instr.indexAt 28 t0 t3_1) fun t14 =>
 A6 PR (Instr.loadAt 46 t14) fun t15 =>
 B1 PR X (Instr.alloc 46 true (.tuple #[])) fun t4 =>
 B6 PR X (Instr.storeAt 46 t4 t15) <|
 jn (n := 1) (fun t2_3 =>
 jn (n := 1) (fun t2_4 =>
 lp (n := 2) (fun L4 t2_5 t5 =>
 jn (n := 0) (
 jn (n := 1) (fun t2_6 =>
 A0 PR (binOp .add 3 t5 (.int .i64 1)) fun t43 =>
 L4 t2_6 t43) fun J5 =>
 drw <|
 A0 PR (Instr.indexAt 28 t0 t5) fun t46 =>
 A0 PR (Instr.fieldAt 46 t46 3) fun t47 =>
 A6 PR (Instr.loadAt 3 t47) fun t48 =>
 A0 PR (Instr.fieldAt 46 t4 3) fun t49 =>
 A6 PR (Instr.loadAt 3 t49) fun t50 =>
 A0 PR (binOp .eql 3 t48 t50) fun t51 =>
 B3 t51 (
 R (.bool false)) (
 J5 t2_5)) fun J6 =>
 A0 PR (binOp .lss 3 t5 t3_1) fun t41 =>
 B3 t41 (
 J6) (
 J3 t2_5)) t2_4 (.int .i64 0)) fun J7 =>
 A0 PR (Instr.fieldAt 46 t4 2) fun t22 =>
 A6 PR (Instr.loadAt 3 t22) fun t23 =>
 A0 PR (Instr.fieldAt 46 t4 3) fun t24 =>
 A6 PR (Instr.loadAt 3 t24) fun t25 =>
 A0 PR (binOp .gtr 3 t23 t25) fun t26 =>
 gj t26 false (fun J => A0 PR (Instr.fieldAt 46 t4 4) J) fun t28 =>
 gj t26 false (fun J => A6 PR (Instr.loadAt 3 t28) J) fun t29 =>
 gj t26 false (fun J => A0 PR (binOp .geq 3 t29 (.int .i64 0)) J) fun t30 =>
 gj t26 false (fun J => J t30) fun t31 =>
 gj t31 true (fun J => A0 PR (Instr.fieldAt 46 t4 3) J) fun t32 =>
 gj t31 true (fun J => A6 PR (Instr.loadAt 3 t32) J) fun t33 =>
 gj t31 true (fun J => A0 PR (Instr.fieldAt 46 t4 4) J) fun t34 =>
 gj t31 true (fun J => A6 PR (Instr.loadAt 3 t34) J) fun t35 =>
 gj t31 true (fun J => A0 PR (binOp .gtr 3 t33 t35) J) fun t36 =>
 gj t26 false (fun J => A0 PR (do pure (if ← asBool t31 then t36 else (.bool false))) J) fun t37 =>
 A0 PR (do pure (if ← asBool t26 then (.bool true) else t37)) fun t38 =>
 B3 t38 (
 R (.bool false)) (
 J7 t2_3)) fun J8 =>
 A0 PR (Instr.fieldAt 46 t4 3) fun t16 =>
 A6 PR (Instr.loadAt 3 t16) fun t17 =>
 A0 PR (binOp .lss 3 t17 (.int .i64 0)) fun t18 =>
 B3 t18 (
 jn (n := 1) (fun t2_7 =>
 J3 t2_7) fun J9 =>
 A0 PR (Instr.fieldAt 46 t4 4) fun t19 =>
 A6 PR (Instr.loadAt 3 t19) fun t20 =>
 A0 PR (binOp .geq 3 t20 (.int .i64 0)) fun t21 =>
 B3 t21 (
 R (.bool false)) (
 J9 t2_1)) (
 J8 t2_1)) fun J10 =>
 A0 PR (A7 .len #[28] 0 [t0]) fun t8 =>
 A0 PR (binOp .lss 3 t3_1 t8) fun t9 =>
 B3 t9 (
 J10) (
 J1 t2_1 t3_1)) (.bool false) (.int .i64 0)
theorem A5r : B0 PR 13 := A8 Tryz.func13 (by kernel_rfl) rfl
theorem A60 {X : Nat → Prop} {t0 : Value} {R : Value → WP} {w : World} (h : A1k X t0 R w) : Fn PR X 13 #[t0] w R := C7 (args := [t0]) mixed Tryz.func13 (by kernel_rfl) h
def A0y (X : Nat → Prop) (t0 t1 t2 : Value) (R : Value → WP) : WP :=
 B1 PR X (Instr.box 23 t0) fun t3 =>
 jn (n := 1) (fun t6 =>
 A6 PR (Instr.loadAt 23 t3) fun t16 =>
 B2 PR X 27 [t16] fun t17 =>
 B1 PR X (Instr.alloc 68 true (.tuple #[])) fun t7 =>
 B6 PR X (Instr.storeAt 68 t7 t17) <|
 B2 PR X 12 [t2] fun t19 =>
 jn (n := 2) (fun t6_1 t9 =>
 R (.int .i64 (-1))) fun J1 =>
 lp (n := 2) (fun L2 t6_2 t9_1 =>
 jn (n := 0) (
 jn (n := 1) (fun t6_3 =>
 A0 PR (binOp .add 3 t9_1 (.int .i64 1)) fun t25 =>
 L2 t6_3 t25) fun J3 =>
 A0 PR (Instr.indexAt 35 t19 t9_1) fun t29 =>
 A6 PR (Instr.loadAt 3 t29) fun t30 =>
 A0 PR (Instr.indexAt 28 t2 t30) fun t31 =>
 A6 PR (Instr.loadAt 46 t31) fun t32 =>
 B1 PR X (Instr.alloc 46 true (.tuple #[])) fun t10 =>
 B6 PR X (Instr.storeAt 46 t10 t32) <|
 jn (n := 1) (fun t6_4 =>
 drw <|
 kt (n := 2) (fun t11 t12 =>
 A6 PR (Instr.loadAt 68 t11) fun t53 =>
 B6 PR X (Instr.storeAt 68 t7 t53) <|
 A0 PR (Instr.fieldAt 46 t10 4) fun t54 =>
 A6 PR (Instr.loadAt 3 t54) fun t55 =>
 A0 PR (binOp .geq 3 t55 (.int .i64 0)) fun t56 =>
 gj t56 true (fun J => A0 PR (Instr.fieldAt 46 t10 6) J) fun t58 =>
 gj t56 true (fun J => A6 PR (Instr.loadAt 44 t58) J) fun t59 =>
 gj t56 true (fun J => A6 PR (Instr.loadAt 44 t12) J) fun t60 =>
 gj t56 true (fun J => A6 PR (n8 .neq 44 (.tmp 59) (.tmp 60) t59 t60) J) fun t61 =>
 A0 PR (do pure (if ← asBool t56 then t61 else (.bool false))) fun t62 =>
 B3 t62 (
 R t9_1) (
 J3 t6_4)) fun C4 =>
 A6 PR (Instr.loadAt 68 t7) fun t39_1 =>
 A0 PR (Instr.fieldAt 46 t10 0) fun t41_1 =>
 A6 PR (Instr.loadAt 3 t41_1) fun t42_1 =>
 A0 PR (Instr.indexAt 24 t1 t42_1) fun t43_1 =>
 A6 PR (Instr.loadAt 53 t43_1) fun t44_1 =>
 A0 PR (Instr.fieldAt 46 t10 1) fun t45_1 =>
 A6 PR (Instr.loadAt 3 t45_1) fun t46_1 =>
 A0 PR (Instr.indexAt 53 t44_1 t46_1) fun t47_1 =>
 A6 PR (Instr.loadAt 52 t47_1) fun t48_1 =>
 A6 PR (Instr.loadAt 46 t10) fun t49_1 =>
 both (B2 PR X 29 [t39_1, t48_1, t49_1] fun t50_5 =>
 A0 PR (Instr.extract t50_5 0) fun t51_5 =>
 A0 PR (Instr.extract t50_5 1) fun t52_5 =>
 both (B1 PR X (Instr.alloc 68 true (.tuple #[])) fun t11_5 =>
 B1 PR X (Instr.alloc 44 true (.tuple #[])) fun t12_5 =>
 B6 PR X (Instr.storeAt 68 t11_5 t51_5) <|
 B6 PR X (Instr.storeAt 44 t12_5 t52_5) <|
 C4 t11_5 t12_5) (both (B1 PR X (Instr.alloc 44 true (.tuple #[])) fun t12_4 =>
 B1 PR X (Instr.alloc 68 true (.tuple #[])) fun t11_4 =>
 B6 PR X (Instr.storeAt 68 t11_4 t51_5) <|
 B6 PR X (Instr.storeAt 44 t12_4 t52_5) <|
 C4 t11_4 t12_4) ((fun _ => True)))) (both (B1 PR X (Instr.alloc 68 true (.tuple #[])) fun t11_3 =>
 watch PR [(none, (Instr.loadAt 46 t10), t49_1), (none, (Instr.loadAt 52 t47_1), t48_1), (none, (Instr.loadAt 3 t45_1), t46_1), (none, (Instr.loadAt 53 t43_1), t44_1), (none, (Instr.loadAt 3 t41_1), t42_1), (none, (Instr.loadAt 68 t7), t39_1)] <|
 both (B2 PR X 29 [t39_1, t48_1, t49_1] fun t50_4 =>
 A0 PR (Instr.extract t50_4 0) fun t51_4 =>
 A0 PR (Instr.extract t50_4 1) fun t52_4 =>
 B1 PR X (Instr.alloc 44 true (.tuple #[])) fun t12_3 =>
 B6 PR X (Instr.storeAt 68 t11_3 t51_4) <|
 B6 PR X (Instr.storeAt 44 t12_3 t52_4) <|
 C4 t11_3 t12_3) (both (B1 PR X (Instr.alloc 44 true (.tuple #[])) fun t12_2 =>
 watch PR [(none, (Instr.loadAt 46 t10), t49_1), (none, (Instr.loadAt 52 t47_1), t48_1), (none, (Instr.loadAt 3 t45_1), t46_1), (none, (Instr.loadAt 53 t43_1), t44_1), (none, (Instr.loadAt 3 t41_1), t42_1), (none, (Instr.loadAt 68 t7), t39_1)] <|
 B2 PR X 29 [t39_1, t48_1, t49_1] fun t50_3 =>
 A0 PR (Instr.extract t50_3 0) fun t51_3 =>
 A0 PR (Instr.extract t50_3 1) fun t52_3 =>
 B6 PR X (Instr.storeAt 68 t11_3 t51_3) <|
 B6 PR X (Instr.storeAt 44 t12_2 t52_3) <|
 C4 t11_3 t12_2) ((fun _ => True)))) (both (B1 PR X (Instr.alloc 44 true (.tuple #[])) fun t12_1 =>
 watch PR [(none, (Instr.loadAt 46 t10), t49_1), (none, (Instr.loadAt 52 t47_1), t48_1), (none, (Instr.loadAt 3 t45_1), t46_1), (none, (Instr.loadAt 53 t43_1), t44_1), (none, (Instr.loadAt 3 t41_1), t42_1), (none, (Instr.loadAt 68 t7), t39_1)] <|
 both (B2 PR X 29 [t39_1, t48_1, t49_1] fun t50_2 =>
 A0 PR (Instr.extract t50_2 0) fun t51_2 =>
 A0 PR (Instr.extract t50_2 1) fun t52_2 =>
 B1 PR X (Instr.alloc 68 true (.tuple #[])) fun t11_2 =>
 B6 PR X (Instr.storeAt 68 t11_2 t51_2) <|
 B6 PR X (Instr.storeAt 44 t12_1 t52_2) <|
 C4 t11_2 t12_1) (both (B1 PR X (Instr.alloc 68 true (.tuple #[])) fun t11_1 =>
 watch PR [(none, (Instr.loadAt 46 t10), t49_1), (none, (Instr.loadAt 52 t47_1), t48_1), (none, (Instr.loadAt 3 t45_1), t46_1), (none, (Instr.loadAt 53 t43_1), t44_1), (none, (Instr.loadAt 3 t41_1), t42_1), (none, (Instr.loadAt 68 t7), t39_1)] <|
 B2 PR X 29 [t39_1, t48_1, t49_1] fun t50_1 =>
 A0 PR (Instr.extract t50_1 0) fun t51_1 =>
 A0 PR (Instr.extract t50_1 1) fun t52_1 =>
 B6 PR X (Instr.storeAt 68 t11_1 t51_1) <|
 B6 PR X (Instr.storeAt 44 t12_1 t52_1) <|
 C4 t11_1 t12_1) ((fun _ => True)))) ((fun _ => True))))) fun J5 =>
 A6 PR (Instr.loadAt 46 t10) fun t34 =>
 B2 PR X 28 [t1, t34] fun t35 =>
 A0 PR (Op.unary .not t35) fun t36 =>
 B3 t36 (
 R t9_1) (
 J5 t6_2)) fun J6 =>
 A0 PR (A7 .len #[35] 0 [t19]) fun t22 =>
 A0 PR (binOp .lss 3 t9_1 t22) fun t23 =>
 B3 t23 (
 J6) (
 J1 t6_2 t9_1)) t6 (.int .i64 0)) fun J7 =>
 A6 PR (Instr.loadAt 23 t3) fun t13 =>
 B2 PR X 26 [t13] fun t14 =>
 A0 PR (binOp .neq 42 t14 (.int .i64 0)) fun t15 =>
 B3 t15 (
 R (.int .i64 0)) (
 J7 (.int .i64 0))
theorem A45 : B0 PR 16 := A8 Tryz.func16 (by kernel_rfl) rfl
theorem A5y {X : Nat → Prop} {t0 t1 t2 : Value} {R : Value → WP} {w : World} (h : A0y X t0 t1 t2 R w) : Fn PR X 16 #[t0, t1, t2] w R := C7 (args := [t0, t1, t2]) mixed Tryz.func16 (by kernel_rfl) h
def A2L (X : Nat → Prop) (t0 t1 t2 : Value) (R : Value → WP) : WP :=
 jn (n := 3) (fun t8 t7 t9 =>
 jn (n := 1) (fun t7_1 =>
 R t7_1) fun J1 =>
 A0 PR (Op.unary .not t8) fun t46 =>
 B3 t46 (
 B1 PR X (Instr.buildSlice 35 1 #[(0, t2)]) fun t49 =>
 B1 PR X (A7 .append #[35, 35] 35 [t7, t49]) fun t50 =>
 J1 t50) (
 J1 t7)) fun J2 =>
 lp (n := 3) (fun L3 t8_1 t7_2 t9_1 =>
 jn (n := 0) (
 jn (n := 2) (fun t8_2 t7_3 =>
 A0 PR (binOp .add 3 t9_1 (.int .i64 1)) fun t15 =>
 L3 t8_2 t7_3 t15) fun J4 =>
 jn (n := 2) (fun t7_4 t8_3 =>
 A0 PR (Instr.indexAt 35 t1 t9_1) fun t41 =>
 A6 PR (Instr.loadAt 3 t41) fun t42 =>
 B1 PR X (Instr.buildSlice 35 1 #[(0, t42)]) fun t43 =>
 B1 PR X (A7 .append #[35, 35] 35 [t7_4, t43]) fun t44 =>
 J4 t8_3 t44) fun J5 =>
 drw <|
 A0 PR (Op.unary .not t8_1) fun t17 =>
 gj t17 true (fun J => J t0) fun t19 =>
 gj t17 true (fun J => J t1) fun t20 =>
 gj t17 true (fun J => J t9_1) fun t21 =>
 gj t17 true (fun J => A0 PR (Instr.indexAt 35 t20 t21) J) fun t22 =>
 gj t17 true (fun J => A6 PR (Instr.loadAt 3 t22) J) fun t23 =>
 gj t17 true (fun J => A0 PR (Instr.indexAt 28 t19 t23) J) fun t24 =>
 gj t17 true (fun J => A0 PR (Instr.fieldAt 46 t24 3) J) fun t25 =>
 gj t17 true (fun J => A6 PR (Instr.loadAt 3 t25) J) fun t26 =>
 gj t17 true (fun J => J t0) fun t27 =>
 gj t17 true (fun J => J t2) fun t28 =>
 gj t17 true (fun J => A0 PR (Instr.indexAt 28 t27 t28) J) fun t29 =>
 gj t17 true (fun J => A0 PR (Instr.fieldAt 46 t29 3) J) fun t30 =>
 gj t17 true (fun J => A6 PR (Instr.loadAt 3 t30) J) fun t31 =>
 gj t17 true (fun J => A0 PR (binOp .gtr 3 t26 t31) J) fun t32 =>
 A0 PR (do pure (if ← asBool t17 then t32 else (.bool false))) fun t33 =>
 B3 t33 (
 B1 PR X (Instr.buildSlice 35 1 #[(0, t2)]) fun t36 =>
 B1 PR X (A7 .append #[35, 35] 35 [t7_2, t36]) fun t37 =>
 J5 t37 (.bool true)) (
 J5 t7_2 t8_1)) fun J6 =>
 A0 PR (A7 .len #[35] 0 [t1]) fun t12 =>
 A0 PR (binOp .lss 3 t9_1 t12) fun t13 =>
 B3 t13 (
 J6) (
 J2 t8_1 t7_2 t9_1)) (.bool false) (.slice none 0 0) (.int .i64 0)
theorem A66 : B0 PR 23 := A8 Tryz.func23 (by kernel_rfl) rfl
theorem A7v {X : Nat → Prop} {t0 t1 t2 : Value} {R : Value → WP} {w : World} (h : A2L X t0 t1 t2 R w) : Fn PR X 23 #[t0, t1, t2] w R := C7 (args := [t0, t1, t2]) mixed Tryz.func23 (by kernel_rfl) h
def A2j (X : Nat → Prop) (t0 t1 : Value) (R : Value → WP) : WP :=
 B1 PR X (Instr.box 46 t1) fun t3 =>
 drw <|
 A0 PR (Instr.fieldAt 46 t3 0) fun t5 =>
 A6 PR (Instr.loadAt 3 t5) fun t6 =>
 A0 PR (binOp .geq 3 t6 (.int .i64 0)) fun t7 =>
 gj t7 true (fun J => A0 PR (Instr.fieldAt 46 t3 0) J) fun t9 =>
 gj t7 true (fun J => A6 PR (Instr.loadAt 3 t9) J) fun t10 =>
 gj t7 true (fun J => J t0) fun t11 =>
 gj t7 true (fun J => A0 PR (A7 .len #[24] 0 [t11]) J) fun t12 =>
 gj t7 true (fun J => A0 PR (binOp .lss 3 t10 t12) J) fun t13 =>
 A0 PR (do pure (if ← asBool t7 then t13 else (.bool false))) fun t14 =>
 gj t14 true (fun J => A0 PR (Instr.fieldAt 46 t3 1) J) fun t16 =>
 gj t14 true (fun J => A6 PR (Instr.loadAt 3 t16) J) fun t17 =>
 gj t14 true (fun J => A0 PR (binOp .geq 3 t17 (.int .i64 0)) J) fun t18 =>
 A0 PR (do pure (if ← asBool t14 then t18 else (.bool false))) fun t19 =>
 gj t19 true (fun J => A0 PR (Instr.fieldAt 46 t3 1) J) fun t21 =>
 gj t19 true (fun J => A6 PR (Instr.loadAt 3 t21) J) fun t22 =>
 gj t19 true (fun J => J t0) fun t23 =>
 gj t19 true (fun J => A0 PR (Instr.fieldAt 46 t3 0) J) fun t24 =>
 gj t19 true (fun J => A6 PR (Instr.loadAt 3 t24) J) fun t25 =>
 gj t19 true (fun J => A0 PR (A7 .max #[3, 3] 0 [t25, (.int .i64 0)]) J) fun t26 =>
 gj t19 true (fun J => A0 PR (Instr.indexAt 24 t23 t26) J) fun t27 =>
 gj t19 true (fun J => A6 PR (Instr.loadAt 53 t27) J) fun t28 =>
 gj t19 true (fun J => A0 PR (A7 .len #[53] 0 [t28]) J) fun t29 =>
 gj t19 true (fun J => A0 PR (binOp .lss 3 t22 t29) J) fun t30 =>
 A0 PR (do pure (if ← asBool t19 then t30 else (.bool false))) fun t31 =>
 R t31
theorem A8U : B0 PR 28 := A8 Tryz.func28 (by kernel_rfl) rfl
theorem A8k {X : Nat → Prop} {t0 t1 : Value} {R : Value → WP} {w : World} (h : A2j X t0 t1 R w) : Fn PR X 28 #[t0, t1] w R := C7 (args := [t0, t1]) mixed Tryz.func28 (by kernel_rfl) h
def v7 (X : Nat → Prop) (t0 t1 t2 : Value) (R : Value → WP) : WP :=
 B1 PR X (Instr.box 68 t0) fun t3 =>
 B1 PR X (Instr.box 52 t1) fun t4 =>
 B1 PR X (Instr.box 46 t2) fun t5 =>
 B1 PR X (Instr.alloc 68 true (.tuple #[])) fun t6 =>
 B1 PR X (Instr.alloc 44 true (.tuple #[])) fun t7 =>
 jn (n := 0) (
 A0 PR (Instr.build 44 #[(0, (.int .i64 13))]) fun t29 =>
 B1 PR X (Instr.alloc 44 true (.tuple #[])) fun t8 =>
 B6 PR X (Instr.storeAt 44 t8 t29) <|
 jn (n := 0) (
 A6 PR (Instr.loadAt 68 t3) fun t46 =>
 A6 PR (Instr.loadAt 52 t4) fun t47 =>
 A0 PR (Instr.fieldAt 46 t5 5) fun t48 =>
 A6 PR (Instr.loadAt 3 t48) fun t49 =>
 B2 PR X 39 [t46, t47, t49] fun t50 =>
 A0 PR (Instr.extract t50 0) fun t51 =>
 A0 PR (Instr.extract t50 1) fun t52 =>
 B6 PR X (Instr.storeAt 68 t6 t51) <|
 B6 PR X (Instr.storeAt 44 t7 t52) <|
 A6 PR (D0 [.c 68 t6, .c 44 t7]) R) fun J1 =>
 A0 PR (Instr.fieldAt 52 t4 0) fun t30 =>
 A6 PR (Instr.loadAt 3 t30) fun t31 =>
 A0 PR (binOp .eql 3 t31 (.int .i64 1)) fun t32 =>
 gj t32 true (fun J => A0 PR (Instr.fieldAt 46 t5 4) J) fun t34 =>
 gj t32 true (fun J => A6 PR (Instr.loadAt 3 t34) J) fun t35 =>
 gj t32 true (fun J => A0 PR (binOp .geq 3 t35 (.int .i64 0)) J) fun t36 =>
 A0 PR (do pure (if ← asBool t32 then t36 else (.bool false))) fun t37 =>
 gj t37 true (fun J => A0 PR (Instr.fieldAt 46 t5 6) J) fun t39 =>
 gj t37 true (fun J => A6 PR (Instr.loadAt 44 t39) J) fun t40 =>
 gj t37 true (fun J => A6 PR (Instr.loadAt 44 t8) J) fun t41 =>
 gj t37 true (fun J => A6 PR (n8 .eql 44 (.tmp 40) (.tmp 41) t40 t41) J) fun t42 =>
 A0 PR (do pure (if ← asBool t37 then t42 else (.bool false))) fun t43 =>
 B3 t43 (
 drw <|
 A6 PR (Instr.loadAt 68 t3) fun t44 =>
 A6 PR (Instr.loadAt 44 t8) fun t45 =>
 B6 PR X (Instr.storeAt 68 t6 t44) <|
 watch PR [(none, (Instr.loadAt 44 t8), t45)] <|
 B6 PR X (Instr.storeAt 44 t7 t45) <|
 A6 PR (D0 [.c 68 t6, .c 44 t7]) R) (
 J1)) fun J2 =>
 A0 PR (Instr.fieldAt 52 t4 0) fun t9 =>
 A6 PR (Instr.loadAt 3 t9) fun t10 =>
 A0 PR (binOp .eql 3 t10 (.int .i64 0)) fun t11 =>
 gj t11 true (fun J => A0 PR (Instr.fieldAt 46 t5 0) J) fun t13 =>
 gj t11 true (fun J => A6 PR (Instr.loadAt 3 t13) J) fun t14 =>
 gj t11 true (fun J => A0 PR (binOp .eql 3 t14 (.int .i64 0)) J) fun t15 =>
 A0 PR (do pure (if ← asBool t11 then t15 else (.bool false))) fun t16 =>
 gj t16 false (fun J => A0 PR (Instr.fieldAt 52 t4 0) J) fun t18 =>
 gj t16 false (fun J => A6 PR (Instr.loadAt 3 t18) J) fun t19 =>
 gj t16 false (fun J => A0 PR (binOp .eql 3 t19 (.int .i64 1)) J) fun t20 =>
 gj t16 false (fun J => J t20) fun t21 =>
 gj t21 true (fun J => A0 PR (Instr.fieldAt 46 t5 0) J) fun t22 =>
 gj t21 true (fun J => A6 PR (Instr.loadAt 3 t22) J) fun t23 =>
 gj t21 true (fun J => A0 PR (binOp .neq 3 t23 (.int .i64 0)) J) fun t24 =>
 gj t16 false (fun J => A0 PR (do pure (if ← asBool t21 then t24 else (.bool false))) J) fun t25 =>
 A0 PR (do pure (if ← asBool t16 then (.bool true) else t25)) fun t26 =>
 B3 t26 (
 A6 PR (Instr.loadAt 68 t3) fun t27 =>
 A0 PR (Instr.build 44 #[(0, (.int .i64 1))]) fun t28 =>
 B6 PR X (Instr.storeAt 68 t6 t27) <|
 B6 PR X (Instr.storeAt 44 t7 t28) <|
 A6 PR (D0 [.c 68 t6, .c 44 t7]) R) (
 J2)
theorem A3k : B0 PR 29 := A8 Tryz.func29 (by kernel_rfl) rfl
theorem A31 {X : Nat → Prop} {t0 t1 t2 : Value} {R : Value → WP} {w : World} (h : v7 X t0 t1 t2 R w) : Fn PR X 29 #[t0, t1, t2] w R := C7 (args := [t0, t1, t2]) mixed Tryz.func29 (by kernel_rfl) h
end Go.Proofs.YtlplkjgcfjdinaaGreat
namespace Go.Proofs.YtlplkjgcfjdinaaGreat
open Go
def A1P (X : Nat → Prop) (t0 t1 : Value) (R : Value → WP) : WP :=
 jn (n := 1) (fun t4 =>
 jn (n := 2) (fun t4_1 t5 =>
 R (.bool true)) fun J1 =>
 lp (n := 2) (fun L2 t4_2 t5_1 =>
 jn (n := 0) (
 jn (n := 1) (fun t4_3 =>
 A0 PR (binOp .add 3 t5_1 (.int .i64 1)) fun t16 =>
 L2 t4_3 t16) fun J3 =>
 drw <|
 A0 PR (Instr.indexAt 35 t0 t5_1) fun t19 =>
 A6 PR (Instr.loadAt 3 t19) fun t20 =>
 A0 PR (Instr.indexAt 35 t1 t5_1) fun t23 =>
 A6 PR (Instr.loadAt 3 t23) fun t24 =>
 A0 PR (binOp .neq 3 t20 t24) fun t25 =>
 B3 t25 (
 R (.bool false)) (
 J3 t4_2)) fun J4 =>
 A0 PR (A7 .len #[35] 0 [t0]) fun t13 =>
 A0 PR (binOp .lss 3 t5_1 t13) fun t14 =>
 B3 t14 (
 J4) (
 J1 t4_2 t5_1)) t4 (.int .i64 0)) fun J5 =>
 A0 PR (A7 .len #[35] 0 [t0]) fun t7 =>
 A0 PR (A7 .len #[35] 0 [t1]) fun t9 =>
 A0 PR (binOp .neq 3 t7 t9) fun t10 =>
 B3 t10 (
 R (.bool false)) (
 J5 (.bool false))
theorem A54 : B0 PR 10 := A8 Tryz.func10 (by kernel_rfl) rfl
theorem A63 {X : Nat → Prop} {t0 t1 : Value} {R : Value → WP} {w : World} (h : A1P X t0 t1 R w) : Fn PR X 10 #[t0, t1] w R := C7 (args := [t0, t1]) mixed Tryz.func10 (by kernel_rfl) h
def A0g (X : Nat → Prop) (t0 : Value) (R : Value → WP) : WP :=
 jn (n := 1) (fun t2 =>
 jn (n := 2) (fun t2_1 t3 =>
 R (.int .i64 0)) fun J1 =>
 lp (n := 2) (fun L2 t2_2 t3_1 =>
 jn (n := 0) (
 jn (n := 1) (fun t2_3 =>
 A0 PR (binOp .add 3 t3_1 (.int .i64 1)) fun t13 =>
 L2 t2_3 t13) fun J3 =>
 A0 PR (Instr.indexAt 50 t0 t3_1) fun t16 =>
 A6 PR (Instr.loadAt 129 t16) fun t17 =>
 B1 PR X (Instr.alloc 129 true (.tuple #[])) fun t4 =>
 B6 PR X (Instr.storeAt 129 t4 t17) <|
 A0 PR (Instr.fieldAt 129 t4 0) fun t18 =>
 A6 PR (Instr.loadAt 3 t18) fun t19 =>
 A0 PR (binOp .lss 3 t19 (.int .i64 1)) fun t20 =>
 gj t20 false (fun J => A0 PR (Instr.fieldAt 129 t4 0) J) fun t22 =>
 gj t20 false (fun J => A6 PR (Instr.loadAt 3 t22) J) fun t23 =>
 gj t20 false (fun J => A0 PR (binOp .gtr 3 t23 (.int .i64 65535)) J) fun t24 =>
 A0 PR (do pure (if ← asBool t20 then (.bool true) else t24)) fun t25 =>
 gj t25 false (fun J => A0 PR (Instr.fieldAt 129 t4 1) J) fun t27 =>
 gj t25 false (fun J => A6 PR (Instr.loadAt 3 t27) J) fun t28 =>
 gj t25 false (fun J => A0 PR (binOp .lss 3 t28 (.int .i64 1)) J) fun t29 =>
 A0 PR (do pure (if ← asBool t25 then (.bool true) else t29)) fun t30 =>
 gj t30 false (fun J => A0 PR (Instr.fieldAt 129 t4 1) J) fun t32 =>
 gj t30 false (fun J => A6 PR (Instr.loadAt 3 t32) J) fun t33 =>
 gj t30 false (fun J => A0 PR (binOp .gtr 3 t33 (.int .i64 16)) J) fun t34 =>
 A0 PR (do pure (if ← asBool t30 then (.bool true) else t34)) fun t35 =>
 gj t35 false (fun J => J t0) fun t37 =>
 gj t35 false (fun J => A0 PR (Instr.fieldAt 129 t4 0) J) fun t38 =>
 gj t35 false (fun J => A6 PR (Instr.loadAt 3 t38) J) fun t39 =>
 gj t35 false (fun J => B2 PR X 61 [t37, t39] J) fun t40 =>
 gj t35 false (fun J => J t3_1) fun t41 =>
 gj t35 false (fun J => A0 PR (binOp .neq 3 t40 t41) J) fun t42 =>
 A0 PR (do pure (if ← asBool t35 then (.bool true) else t42)) fun t43 =>
 B3 t43 (
 R (.int .i64 10)) (
 J3 t2_2)) fun J4 =>
 A0 PR (A7 .len #[50] 0 [t0]) fun t10 =>
 A0 PR (binOp .lss 3 t3_1 t10) fun t11 =>
 B3 t11 (
 J4) (
 J1 t2_2 t3_1)) t2 (.int .i64 0)) fun J5 =>
 A0 PR (A7 .len #[50] 0 [t0]) fun t6 =>
 A0 PR (binOp .gtr 3 t6 (.int .i64 32)) fun t7 =>
 B3 t7 (
 R (.int .i64 10)) (
 J5 (.int .i64 0))
theorem A4u : B0 PR 48 := A8 Tryz.func48 (by kernel_rfl) rfl
theorem A5e {X : Nat → Prop} {t0 : Value} {R : Value → WP} {w : World} (h : A0g X t0 R w) : Fn PR X 48 #[t0] w R := C7 (args := [t0]) mixed Tryz.func48 (by kernel_rfl) h
def A1F (X : Nat → Prop) (t0 t1 : Value) (R : Value → WP) : WP :=
 jn (n := 2) (fun t4 t5 =>
 R (.int .i64 (-1))) fun J1 =>
 lp (n := 2) (fun L2 t4_1 t5_1 =>
 jn (n := 0) (
 jn (n := 1) (fun t4_2 =>
 A0 PR (binOp .add 3 t5_1 (.int .i64 1)) fun t11 =>
 L2 t4_2 t11) fun J3 =>
 A0 PR (Instr.indexAt 50 t0 t5_1) fun t14 =>
 A0 PR (Instr.fieldAt 129 t14 0) fun t15 =>
 A6 PR (Instr.loadAt 3 t15) fun t16 =>
 A0 PR (binOp .eql 3 t16 t1) fun t18 =>
 B3 t18 (
 R t5_1) (
 J3 t4_1)) fun J4 =>
 A0 PR (A7 .len #[50] 0 [t0]) fun t8 =>
 A0 PR (binOp .lss 3 t5_1 t8) fun t9 =>
 B3 t9 (
 J4) (
 J1 t4_1 t5_1)) (.int .i64 0) (.int .i64 0)
theorem A0s : B0 PR 61 := A8 Tryz.func61 (by kernel_rfl) rfl
theorem A6z {X : Nat → Prop} {t0 t1 : Value} {R : Value → WP} {w : World} (h : A1F X t0 t1 R w) : Fn PR X 61 #[t0, t1] w R := C7 (args := [t0, t1]) mixed Tryz.func61 (by kernel_rfl) h
end Go.Proofs.YtlplkjgcfjdinaaGreat
namespace Go.Proofs.YtlplkjgcfjdinaaGreat
open Go
def m8 (X : Nat → Prop) (t0 t1 : Value) (R : Value → WP) : WP :=
 B1 PR X (Instr.box 27 t0) fun t2 =>
 B2 PR X 6 [] fun t9 =>
 jn (n := 1) (fun t4 =>
 jn (n := 1) (fun t4_1 =>
 B2 PR X 9 [t1] fun t22 =>
 B2 PR X 11 [t22] fun t24 =>
 B2 PR X 12 [t1] fun t26 =>
 B2 PR X 10 [t24, t26] fun t27 =>
 B2 PR X 13 [t1] fun t29 =>
 drw <|
 gj t9 true (fun J => J t27) fun t32 =>
 A0 PR (do pure (if ← asBool t9 then t32 else (.bool false))) fun t33 =>
 gj t33 true (fun J => J t22) fun t35 =>
 gj t33 true (fun J => J t29) fun t37 =>
 gj t33 true (fun J => B2 PR X 14 [t35] J) fun t36 =>
 gj t33 true (fun J => A0 PR (binOp .eql 4 t36 t37) J) fun t38 =>
 A0 PR (do pure (if ← asBool t33 then t38 else (.bool false))) fun t39 =>
 gj t39 true (fun J => A0 PR (Instr.fieldAt 27 t2 0) J) fun t41 =>
 gj t39 true (fun J => A6 PR (Instr.loadAt 23 t41) J) fun t42 =>
 gj t39 true (fun J => A0 PR (Instr.fieldAt 27 t2 1) J) fun t43 =>
 gj t39 true (fun J => A6 PR (Instr.loadAt 24 t43) J) fun t44 =>
 gj t39 true (fun J => J t22) fun t45 =>
 gj t39 true (fun J => A0 PR (Instr.fieldAt 27 t2 0) J) fun t47 =>
 gj t39 true (fun J => A6 PR (Instr.loadAt 23 t47) J) fun t48 =>
 gj t39 true (fun J => A0 PR (Instr.fieldAt 27 t2 1) J) fun t49 =>
 gj t39 true (fun J => A6 PR (Instr.loadAt 24 t49) J) fun t50 =>
 gj t39 true (fun J => J t1) fun t51 =>
 gj t39 true (fun J => B2 PR X 15 [t42, t44, t45] J) fun t46 =>
 watch PR [((some (t39, true)), (Instr.loadAt 24 t49), t50), ((some (t39, true)), (Instr.loadAt 23 t47), t48)] <|
 gj t39 true (fun J => B2 PR X 16 [t48, t50, t51] J) fun t52 =>
 gj t39 true (fun J => A0 PR (binOp .eql 3 t46 t52) J) fun t53 =>
 A0 PR (do pure (if ← asBool t39 then t53 else (.bool false))) fun t54 =>
 R t54) fun J1 =>
 A6 PR (Instr.loadAt 27 t2) fun t12 =>
 B2 PR X 7 [t12] fun t13 =>
 A0 PR (Op.unary .not t13) fun t14 =>
 gj t14 false (fun J => J t1) fun t16 =>
 gj t14 false (fun J => B2 PR X 8 [t16] J) fun t17 =>
 gj t14 false (fun J => A0 PR (Op.unary .not t17) J) fun t18 =>
 A0 PR (do pure (if ← asBool t14 then (.bool true) else t18)) fun t19 =>
 B3 t19 (
 R t9) (
 J1 t4)) fun J2 =>
 A0 PR (Op.unary .not t9) fun t11 =>
 B3 t11 (
 R (.bool false)) (
 J2 (.bool false))
theorem A3K {X : Nat → Prop} {t0 t1 : Value} {R : Value → WP} {w : World} (h : m8 X t0 t1 R w) : Fn PR X 3 #[t0, t1] w R := C7 (args := [t0, t1]) mixed Tryz.func3 (by kernel_rfl) h
def A0n (X : Nat → Prop) (R : Value → WP) : WP :=
 A0 PR (Instr.build 23 #[(0, (.int .i64 1)), (1, (.int .i64 1)), (2, (.int .i64 1)), (3, (.int .i64 5)), (4, (.int .i64 2))]) fun t6 =>
 B1 PR X (Instr.alloc 23 true (.tuple #[])) fun t1 =>
 B6 PR X (Instr.storeAt 23 t1 t6) <|
 A0 PR (Instr.build 52 #[(0, (.int .i64 1))]) fun t7 =>
 B1 PR X (Instr.buildSlice 53 1 #[(0, t7)]) fun t8 =>
 B1 PR X (Instr.buildSlice 24 1 #[(0, t8)]) fun t9 =>
 A0 PR (Instr.build 47 #[(2, (.int .i64 0)), (3, (.int .i64 1)), (4, (.int .i64 2))]) fun t10 =>
 B1 PR X (Instr.buildSlice 32 1 #[(0, t10)]) fun t11 =>
 A0 PR (Instr.build 44 #[(0, (.int .i64 1))]) fun t12 =>
 A0 PR (Instr.build 47 #[(2, (.int .i64 0)), (3, (.int .i64 1)), (4, (.int .i64 2)), (6, t12)]) fun t13 =>
 B1 PR X (Instr.buildSlice 32 1 #[(0, t13)]) fun t14 =>
 A0 PR (Instr.build 44 #[(0, (.int .i64 13))]) fun t15 =>
 A0 PR (Instr.build 47 #[(2, (.int .i64 0)), (3, (.int .i64 1)), (4, (.int .i64 1)), (6, t15)]) fun t16 =>
 B1 PR X (Instr.buildSlice 32 1 #[(0, t16)]) fun t17 =>
 A6 PR (Instr.loadAt 23 t1) fun t18 =>
 B2 PR X 15 [t18, (.slice none 0 0), (.slice none 0 0)] fun t19 =>
 A0 PR (binOp .eql 3 t19 (.int .i64 (-1))) fun t20 =>
 gj t20 true (fun J => A6 PR (Instr.loadAt 23 t1) J) fun t22 =>
 gj t20 true (fun J => J t9) fun t23 =>
 gj t20 true (fun J => J t11) fun t24 =>
 gj t20 true (fun J => B2 PR X 15 [t22, t23, t24] J) fun t25 =>
 gj t20 true (fun J => A0 PR (binOp .eql 3 t25 (.int .i64 (-1))) J) fun t26 =>
 A0 PR (do pure (if ← asBool t20 then t26 else (.bool false))) fun t27 =>
 gj t27 true (fun J => A6 PR (Instr.loadAt 23 t1) J) fun t29 =>
 gj t27 true (fun J => J t9) fun t30 =>
 gj t27 true (fun J => J t14) fun t31 =>
 gj t27 true (fun J => B2 PR X 15 [t29, t30, t31] J) fun t32 =>
 gj t27 true (fun J => A0 PR (binOp .eql 3 t32 (.int .i64 0)) J) fun t33 =>
 A0 PR (do pure (if ← asBool t27 then t33 else (.bool false))) fun t34 =>
 gj t34 true (fun J => A6 PR (Instr.loadAt 23 t1) J) fun t36 =>
 gj t34 true (fun J => J t9) fun t37 =>
 gj t34 true (fun J => J t17) fun t38 =>
 gj t34 true (fun J => B2 PR X 15 [t36, t37, t38] J) fun t39 =>
 gj t34 true (fun J => A0 PR (binOp .eql 3 t39 (.int .i64 (-1))) J) fun t40 =>
 A0 PR (do pure (if ← asBool t34 then t40 else (.bool false))) fun t41 =>
 gj t41 true (fun J => A6 PR (Instr.loadAt 23 t1) J) fun t43 =>
 gj t41 true (fun J => J t11) fun t44 =>
 gj t41 true (fun J => B2 PR X 15 [t43, (.slice none 0 0), t44] J) fun t45 =>
 gj t41 true (fun J => A0 PR (binOp .eql 3 t45 (.int .i64 0)) J) fun t46 =>
 A0 PR (do pure (if ← asBool t41 then t46 else (.bool false))) fun t47 =>
 gj t47 true (fun J => J t11) fun t49 =>
 gj t47 true (fun J => B2 PR X 14 [t49] J) fun t50 =>
 A0 PR (do pure (if ← asBool t47 then t50 else (.bool false))) fun t51 =>
 gj t51 true (fun J => A0 PR (Instr.build 47 #[(3, (.int .i64 (-1))), (4, (.int .i64 0))]) J) fun t53 =>
 gj t51 true (fun J => B1 PR X (Instr.buildSlice 32 1 #[(0, t53)]) J) fun t54 =>
 gj t51 true (fun J => B2 PR X 14 [t54] J) fun t55 =>
 gj t51 true (fun J => A0 PR (Op.unary .not t55) J) fun t56 =>
 A0 PR (do pure (if ← asBool t51 then t56 else (.bool false))) fun t57 =>
 gj t57 true (fun J => J t11) fun t59 =>
 gj t57 true (fun J => B2 PR X 11 [t59] J) fun t60 =>
 gj t57 true (fun J => A0 PR (A7 .len #[35] 0 [t60]) J) fun t61 =>
 gj t57 true (fun J => A0 PR (binOp .eql 3 t61 (.int .i64 1)) J) fun t62 =>
 A0 PR (do pure (if ← asBool t57 then t62 else (.bool false))) fun t63 =>
 R t63
theorem A5S : B0 PR 6 := A8 Tryz.func6 (by kernel_rfl) rfl
theorem A5Y {X : Nat → Prop} {R : Value → WP} {w : World} (h : A0n X R w) : Fn PR X 6 #[] w R := C7 (args := []) mixed Tryz.func6 (by kernel_rfl) h
def x8 (X : Nat → Prop) (t0 : Value) (R : Value → WP) : WP :=
 jn (n := 2) (fun t3 t4 =>
 R t3) fun J1 =>
 lp (n := 2) (fun L2 t3_1 t4_1 =>
 jn (n := 0) (
 jn (n := 1) (fun t3_2 =>
 A0 PR (binOp .add 3 t4_1 (.int .i64 1)) fun t10 =>
 L2 t3_2 t10) fun J3 =>
 A0 PR (Instr.indexAt 28 t0 t4_1) fun t14 =>
 A6 PR (Instr.loadAt 46 t14) fun t15 =>
 B1 PR X (Instr.buildSlice 32 1 #[(0, t15)]) fun t16 =>
 B1 PR X (A7 .append #[32, 32] 32 [t3_1, t16]) fun t17 =>
 J3 t17) fun J4 =>
 A0 PR (A7 .len #[28] 0 [t0]) fun t7 =>
 A0 PR (binOp .lss 3 t4_1 t7) fun t8 =>
 B3 t8 (
 J4) (
 J1 t3_1 t4_1)) (.slice none 0 0) (.int .i64 0)
theorem A34 : B0 PR 9 := A8 Tryz.func9 (by kernel_rfl) rfl
theorem A4H {X : Nat → Prop} {t0 : Value} {R : Value → WP} {w : World} (h : x8 X t0 R w) : Fn PR X 9 #[t0] w R := C7 (args := [t0]) mixed Tryz.func9 (by kernel_rfl) h
end Go.Proofs.YtlplkjgcfjdinaaGreat
namespace Go.Proofs.YtlplkjgcfjdinaaGreat
open Go
def G7 (l : List Nat) : List Value := l.map fun n : Nat => .int .i64 (n : Int)
theorem B7s (l : List Nat) : (G7 l).length = l.length := by simp [G7]
theorem C3L {l : List Nat} {x : Nat} (h : x < l.length) : (G7 l)[x]? = some (.int .i64 (l.getD x 0 : Nat)) := by
 unfold G7
 rw [List.getElem?_map, List.getElem?_eq_getElem h, List.getD_eq_getElem?_getD, List.getElem?_eq_getElem h]; rfl
theorem C3r {l : List Nat} {x y : Nat} (h : x < l.length) : A0H (G7 l) x [.int .i64 (y : Int)] = G7 (l.set x y) := by
 rw [B2L (by rw [B7s]; exact h), G7, G7, List.map_set]
def ix (l : List Nat) (i : Nat) : Nat := l.getD i 0
theorem P4 {l : List Nat} {x : Nat} (h : x < l.length) : (G7 l)[x]? = some (.int .i64 (ix l x : Nat)) := C3L h
theorem A9K (l : List Nat) (i j : Nat) : A59 l i j = (l.set i (ix l j)).set j (ix l i) := rfl
abbrev OI (g q c : Nat) (l : List Nat) : Res := .own 3 1 (.slice (some ⟨g, 0, none⟩) q c) q (G7 l)
theorem A3W {κ : Bool} {S : List Nat} {w0 : World} {Hr : List Res} {K0 : WP} {g q c x y : Nat} {l : List Nat} (hx : x < l.length) (hK : TW κ S w0 (OI g q c (l.set x y) :: Hr) K0) :
  TW κ S w0 (OI g q c l :: Hr) (B6 PR B7 (Instr.storeAt 3 (.pointer (some ⟨g, x, none⟩)) (.int .i64 (y : Int))) K0) := by
 have ev : (Value.int IntKind.i64 (y : Int)).cells.toList = [.int .i64 (y : Int)] := rfl
 have e := C3r (l := l) (x := x) (y := y) hx
 rw [← ev] at e
 exact d9 (n := 1) (e := 3) (k := 1) (q := q) (c := c) (xs := G7 l) Up.here rfl (by rw [B7s]; exact hx) rfl (by rw [e]; exact hK)
theorem A4s (w : World) (g c : Nat) (l : List Nat) (x y n : Nat) (F : Value) (h1 : x + n ≤ y) (h2 : y + n ≤ l.length) (hl : l.length ≤ 1000) (hw : LW false (C3 [OI g l.length c l]) w [OI g l.length c l] w) :
  Fn PR B7 69 #[.slice (some ⟨g, 0, none⟩) l.length c, .int .i64 (x : Int), .int .i64 (y : Int), .int .i64 (n : Int), F] w (Rn (C3 [OI g l.length c l]) w (fun (_ : Unit) u => u = .tuple #[]) fun _ => [OI g l.length c (l9 l x y n)]) := by
 refine A2p (TW.goH (κ := false) (S := C3 [OI g l.length c l]) ?_ hw)
 unfold g9
 generalize hS : C3 [OI g l.length c l] = S
 refine B4H n (fun i (_ : Unit) => [OI g l.length c (l9 l x y i)]) (fun _ _ => True) () trivial ?_
 rintro i _ hi _ L hL
 by_cases hlt : i < n
 ·have e := A0S l x y i
  have g1 := P4 (l := l9 l x y i) (x := x + i) (by omega)
  have g2 := P4 (l := l9 l x y i) (x := y + i) (by omega)
  have h := hL hlt () trivial
  rw [l9, A9K] at h
  generalize l9 l x y i = m at *
  have hx1 : ((x : Int) + i).toNat = x + i := by omega
  have hy1 : ((y : Int) + i).toNat = y + i := by omega
  (have zz:=trivial;repeat((first|clear zz|with_reducible first|refine A3 ?_|refine A4 fun _=>?_|refine A5 fun _=>?_);try simp(disch:=first|omega|assumption|((repeat(first|exact A1|exact uH|apply A2|apply uT));first|done|fail)|(simp;first|done|omega|fail))[hlt, hx1, hy1, g1, g2]))
  refine A3W (y := ix m (y + i)) (by omega) ?_
  (have zz:=trivial;repeat((first|clear zz|with_reducible first|refine A3 ?_|refine A4 fun _=>?_|refine A5 fun _=>?_);try simp(disch:=first|omega|assumption|((repeat(first|exact A1|exact uH|apply A2|apply uT));first|done|fail)|(simp;first|done|omega|fail))[hlt, hx1, hy1]))
  refine A3W (y := ix m (x + i)) (by simp; omega) ?_
  (have zz:=trivial;repeat((first|clear zz|with_reducible first|refine A3 ?_|refine A4 fun _=>?_|refine A5 fun _=>?_);try simp(disch:=first|omega|assumption|((repeat(first|exact A1|exact uH|apply A2|apply uT));first|done|fail)|(simp;first|done|omega|fail))[]))
  exact h
 ·obtain rfl : i = n := by omega
  (have zz:=trivial;repeat((first|clear zz|with_reducible first|refine A3 ?_|refine A4 fun _=>?_|refine A5 fun _=>?_);try simp(disch:=first|omega|assumption|((repeat(first|exact A1|exact uH|apply A2|apply uT));first|done|fail)|(simp;first|done|omega|fail))[]))
  exact C0 () rfl (by (repeat' constructor))
theorem C20 (w : World) (g c : Nat) (l : List Nat) (a m b : Nat) (F : Value) (h1 : a < m) (h2 : m < b) (h3 : b ≤ l.length) (hl : l.length ≤ 1000) (hw : LW false (C3 [OI g l.length c l]) w [OI g l.length c l] w) :
  Fn PR B7 51 #[.slice (some ⟨g, 0, none⟩) l.length c, .int .i64 (a : Int), .int .i64 (m : Int), .int .i64 (b : Int), F] w (Rn (C3 [OI g l.length c l]) w (fun (_ : Unit) u => u = .tuple #[]) fun _ => [OI g l.length c (Q3 l a m b)]) := by
 refine A3r (TW.goH (κ := false) (S := C3 [OI g l.length c l]) ?_ hw)
 unfold p8
 generalize hS : C3 [OI g l.length c l] = S
 have e1 : ((m : Int) - a) = ((m - a : Nat) : Int) := by omega
 have e2 : ((b : Int) - m) = ((b - m : Nat) : Int) := by omega
 (have zz:=trivial;repeat((first|clear zz|with_reducible first|refine A3 ?_|refine A4 fun _=>?_|refine A5 fun _=>?_);try simp(disch:=first|omega|assumption|((repeat(first|exact A1|exact uH|apply A2|apply uT));first|done|fail)|(simp;first|done|omega|fail))[]))
 rw [e1, e2]
 refine A3P (fun z : Nat × Nat × List Nat => [OI g l.length c z.2.2]) (fun z => 0 < z.1 ∧ 0 < z.2.1 ∧ z.1 ≤ m ∧ m + z.2.1 ≤ l.length ∧ z.2.2.length = l.length ∧ Q3 z.2.2 (m - z.1) m (m + z.2.1) = Q3 l a m b) (fun z => z.1 + z.2.1) (m - a, b - m, l) (fun z => .int .i64 (z.1 : Nat)) (fun z => .int .i64 (z.2.1 : Nat)) ⟨by simp only; omega, by simp only; omega, by simp only; omega, by simp only; omega, rfl, by simp only; congr 1 <;> omega⟩ ?_
 rintro ⟨i, j, p⟩ ⟨i0, j0, i1, i2, hp, hr⟩ L hL
 simp only at i0 j0 i1 i2 hp hr hL ⊢
 rw [← hp] at i2 hl
 have eA : ((m : Int) - i) = ((m - i : Nat) : Int) := by omega
 by_cases c1 : i = j
 ·subst c1
  (have zz:=trivial;repeat((first|clear zz|with_reducible first|refine A3 ?_|refine A4 fun _=>?_|refine A5 fun _=>?_);try simp(disch:=first|omega|assumption|((repeat(first|exact A1|exact uH|apply A2|apply uT));first|done|fail)|(simp;first|done|omega|fail))[]))
  rw [eA, ← hp]
  refine F9 (Hc := [OI g p.length c p]) T3 (fun w' hw hs => A4s w' g c p (m - i) m i F (by omega) (by omega) hl hs) (by (repeat' constructor)) ?_
  rintro _ _ rfl
  rw [C63 i1 i2, hr]
  (have zz:=trivial;repeat((first|clear zz|with_reducible first|refine A3 ?_|refine A4 fun _=>?_|refine A5 fun _=>?_);try simp(disch:=first|omega|assumption|((repeat(first|exact A1|exact uH|apply A2|apply uT));first|done|fail)|(simp;first|done|omega|fail))[]))
  exact C0 () rfl (by (repeat' constructor))
 have c1' : ¬ (i : Int) = (j : Int) := by omega
 by_cases c2 : j < i
 ·have c2' : (j : Int) < i := by omega
  have eB : ((i : Int) - j) = ((i - j : Nat) : Int) := by omega
  have h := hL (i - j, j, l9 p (m - i) m j) ⟨by simp only; omega, j0, by simp only; omega, by simp only; omega, by simp only; rw [A0S, hp], by simp only; rw [← hr, ← C7m i1 c2 i2]; congr 1; omega⟩ (by simp only; omega)
  (have zz:=trivial;repeat((first|clear zz|with_reducible first|refine A3 ?_|refine A4 fun _=>?_|refine A5 fun _=>?_);try simp(disch:=first|omega|assumption|((repeat(first|exact A1|exact uH|apply A2|apply uT));first|done|fail)|(simp;first|done|omega|fail))[c1, c1', c2, c2']))
  rw [eA, ← hp]
  refine F9 (Hc := [OI g p.length c p]) T3 (fun w' hw hs => A4s w' g c p (m - i) m j F (by omega) (by omega) hl hs) (by (repeat' constructor)) ?_
  rintro _ _ rfl
  (have zz:=trivial;repeat((first|clear zz|with_reducible first|refine A3 ?_|refine A4 fun _=>?_|refine A5 fun _=>?_);try simp(disch:=first|omega|assumption|((repeat(first|exact A1|exact uH|apply A2|apply uT));first|done|fail)|(simp;first|done|omega|fail))[]))
  rw [eB, hp]
  exact h
 ·have c2' : ¬ (j : Int) < i := by omega
  have eB : ((j : Int) - i) = ((j - i : Nat) : Int) := by omega
  have eC : ((m : Int) + j - i) = ((m + j - i : Nat) : Int) := by omega
  have h := hL (i, j - i, l9 p (m - i) (m + j - i) i) ⟨i0, by simp only; omega, i1, by simp only; omega, by simp only; rw [A0S, hp], by simp only; rw [← hr, ← C7Y i1 (by omega) i2]; congr 1; omega⟩ (by simp only; omega)
  (have zz:=trivial;repeat((first|clear zz|with_reducible first|refine A3 ?_|refine A4 fun _=>?_|refine A5 fun _=>?_);try simp(disch:=first|omega|assumption|((repeat(first|exact A1|exact uH|apply A2|apply uT));first|done|fail)|(simp;first|done|omega|fail))[c1, c1', c2, c2']))
  rw [eA, eC, ← hp]
  refine F9 (Hc := [OI g p.length c p]) T3 (fun w' hw hs => A4s w' g c p (m - i) (m + j - i) i F (by omega) (by omega) hl hs) (by (repeat' constructor)) ?_
  rintro _ _ rfl
  (have zz:=trivial;repeat((first|clear zz|with_reducible first|refine A3 ?_|refine A4 fun _=>?_|refine A5 fun _=>?_);try simp(disch:=first|omega|assumption|((repeat(first|exact A1|exact uH|apply A2|apply uT));first|done|fail)|(simp;first|done|omega|fail))[]))
  rw [eB, hp]
  exact h
theorem A8d (a b : Int) : P2 a b < 0 ↔ a < b := by
 unfold P2; repeat' split
 all_goals omega
abbrev B40 (b : Nat) : Value := .func (.func 21) #[] #[.pointer (some ⟨b, 0, none⟩)]
abbrev B2D (w : World) (S : List Nat) (bw : Nat) (key : Nat → Int) (l : List Nat) : Prop := ∀ w', KS false S w w' → ∀ x y, x ∈ l → y ∈ l →
 Fn PR B7 21 #[.int .i64 (x : Int), .int .i64 (y : Int), .pointer (some ⟨bw, 0, none⟩)] w' (fun v w'' => v = .int .i64 (P2 (key x) (key y)) ∧ C6 [] w' w'')
theorem A8c {l : List Nat} {i : Nat} (h : i < l.length) : ix l i ∈ l := by
 unfold ix; rw [List.getD_eq_getElem?_getD, List.getElem?_eq_getElem h]; exact List.getElem_mem h
theorem B21 (w : World) (g c : Nat) (l : List Nat) (a b bw : Nat) (key : Nat → Int) (hc : B2D w (C3 [OI g l.length c l]) bw key l) (hI : Inc l a b) (hab : a ≤ b) (hb : b ≤ l.length) (hl : l.length ≤ 1000) (hw : LW false (C3 [OI g l.length c l]) w [OI g l.length c l] w) :
  Fn PR B7 40 #[.slice (some ⟨g, 0, none⟩) l.length c, .int .i64 (a : Int), .int .i64 (b : Int), B40 bw] w (Rn (C3 [OI g l.length c l]) w (fun (l' : List Nat) u => u = .tuple #[] ∧ M8 key l' a b ∧ Mix l a b l') fun l' => [OI g l.length c l']) := by
 refine Y9 (TW.goH (κ := false) (S := C3 [OI g l.length c l]) ?_ hw)
 unfold P9
 generalize hS : C3 [OI g l.length c l] = S at *
 (have zz:=trivial;repeat((first|clear zz|with_reducible first|refine A3 ?_|refine A4 fun _=>?_|refine A5 fun _=>?_);try simp(disch:=first|omega|assumption|((repeat(first|exact A1|exact uH|apply A2|apply uT));first|done|fail)|(simp;first|done|omega|fail))[]))
 refine A6p (fun z : Nat × List Nat => [OI g l.length c z.2]) (fun z => a + 1 ≤ z.1 ∧ (z.1 ≤ b ∨ z.1 = a + 1 ∧ z.2 = l) ∧ M8 key z.2 a z.1 ∧ Mix l a z.1 z.2) (fun z => b - z.1) (a + 1, l) (fun z => .int .i64 (z.1 : Nat)) ⟨Nat.le_refl _, Or.inr ⟨rfl, rfl⟩, fun i j _ _ _ => by simp only at *; omega, Mix.refl ..⟩ ?_
 rintro ⟨i, p⟩ ⟨i0, i1, hs, hm⟩ L hL
 simp only at i0 i1 hs hm hL ⊢
 by_cases c0 : i < b
 case neg =>
  have c0' : ¬ (i : Int) < b := by omega
  (have zz:=trivial;repeat((first|clear zz|with_reducible first|refine A3 ?_|refine A4 fun _=>?_|refine A5 fun _=>?_);try simp(disch:=first|omega|assumption|((repeat(first|exact A1|exact uH|apply A2|apply uT));first|done|fail)|(simp;first|done|omega|fail))[c0, c0']))
  refine C0 p ⟨rfl, ?_⟩ (by (repeat' constructor))
  rcases i1 with h | ⟨h, rfl⟩
  ·obtain rfl : i = b := by omega
   exact ⟨hs, hm⟩
  ·by_cases hib : i = b
   ·subst hib; exact ⟨hs, hm⟩
   ·exact ⟨fun x y _ _ _ => by omega, Mix.refl ..⟩
 have hpl := hm.len
 have hmem : ∀ x, x < p.length → ix p x ∈ l := fun x hx => hm.perm.mem_iff.1 (A8c hx)
 (have zz:=trivial;repeat((first|clear zz|with_reducible first|refine A3 ?_|refine A4 fun _=>?_|refine A5 fun _=>?_);try simp(disch:=first|omega|assumption|((repeat(first|exact A1|exact uH|apply A2|apply uT));first|done|fail)|(simp;first|done|omega|fail))[c0]))
 have hex : ∀ n, n ≤ i - a → (0 < n → key (ix p i) < key (ix p (i - n))) → (a < i - n → ¬ key (ix p i) < key (ix p (i - n - 1))) → TW false S w [OI g l.length c (T1 p i n)] (L (.int .i64 ((i : Int) + 1))) := fun n n1 n2 n3 => by
  have h := B5F (key := key) (l := p) (a := a) (s := i - n) (m := i) (by omega) (by omega) (by omega) hs (hI.st hm c0) n3 (fun hh => n2 (by omega))
  rw [← B5n (by omega) (by omega)] at h
  exact hL (i + 1, T1 p i n) ⟨by simp only; omega, Or.inl (by simp only; omega), h.1, (hm.wide (Nat.le_refl _) (by omega)).trans h.2⟩ (by simp only; omega)
 refine A6p (fun n : Nat => [OI g l.length c (T1 p i n)]) (fun n => n ≤ i - a ∧ (0 < n → key (ix p i) < key (ix p (i - n)))) (fun n => i - n) 0 (fun n => .int .i64 ((i - n : Nat) : Int)) ⟨Nat.zero_le _, fun h => by omega⟩ ?_
 rintro n ⟨n1, n2⟩ L3 hL3
 have hq := A6m p i n
 have hlen : l.length = (T1 p i n).length := by omega
 obtain ⟨j, hj⟩ : ∃ j, j = i - n := ⟨_, rfl⟩
 rw [← hj] at n2 ⊢
 by_cases c1 : a < j
 case neg =>
  have c1' : ¬ (a : Int) < j := by omega
  (have zz:=trivial;repeat((first|clear zz|with_reducible first|refine A3 ?_|refine A4 fun _=>?_|refine A5 fun _=>?_);try simp(disch:=first|omega|assumption|((repeat(first|exact A1|exact uH|apply A2|apply uT));first|done|fail)|(simp;first|done|omega|fail))[c1, c1']))
  exact hex n n1 (by rw [← hj]; exact n2) (fun h => by omega)
 have c1' : (a : Int) < j := by omega
 have ej : ((j : Int) - 1) = ((j - 1 : Nat) : Int) := by omega
 have v1 : ix (T1 p i n) j = ix p i := by unfold ix; rw [B0E (by omega) (by omega), if_pos hj]
 have v2 : ix (T1 p i n) (j - 1) = ix p (j - 1) := by unfold ix; rw [B0E (by omega) (by omega), if_neg (by omega), if_neg (by omega)]
 have g1 := P4 (l := T1 p i n) (x := j) (by omega)
 have g2 := P4 (l := T1 p i n) (x := j - 1) (by omega)
 rw [v1] at g1
 rw [v2] at g2
 have hnext : T1 p i (n + 1) = (((T1 p i n).set j (ix p (j - 1))).set (j - 1) (ix p i)) := by
  rw [T1, ← hj, A9K, v1, v2]
 have hdl : (T1 p i n).length = l.length := by omega
 have hL3' := hL3 (n + 1)
 rw [hnext] at hL3'
 have hexn := hex n n1 (by rw [← hj]; exact n2)
 rw [← hj] at hexn
 have hij : i - (n + 1) = j - 1 := by omega
 have hlt0 : i - (n + 1) < i - n := by omega
 rw [hij] at hL3'
 generalize T1 p i n = q at *
 (have zz:=trivial;repeat((first|clear zz|with_reducible first|refine A3 ?_|refine A4 fun _=>?_|refine A5 fun _=>?_);try simp(disch:=first|omega|assumption|((repeat(first|exact A1|exact uH|apply A2|apply uT));first|done|fail)|(simp;first|done|omega|fail))[c1, c1', ej, g1, g2]))
 refine B8 Z5 (fun w' hw' => hc w' hw'.ks _ _ (hmem i (by omega)) (hmem (j - 1) (by omega))) ?_
 have hcm := A8d (key (ix p i)) (key (ix p (j - 1)))
 by_cases c2 : key (ix p i) < key (ix p (j - 1))
 ·have c2' := hcm.2 c2
  generalize P2 (key (ix p i)) (key (ix p (j - 1))) = z at *
  (have zz:=trivial;repeat((first|clear zz|with_reducible first|refine A3 ?_|refine A4 fun _=>?_|refine A5 fun _=>?_);try simp(disch:=first|omega|assumption|((repeat(first|exact A1|exact uH|apply A2|apply uT));first|done|fail)|(simp;first|done|omega|fail))[c1, c1', c2', ej, g1, g2]))
  refine A3W (y := ix p (j - 1)) (by omega) ?_
  (have zz:=trivial;repeat((first|clear zz|with_reducible first|refine A3 ?_|refine A4 fun _=>?_|refine A5 fun _=>?_);try simp(disch:=first|omega|assumption|((repeat(first|exact A1|exact uH|apply A2|apply uT));first|done|fail)|(simp;first|done|omega|fail))[c1, c1', ej]))
  refine A3W (y := ix p i) (by simp; omega) ?_
  (have zz:=trivial;repeat((first|clear zz|with_reducible first|refine A3 ?_|refine A4 fun _=>?_|refine A5 fun _=>?_);try simp(disch:=first|omega|assumption|((repeat(first|exact A1|exact uH|apply A2|apply uT));first|done|fail)|(simp;first|done|omega|fail))[ej]))
  exact hL3' ⟨by omega, fun _ => c2⟩ (by omega)
 ·have c2' : ¬ P2 (key (ix p i)) (key (ix p (j - 1))) < 0 := fun h => c2 (hcm.1 h)
  generalize P2 (key (ix p i)) (key (ix p (j - 1))) = z at *
  (have zz:=trivial;repeat((first|clear zz|with_reducible first|refine A3 ?_|refine A4 fun _=>?_|refine A5 fun _=>?_);try simp(disch:=first|omega|assumption|((repeat(first|exact A1|exact uH|apply A2|apply uT));first|done|fail)|(simp;first|done|omega|fail))[c1, c1', c2']))
  exact hexn fun _ => c2
end Go.Proofs.YtlplkjgcfjdinaaGreat
namespace Go.Proofs.YtlplkjgcfjdinaaGreat
open Go
theorem A6e (i j : Nat) : ((i : Int) + j).fdiv (2 ^ min 1 IntKind.u64.bits) = (((i + j) / 2 : Nat) : Int) := by
 rw [show (2 : Int) ^ min 1 IntKind.u64.bits = 2 from rfl, Int.fdiv_eq_ediv_of_nonneg _ (by omega)]; omega
abbrev C7J (g bw : Nat) (key : Nat → Int) (w : World) (c : Nat) (l : List Nat) (a m b : Nat) : Prop :=
 B2D w (C3 [OI g l.length c l]) bw key l → M8 key l a m → M8 key l m b → St key l a m b → LW false (C3 [OI g l.length c l]) w [OI g l.length c l] w →
  Fn PR B7 41 #[.slice (some ⟨g, 0, none⟩) l.length c, .int .i64 (a : Int), .int .i64 (m : Int), .int .i64 (b : Int), B40 bw] w
   (Rn (C3 [OI g l.length c l]) w (fun (l' : List Nat) u => u = .tuple #[] ∧ M8 key l' a b ∧ Mix l a b l') fun l' => [OI g l.length c l'])
abbrev D16 (g bw : Nat) (key : Nat → Int) (k : Nat) : Prop := ∀ (w : World) (c : Nat) (l : List Nat) (a m b : Nat), b - a ≤ k → a < m → m < b → b ≤ l.length → l.length ≤ 1000 → C7J g bw key w c l a m b
theorem C1q {κ : Bool} {S : List Nat} {w0 : World} {H : List Res} {F : WP} {A : WP → WP} {α : Type} (φ : α → Prop) (Hj : α → List Res) (hF : ∀ x, φ x → TW κ S w0 (Hj x) F) (hA : ∀ J : WP, (∀ x, φ x → TW κ S w0 (Hj x) J) → TW κ S w0 H (A J)) : TW κ S w0 H (jn (n := 0) F A) := hA F hF
theorem C8z {κ : Bool} {S : List Nat} {w0 : World} {H : List Res} {P : Prop} [Decidable P] {A : Value → Value → WP} {a1 a2 b1 b2 s r : Value} (h1 : P → a1 = s ∧ a2 = r) (h2 : ¬ P → b1 = s ∧ b2 = r) (h : TW κ S w0 H (A s r)) : if P then TW κ S w0 H (A a1 a2) else TW κ S w0 H (A b1 b2) := by
 split
 ·rename_i hp; rw [(h1 hp).1, (h1 hp).2]; exact h
 ·rename_i hp; rw [(h2 hp).1, (h2 hp).2]; exact h
theorem C5r {l : List Nat} {s m e : Nat} (h1 : s ≤ m) (h2 : m ≤ e) (h3 : e ≤ l.length) (h : ¬ (s < m ∧ m < e)) : Q3 l s m e = l := by
 apply B0z
 ·rw [r7 h1 h2 h3]
 intro t ht
 rw [V4 h1 h2 h3]
 congr 1; unfold n5; repeat' split
 all_goals omega
set_option maxHeartbeats 2000000 in
theorem C2Y (g bw : Nat) (key : Nat → Int) (k : Nat) (ih : D16 g bw key k) (w : World) (c : Nat) (l : List Nat) (a m b : Nat) (hk : b - a ≤ k + 1) (ham : a + 1 < m) (hmb : m + 1 < b) (hbl : b ≤ l.length) (hl : l.length ≤ 1000) : C7J g bw key w c l a m b := by
 intro hc hS1 hS2 hSt hw
 refine l6 (TW.goH (κ := false) (S := C3 [OI g l.length c l]) ?_ hw)
 unfold U6
 generalize hS : C3 [OI g l.length c l] = S at *
 have hmem : ∀ x, x < l.length → ix l x ∈ l := fun x hx => A8c hx
 have c1' : ¬ (m : Int) - a = 1 := by omega
 have c5' : ¬ (b : Int) - m = 1 := by omega
 obtain ⟨md, hmd⟩ : ∃ md, md = (a + b) / 2 := ⟨_, rfl⟩
 have eh := A6e a b
 rw [← hmd] at eh
 obtain ⟨s0, hs0⟩ : ∃ s0 : Nat, s0 = if md < m then md + m - b else a := ⟨_, rfl⟩
 obtain ⟨r0, hr0⟩ : ∃ r0 : Nat, r0 = if md < m then md else m := ⟨_, rfl⟩
 obtain ⟨q, hq⟩ : ∃ q : Nat, q = md + m - 1 := ⟨_, rfl⟩
 have w1 : IntKind.i64.wrap ((md : Int) + m - 1) = (q : Nat) := by rw [P8 (by omega) (by omega)]; omega
 have w2 : IntKind.i64.wrap ((md : Int) + m) = ((md + m : Nat) : Int) := by rw [P8 (by omega) (by omega)]; omega
 have w3 : IntKind.i64.wrap (md : Int) = (md : Nat) := P8 (by omega) (by omega)
 have hs1 : md < m → s0 = md + m - b ∧ r0 = md := fun h => by rw [hs0, hr0, if_pos h, if_pos h]; exact ⟨rfl, rfl⟩
 have hs2 : ¬ md < m → s0 = a ∧ r0 = m := fun h => by rw [hs0, hr0, if_neg h, if_neg h]; exact ⟨rfl, rfl⟩
 clear hs0 hr0
 (have zz:=trivial;repeat((first|clear zz|with_reducible first|refine A3 ?_|refine A4 fun _=>?_|refine A5 fun _=>?_);try simp(disch:=first|omega|assumption|((repeat(first|exact A1|exact uH|apply A2|apply uT));first|done|fail)|(simp;first|done|omega|fail))[c1', c5', eh]))
 refine C8z (s := .int .i64 (s0 : Nat)) (r := .int .i64 (r0 : Nat)) (fun h => ?_) (fun h => ?_) ?_
 ·have := hs1 h
  refine ⟨?_, ?_⟩
  ·congr 1; omega
  ·congr 1; omega
 ·have := hs2 h
  refine ⟨?_, ?_⟩
  ·congr 1; omega
  ·congr 1; omega
 rw [w1, w2, w3]
 have hsr : s0 ≤ r0 ∧ a ≤ s0 ∧ r0 ≤ m ∧ r0 ≤ md ∧ md + m - s0 ≤ b := by
  by_cases h : md < m
  ·have := hs1 h; omega
  ·have := hs2 h; omega
 obtain ⟨z1, z2, z3, z4, z5⟩ := hsr
 refine A3P (fun _ : Nat × Nat => [OI g l.length c l]) (fun z => s0 ≤ z.1 ∧ z.1 ≤ z.2 ∧ z.2 ≤ r0 ∧ (s0 < z.1 → ¬ key (ix l (q - (z.1 - 1))) < key (ix l (z.1 - 1))) ∧ (z.2 < r0 → key (ix l (q - z.2)) < key (ix l z.2))) (fun z => z.2 - z.1) (s0, r0) (fun z => .int .i64 (z.1 : Nat)) (fun z => .int .i64 (z.2 : Nat)) ⟨Nat.le_refl _, by simp only; omega, Nat.le_refl _, fun h => by simp only at h; omega, fun h => by simp only at h; omega⟩ ?_
 rintro ⟨i, j⟩ ⟨i1, i2, i3, p1, p2⟩ L hL
 simp only at i1 i2 i3 p1 p2 hL ⊢
 by_cases c2 : i < j
 ·have eh2 := A6e i j
  obtain ⟨h, hh⟩ : ∃ h, h = (i + j) / 2 := ⟨_, rfl⟩
  rw [← hh] at eh2
  have h1 : i ≤ h := by omega
  have h2 : h < j := by omega
  have eq1 : ((q : Int) - h) = ((q - h : Nat) : Int) := by omega
  have g1 := P4 (l := l) (x := q - h) (by omega)
  have g2 := P4 (l := l) (x := h) (by omega)
  have hcm := A8d (key (ix l (q - h))) (key (ix l h))
  have hL1 := hL (h + 1, j)
  have hL2 := hL (i, h)
  simp only at hL1 hL2
  clear hL hh hs1 hs2
  have hqh : q - h < l.length := by omega
  (have zz:=trivial;repeat((first|clear zz|with_reducible first|refine A3 ?_|refine A4 fun _=>?_|refine A5 fun _=>?_);try simp(disch:=first|omega|assumption|((repeat(first|exact A1|exact uH|apply A2|apply uT));first|done|fail)|(simp;first|done|omega|fail))[c2, eh2, eq1, g1, g2]))
  refine B8 Z5 (fun w' hw' => hc w' hw'.ks _ _ (hmem (q - h) (by omega)) (hmem h (by omega))) ?_
  by_cases c3 : key (ix l (q - h)) < key (ix l h)
  ·have c3' := hcm.2 c3
   generalize P2 (key (ix l (q - h))) (key (ix l h)) = z at *
   (have zz:=trivial;repeat((first|clear zz|with_reducible first|refine A3 ?_|refine A4 fun _=>?_|refine A5 fun _=>?_);try simp(disch:=first|omega|assumption|((repeat(first|exact A1|exact uH|apply A2|apply uT));first|done|fail)|(simp;first|done|omega|fail))[c3']))
   exact hL2 ⟨i1, h1, by omega, p1, fun _ => c3⟩ (by omega)
  ·have c3' : ¬ P2 (key (ix l (q - h))) (key (ix l h)) < 0 := fun h => c3 (hcm.1 h)
   generalize P2 (key (ix l (q - h))) (key (ix l h)) = z at *
   (have zz:=trivial;repeat((first|clear zz|with_reducible first|refine A3 ?_|refine A4 fun _=>?_|refine A5 fun _=>?_);try simp(disch:=first|omega|assumption|((repeat(first|exact A1|exact uH|apply A2|apply uT));first|done|fail)|(simp;first|done|omega|fail))[c3']))
   exact hL1 ⟨by omega, by omega, i3, fun _ => c3, p2⟩ (by omega)
 obtain rfl : i = j := by omega
 clear hL
 obtain ⟨e, he⟩ : ∃ e : Nat, e = md + m - i := ⟨_, rfl⟩
 have eE : ((md + m : Nat) : Int) - (i : Int) = (e : Nat) := by omega
 have eE' : ((md : Int) + (m : Int) - (i : Int)) = (e : Nat) := by omega
 have him : i ≤ m := by omega
 have hme : m ≤ e := by omega
 have heb : e ≤ b := by omega
 have hH := B0D (key := key) (l := l) (a := a) (s := i) (m := m) (e := e) (b := b) (by omega) him hme heb hbl hS1 hS2 hSt
  (fun h1 h2 => by
   have h3 : s0 < i := by
    by_cases h : md < m
    ·have := hs1 h; omega
    ·have := hs2 h; omega
   have := p1 h3
   rwa [show q - (i - 1) = e by omega] at this)
  (fun h1 h2 => by
   have h3 : i < r0 := by
    by_cases h : md < m
    ·have := hs1 h; omega
    ·have := hs2 h; omega
   have := p2 h3
   rwa [show q - i = e - 1 by omega] at this)
 have hmid : i + (e - m) = md := by omega
 rw [hmid] at hH
 have hrm := (B4T (l := l) him hme (by omega)).wide (show a ≤ i by omega) heb
 have hc0 : ¬ (i : Int) < (i : Int) := by omega
 clear p1 p2 hs1 hs2
 rw [x9]
 (have zz:=trivial;repeat((first|clear zz|with_reducible first|refine A3 ?_|refine A4 fun _=>?_|refine A5 fun _=>?_);try simp(disch:=first|omega|assumption|((repeat(first|exact A1|exact uH|apply A2|apply uT));first|done|fail)|(simp;first|done|omega|fail))[-x9, hc0, eE, eE']))
 refine C1q (φ := fun l1 => l1 = Q3 l i m e) (fun l1 => [OI g l.length c l1]) ?_ ?_
 case refine_2 =>
  intro J hJ
  by_cases cR : i < m ∧ m < e
  ·obtain ⟨cR1, cR2⟩ := cR
   (have zz:=trivial;repeat((first|clear zz|with_reducible first|refine A3 ?_|refine A4 fun _=>?_|refine A5 fun _=>?_);try simp(disch:=first|omega|assumption|((repeat(first|exact A1|exact uH|apply A2|apply uT));first|done|fail)|(simp;first|done|omega|fail))[cR1, cR2, eE, eE']))
   refine F9 (Hc := [OI g l.length c l]) A3G (fun w' hw hs => C20 w' g c l i m e (B40 bw) cR1 cR2 (by omega) hl hs) (by (repeat' constructor)) ?_
   rintro _ _ rfl
   exact hJ _ rfl
  ·have e1 := C5r him hme (show e ≤ l.length by omega) cR
   have h := hJ l e1.symm
   by_cases cA : i < m
   ·have cB : ¬ m < e := fun h => cR ⟨cA, h⟩
    (have zz:=trivial;repeat((first|clear zz|with_reducible first|refine A3 ?_|refine A4 fun _=>?_|refine A5 fun _=>?_);try simp(disch:=first|omega|assumption|((repeat(first|exact A1|exact uH|apply A2|apply uT));first|done|fail)|(simp;first|done|omega|fail))[cA, cB, eE, eE']))
    exact h
   ·(have zz:=trivial;repeat((first|clear zz|with_reducible first|refine A3 ?_|refine A4 fun _=>?_|refine A5 fun _=>?_);try simp(disch:=first|omega|assumption|((repeat(first|exact A1|exact uH|apply A2|apply uT));first|done|fail)|(simp;first|done|omega|fail))[cA, eE, eE']))
    exact h
 rintro l1 rfl
 generalize Q3 l i m e = l1 at *
 have hl1 := hrm.len
 have hmem1 : ∀ x, x ∈ l1 → x ∈ l := fun x hx => hrm.perm.mem_iff.1 hx
 refine C1q (φ := fun l2 => Mix l1 a md l2 ∧ M8 key l2 a md) (fun l2 => [OI g l.length c l2]) ?_ ?_
 case refine_2 =>
  intro J hJ
  by_cases cL : a < i ∧ i < md
  ·obtain ⟨cL1, cL2⟩ := cL
   (have zz:=trivial;repeat((first|clear zz|with_reducible first|refine A3 ?_|refine A4 fun _=>?_|refine A5 fun _=>?_);try simp(disch:=first|omega|assumption|((repeat(first|exact A1|exact uH|apply A2|apply uT));first|done|fail)|(simp;first|done|omega|fail))[cL1, cL2, eE, eE']))
   rw [← hl1]
   refine F9 (Hc := [OI g l1.length c l1]) T9 (fun w' hw hs => ih w' c l1 a i md (by omega) cL1 cL2 (by omega) (by omega) (fun w'' hw'' x y hx hy => hc w'' ((hw.ks.low.trans (by rw [← hS]; exact hw''))) x y (hmem1 x hx) (hmem1 y hy)) hH.s1 hH.s2 hH.st1 hs) (by (repeat' constructor)) ?_
   rintro l2 _ ⟨rfl, h1, h2⟩
   rw [hl1]
   exact hJ l2 ⟨h2, h1⟩
  ·have h := hJ l1 ⟨Mix.refl .., fun x y x1 x2 x3 => by
    by_cases h : a < i
    ·exact hH.s1 x y x1 x2 (by omega)
    ·exact hH.s2 x y (by omega) x2 x3⟩
   by_cases cA : a < i
   ·have cB : ¬ i < md := fun h => cL ⟨cA, h⟩
    (have zz:=trivial;repeat((first|clear zz|with_reducible first|refine A3 ?_|refine A4 fun _=>?_|refine A5 fun _=>?_);try simp(disch:=first|omega|assumption|((repeat(first|exact A1|exact uH|apply A2|apply uT));first|done|fail)|(simp;first|done|omega|fail))[cA, cB, eE, eE']))
    exact h
   ·(have zz:=trivial;repeat((first|clear zz|with_reducible first|refine A3 ?_|refine A4 fun _=>?_|refine A5 fun _=>?_);try simp(disch:=first|omega|assumption|((repeat(first|exact A1|exact uH|apply A2|apply uT));first|done|fail)|(simp;first|done|omega|fail))[cA, eE, eE']))
    exact h
 rintro l2 ⟨hm2, hs2⟩
 have hl2 := hm2.len
 have hmem2 : ∀ x, x ∈ l2 → x ∈ l := fun x hx => hmem1 x (hm2.perm.mem_iff.1 hx)
 have t3 : M8 key l2 md e := hH.s3.same fun x x1 x2 => hm2.out x (by omega)
 have t4 : M8 key l2 e b := hH.s4.same fun x x1 x2 => hm2.out x (by omega)
 have tt : St key l2 md e b := hH.st2.same (fun x x1 x2 => hm2.out x (by omega)) (by omega) heb
 by_cases cL : md < e ∧ e < b
 ·obtain ⟨cL1, cL2⟩ := cL
  (have zz:=trivial;repeat((first|clear zz|with_reducible first|refine A3 ?_|refine A4 fun _=>?_|refine A5 fun _=>?_);try simp(disch:=first|omega|assumption|((repeat(first|exact A1|exact uH|apply A2|apply uT));first|done|fail)|(simp;first|done|omega|fail))[cL1, cL2, eE, eE']))
  rw [← hl1, ← hl2]
  refine F9 (Hc := [OI g l2.length c l2]) T9 (fun w' hw hs => ih w' c l2 md e b (by omega) cL1 cL2 (by omega) (by omega) (fun w'' hw'' x y hx hy => hc w'' ((hw.ks.low.trans (by rw [← hS]; exact hw''))) x y (hmem2 x hx) (hmem2 y hy)) t3 t4 tt hs) (by (repeat' constructor)) ?_
  rintro l3 _ ⟨rfl, h1, h2⟩
  have hfin := C28 hH (by omega) (by omega) hm2 hs2 h2 h1
  exact C0 _ ⟨rfl, hfin.1, hrm.trans hfin.2⟩ (by (repeat' constructor))
 ·have hfin := C28 hH (by omega) (by omega) hm2 hs2 (Mix.refl _ md b) (fun x y x1 x2 x3 => by
    by_cases h : md < e
    ·exact t3 x y x1 x2 (by omega)
    ·exact t4 x y (by omega) x2 x3)
  by_cases cA : md < e
  ·have cB : ¬ e < b := fun h => cL ⟨cA, h⟩
   (have zz:=trivial;repeat((first|clear zz|with_reducible first|refine A3 ?_|refine A4 fun _=>?_|refine A5 fun _=>?_);try simp(disch:=first|omega|assumption|((repeat(first|exact A1|exact uH|apply A2|apply uT));first|done|fail)|(simp;first|done|omega|fail))[cA, cB, eE, eE']))
   exact C0 _ ⟨rfl, hfin.1, hrm.trans hfin.2⟩ (by (repeat' constructor))
  ·(have zz:=trivial;repeat((first|clear zz|with_reducible first|refine A3 ?_|refine A4 fun _=>?_|refine A5 fun _=>?_);try simp(disch:=first|omega|assumption|((repeat(first|exact A1|exact uH|apply A2|apply uT));first|done|fail)|(simp;first|done|omega|fail))[cA, eE, eE']))
   exact C0 _ ⟨rfl, hfin.1, hrm.trans hfin.2⟩ (by (repeat' constructor))
set_option maxHeartbeats 2000000 in
theorem B9D (g bw : Nat) (key : Nat → Int) : ∀ (k : Nat) (w : World) (c : Nat) (l : List Nat) (a m b : Nat), b - a ≤ k → a < m → m < b → b ≤ l.length → l.length ≤ 1000 → B2D w (C3 [OI g l.length c l]) bw key l → M8 key l a m → M8 key l m b → St key l a m b →
  LW false (C3 [OI g l.length c l]) w [OI g l.length c l] w → Fn PR B7 41 #[.slice (some ⟨g, 0, none⟩) l.length c, .int .i64 (a : Int), .int .i64 (m : Int), .int .i64 (b : Int), B40 bw] w
   (Rn (C3 [OI g l.length c l]) w (fun (l' : List Nat) u => u = .tuple #[] ∧ M8 key l' a b ∧ Mix l a b l') fun l' => [OI g l.length c l']) := by
 intro k
 induction k with
 | zero => intro w c l a m b h1 h2 h3; omega
 | succ k ih =>
 intro w c l a m b hk ham hmb hbl hl hc hS1 hS2 hSt hw
 by_cases hgen : a + 1 < m ∧ m + 1 < b
 ·exact C2Y g bw key k ih w c l a m b hk hgen.1 hgen.2 hbl hl hc hS1 hS2 hSt hw
 refine l6 (TW.goH (κ := false) (S := C3 [OI g l.length c l]) ?_ hw)
 unfold U6
 generalize hS : C3 [OI g l.length c l] = S at *
 have hmem : ∀ x, x < l.length → ix l x ∈ l := fun x hx => A8c hx
 by_cases c1 : m = a + 1
 ·have e1 : (m : Int) - a = 1 := by omega
  (have zz:=trivial;repeat((first|clear zz|with_reducible first|refine A3 ?_|refine A4 fun _=>?_|refine A5 fun _=>?_);try simp(disch:=first|omega|assumption|((repeat(first|exact A1|exact uH|apply A2|apply uT));first|done|fail)|(simp;first|done|omega|fail))[e1]))
  refine A3P (fun _ : Nat × Nat => [OI g l.length c l]) (fun z => m ≤ z.1 ∧ z.1 ≤ z.2 ∧ z.2 ≤ b ∧ (m < z.1 → key (ix l (z.1 - 1)) < key (ix l a)) ∧ (z.2 < b → ¬ key (ix l z.2) < key (ix l a))) (fun z => z.2 - z.1) (m, b) (fun z => .int .i64 (z.1 : Nat)) (fun z => .int .i64 (z.2 : Nat)) ⟨Nat.le_refl _, by simp only; omega, Nat.le_refl _, fun h => by simp only at h; omega, fun h => by simp only at h; omega⟩ ?_
  rintro ⟨i, j⟩ ⟨i1, i2, i3, p1, p2⟩ L hL
  simp only at i1 i2 i3 p1 p2 hL ⊢
  by_cases c2 : i < j
  ·have eh := A6e i j
   have g1 := P4 (l := l) (x := (i + j) / 2) (by omega)
   have g2 := P4 (l := l) (x := a) (by omega)
   obtain ⟨h, hh⟩ : ∃ h, h = (i + j) / 2 := ⟨_, rfl⟩
   have h1 : i ≤ h := by omega
   have h2 : h < j := by omega
   rw [← hh] at eh g1
   have hcm := A8d (key (ix l h)) (key (ix l a))
   have hL1 := hL (h + 1, j)
   have hL2 := hL (i, h)
   simp only at hL1 hL2
   clear hL hh
   (have zz:=trivial;repeat((first|clear zz|with_reducible first|refine A3 ?_|refine A4 fun _=>?_|refine A5 fun _=>?_);try simp(disch:=first|omega|assumption|((repeat(first|exact A1|exact uH|apply A2|apply uT));first|done|fail)|(simp;first|done|omega|fail))[c2, eh, g1, g2]))
   refine B8 Z5 (fun w' hw' => hc w' hw'.ks _ _ (hmem h (by omega)) (hmem a (by omega))) ?_
   by_cases c3 : key (ix l h) < key (ix l a)
   ·have c3' := hcm.2 c3
    generalize P2 (key (ix l h)) (key (ix l a)) = z at *
    (have zz:=trivial;repeat((first|clear zz|with_reducible first|refine A3 ?_|refine A4 fun _=>?_|refine A5 fun _=>?_);try simp(disch:=first|omega|assumption|((repeat(first|exact A1|exact uH|apply A2|apply uT));first|done|fail)|(simp;first|done|omega|fail))[c3']))
    exact hL1 ⟨by omega, by omega, i3, fun _ => c3, p2⟩ (by omega)
   ·have c3' : ¬ P2 (key (ix l h)) (key (ix l a)) < 0 := fun h => c3 (hcm.1 h)
    generalize P2 (key (ix l h)) (key (ix l a)) = z at *
    (have zz:=trivial;repeat((first|clear zz|with_reducible first|refine A3 ?_|refine A4 fun _=>?_|refine A5 fun _=>?_);try simp(disch:=first|omega|assumption|((repeat(first|exact A1|exact uH|apply A2|apply uT));first|done|fail)|(simp;first|done|omega|fail))[c3']))
    exact hL2 ⟨i1, h1, by omega, p1, fun _ => c3⟩ (by omega)
  ·obtain rfl : i = j := by omega
   have hfin := C4f (key := key) (l := l) (a := a) (e := i) (b := b) (by omega) i3 hbl (by rw [← c1]; exact hS2) (by rw [← c1]; exact hSt) p2 (fun h => p1 (by omega))
   rw [← show upL l a (i - a - 1) = Q3 l a (a + 1) i by rw [C5x (by omega)]; congr 1; omega] at hfin
   (have zz:=trivial;repeat((first|clear zz|with_reducible first|refine A3 ?_|refine A4 fun _=>?_|refine A5 fun _=>?_);try simp(disch:=first|omega|assumption|((repeat(first|exact A1|exact uH|apply A2|apply uT));first|done|fail)|(simp;first|done|omega|fail))[c2]))
   clear hL
   refine A6p (fun n : Nat => [OI g l.length c (upL l a n)]) (fun n => n ≤ i - a - 1) (fun n => i - n) 0 (fun n => .int .i64 ((a + n : Nat) : Int)) (Nat.zero_le _) ?_
   intro n hn L hL
   have hq := B4U l a n
   obtain ⟨j, hj⟩ : ∃ j, j = a + n := ⟨_, rfl⟩
   have hL' := hL (n + 1)
   rw [upL, A9K, ← hj] at hL'
   rw [show a + (n + 1) = j + 1 by omega] at hL'
   rw [← hj]
   clear hL
   by_cases c4 : j < i - 1
   ·have c4' : (j : Int) < (i : Int) - 1 := by omega
    have ej : ((j : Int) + 1).toNat = j + 1 := by omega
    have g1 := P4 (l := upL l a n) (x := j) (by omega)
    have g2 := P4 (l := upL l a n) (x := j + 1) (by omega)
    generalize upL l a n = q at *
    (have zz:=trivial;repeat((first|clear zz|with_reducible first|refine A3 ?_|refine A4 fun _=>?_|refine A5 fun _=>?_);try simp(disch:=first|omega|assumption|((repeat(first|exact A1|exact uH|apply A2|apply uT));first|done|fail)|(simp;first|done|omega|fail))[c4', ej, g1, g2]))
    refine A3W (y := ix q (j + 1)) (by omega) ?_
    (have zz:=trivial;repeat((first|clear zz|with_reducible first|refine A3 ?_|refine A4 fun _=>?_|refine A5 fun _=>?_);try simp(disch:=first|omega|assumption|((repeat(first|exact A1|exact uH|apply A2|apply uT));first|done|fail)|(simp;first|done|omega|fail))[ej]))
    refine A3W (y := ix q j) (by simp; omega) ?_
    (have zz:=trivial;repeat((first|clear zz|with_reducible first|refine A3 ?_|refine A4 fun _=>?_|refine A5 fun _=>?_);try simp(disch:=first|omega|assumption|((repeat(first|exact A1|exact uH|apply A2|apply uT));first|done|fail)|(simp;first|done|omega|fail))[]))
    exact hL' (by omega) (by omega)
   ·have c4' : ¬ (j : Int) < (i : Int) - 1 := by omega
    obtain rfl : n = i - a - 1 := by omega
    (have zz:=trivial;repeat((first|clear zz|with_reducible first|refine A3 ?_|refine A4 fun _=>?_|refine A5 fun _=>?_);try simp(disch:=first|omega|assumption|((repeat(first|exact A1|exact uH|apply A2|apply uT));first|done|fail)|(simp;first|done|omega|fail))[c4']))
    exact C0 _ ⟨rfl, hfin⟩ (by (repeat' constructor))
 have c1' : ¬ (m : Int) - a = 1 := by omega
 by_cases c5 : b = m + 1
 ·have e1 : (b : Int) - m = 1 := by omega
  (have zz:=trivial;repeat((first|clear zz|with_reducible first|refine A3 ?_|refine A4 fun _=>?_|refine A5 fun _=>?_);try simp(disch:=first|omega|assumption|((repeat(first|exact A1|exact uH|apply A2|apply uT));first|done|fail)|(simp;first|done|omega|fail))[c1', e1]))
  refine A3P (fun _ : Nat × Nat => [OI g l.length c l]) (fun z => a ≤ z.1 ∧ z.1 ≤ z.2 ∧ z.2 ≤ m ∧ (a < z.1 → ¬ key (ix l m) < key (ix l (z.1 - 1))) ∧ (z.2 < m → key (ix l m) < key (ix l z.2))) (fun z => z.2 - z.1) (a, m) (fun z => .int .i64 (z.1 : Nat)) (fun z => .int .i64 (z.2 : Nat)) ⟨Nat.le_refl _, by simp only; omega, Nat.le_refl _, fun h => by simp only at h; omega, fun h => by simp only at h; omega⟩ ?_
  rintro ⟨i, j⟩ ⟨i1, i2, i3, p1, p2⟩ L hL
  simp only at i1 i2 i3 p1 p2 hL ⊢
  by_cases c2 : i < j
  ·have eh := A6e i j
   have g1 := P4 (l := l) (x := (i + j) / 2) (by omega)
   have g2 := P4 (l := l) (x := m) (by omega)
   obtain ⟨h, hh⟩ : ∃ h, h = (i + j) / 2 := ⟨_, rfl⟩
   have h1 : i ≤ h := by omega
   have h2 : h < j := by omega
   rw [← hh] at eh g1
   have hcm := A8d (key (ix l m)) (key (ix l h))
   have hL1 := hL (h + 1, j)
   have hL2 := hL (i, h)
   simp only at hL1 hL2
   clear hL hh
   (have zz:=trivial;repeat((first|clear zz|with_reducible first|refine A3 ?_|refine A4 fun _=>?_|refine A5 fun _=>?_);try simp(disch:=first|omega|assumption|((repeat(first|exact A1|exact uH|apply A2|apply uT));first|done|fail)|(simp;first|done|omega|fail))[c2, eh, g1, g2]))
   refine B8 Z5 (fun w' hw' => hc w' hw'.ks _ _ (hmem m (by omega)) (hmem h (by omega))) ?_
   by_cases c3 : key (ix l m) < key (ix l h)
   ·have c3' := hcm.2 c3
    generalize P2 (key (ix l m)) (key (ix l h)) = z at *
    (have zz:=trivial;repeat((first|clear zz|with_reducible first|refine A3 ?_|refine A4 fun _=>?_|refine A5 fun _=>?_);try simp(disch:=first|omega|assumption|((repeat(first|exact A1|exact uH|apply A2|apply uT));first|done|fail)|(simp;first|done|omega|fail))[c3']))
    exact hL2 ⟨i1, h1, by omega, p1, fun _ => c3⟩ (by omega)
   ·have c3' : ¬ P2 (key (ix l m)) (key (ix l h)) < 0 := fun h => c3 (hcm.1 h)
    generalize P2 (key (ix l m)) (key (ix l h)) = z at *
    (have zz:=trivial;repeat((first|clear zz|with_reducible first|refine A3 ?_|refine A4 fun _=>?_|refine A5 fun _=>?_);try simp(disch:=first|omega|assumption|((repeat(first|exact A1|exact uH|apply A2|apply uT));first|done|fail)|(simp;first|done|omega|fail))[c3']))
    exact hL1 ⟨by omega, by omega, i3, fun _ => c3, p2⟩ (by omega)
  ·obtain rfl : i = j := by omega
   subst c5
   have hfin := B5F (key := key) (l := l) (a := a) (s := i) (m := m) i1 i3 (by omega) hS1 hSt p1 p2
   have hrot := B5n (l := l) (m := m) (n := m - i) (by omega) (by omega)
   rw [show m - (m - i) = i by omega] at hrot
   rw [← hrot] at hfin
   (have zz:=trivial;repeat((first|clear zz|with_reducible first|refine A3 ?_|refine A4 fun _=>?_|refine A5 fun _=>?_);try simp(disch:=first|omega|assumption|((repeat(first|exact A1|exact uH|apply A2|apply uT));first|done|fail)|(simp;first|done|omega|fail))[c2]))
   clear hL
   refine A6p (fun n : Nat => [OI g l.length c (T1 l m n)]) (fun n => n ≤ m - i) (fun n => m - n) 0 (fun n => .int .i64 ((m - n : Nat) : Int)) (Nat.zero_le _) ?_
   intro n hn L hL
   have hq := A6m l m n
   obtain ⟨j, hj⟩ : ∃ j, j = m - n := ⟨_, rfl⟩
   have hL' := hL (n + 1)
   rw [T1, A9K, ← hj] at hL'
   rw [show m - (n + 1) = j - 1 by omega] at hL'
   rw [← hj]
   clear hL
   by_cases c4 : i < j
   ·have c4' : (i : Int) < (j : Int) := by omega
    have ej : ((j : Int) - 1) = ((j - 1 : Nat) : Int) := by omega
    have g1 := P4 (l := T1 l m n) (x := j) (by omega)
    have g2 := P4 (l := T1 l m n) (x := j - 1) (by omega)
    have hm2 : j - 1 < j := by omega
    generalize T1 l m n = q at *
    (have zz:=trivial;repeat((first|clear zz|with_reducible first|refine A3 ?_|refine A4 fun _=>?_|refine A5 fun _=>?_);try simp(disch:=first|omega|assumption|((repeat(first|exact A1|exact uH|apply A2|apply uT));first|done|fail)|(simp;first|done|omega|fail))[c4, c4', ej, g1, g2]))
    refine A3W (y := ix q (j - 1)) (by omega) ?_
    (have zz:=trivial;repeat((first|clear zz|with_reducible first|refine A3 ?_|refine A4 fun _=>?_|refine A5 fun _=>?_);try simp(disch:=first|omega|assumption|((repeat(first|exact A1|exact uH|apply A2|apply uT));first|done|fail)|(simp;first|done|omega|fail))[ej]))
    refine A3W (y := ix q j) (by simp; omega) ?_
    (have zz:=trivial;repeat((first|clear zz|with_reducible first|refine A3 ?_|refine A4 fun _=>?_|refine A5 fun _=>?_);try simp(disch:=first|omega|assumption|((repeat(first|exact A1|exact uH|apply A2|apply uT));first|done|fail)|(simp;first|done|omega|fail))[ej]))
    exact hL' (by omega) (by omega)
   ·have c4' : ¬ (i : Int) < (j : Int) := by omega
    obtain rfl : n = m - i := by omega
    (have zz:=trivial;repeat((first|clear zz|with_reducible first|refine A3 ?_|refine A4 fun _=>?_|refine A5 fun _=>?_);try simp(disch:=first|omega|assumption|((repeat(first|exact A1|exact uH|apply A2|apply uT));first|done|fail)|(simp;first|done|omega|fail))[c4, c4']))
    exact C0 _ ⟨rfl, hfin⟩ (by (repeat' constructor))
 exact absurd (show a + 1 < m ∧ m + 1 < b by omega) hgen
end Go.Proofs.YtlplkjgcfjdinaaGreat
namespace Go.Proofs.YtlplkjgcfjdinaaGreat
open Go
theorem M8.nil {key : Nat → Int} {l : List Nat} {a : Nat} : M8 key l a a := fun i j _ _ _ => by omega
theorem C2W (w : World) (g c : Nat) (l : List Nat) (bw : Nat) (key : Nat → Int) (hc : B2D w (C3 [OI g l.length c l]) bw key l) (hI : Inc l 0 l.length) (hl : l.length ≤ 30) (hw : LW false (C3 [OI g l.length c l]) w [OI g l.length c l] w) :
  Fn PR B7 31 #[.slice (some ⟨g, 0, none⟩) l.length c, .int .i64 (l.length : Int), B40 bw] w (Rn (C3 [OI g l.length c l]) w (fun (l' : List Nat) u => u = .tuple #[] ∧ M8 key l' 0 l.length ∧ l'.Perm l) fun l' => [OI g l.length c l']) := by
 refine p6 (TW.goH (κ := false) (S := C3 [OI g l.length c l]) ?_ hw)
 unfold V7
 generalize hS : C3 [OI g l.length c l] = S at *
 have hmm : ∀ {p : List Nat}, p.Perm l → B2D w S bw key p := fun {p} hp w' hw' x y hx hy => hc w' hw' x y (hp.mem_iff.1 hx) (hp.mem_iff.1 hy)
 have hcall : ∀ {w' : World} {p : List Nat} {Hk : List Res}, LW false S w Hk w' → p.length = l.length → p.Perm l → B2D w' (C3 [OI g p.length c p]) bw key p := fun {w'} {p} {Hk} hw' hpl hp w'' hw'' => hmm hp w'' (hw'.ks.trans (by rw [← hS]; exact hw''))
 (have zz:=trivial;repeat((first|clear zz|with_reducible first|refine A3 ?_|refine A4 fun _=>?_|refine A5 fun _=>?_);try simp(disch:=first|omega|assumption|((repeat(first|exact A1|exact uH|apply A2|apply uT));first|done|fail)|(simp;first|done|omega|fail))[]))
 refine A3P (fun z : Nat × List Nat => [OI g l.length c z.2]) (fun z => (z.1 = 0 ∧ z.2 = l) ∨ (z.1 = 20 ∧ 20 ≤ l.length ∧ M8 key z.2 0 20 ∧ Mix l 0 20 z.2)) (fun z => 40 - z.1) (0, l) (fun z => .int .i64 (z.1 : Nat)) (fun z => .int .i64 ((z.1 + 20 : Nat) : Int)) (Or.inl ⟨rfl, rfl⟩) ?_
 rintro ⟨a, p⟩ hz L hL
 simp only at hz hL ⊢
 by_cases hgo : a = 0 ∧ 20 ≤ l.length
 ·obtain ⟨rfl, h20⟩ := hgo
  have hpl : p = l := by
   rcases hz with h | h
   ·exact h.2
   ·omega
  subst hpl
  have c1 : (20 : Int) ≤ (p.length : Nat) := by omega
  have h := fun q : List Nat => hL (20, q)
  simp only at h
  clear hL hz
  (have zz:=trivial;repeat((first|clear zz|with_reducible first|refine A3 ?_|refine A4 fun _=>?_|refine A5 fun _=>?_);try simp(disch:=first|omega|assumption|((repeat(first|exact A1|exact uH|apply A2|apply uT));first|done|fail)|(simp;first|done|omega|fail))[c1]))
  refine F9 (Hc := [OI g p.length c p]) P5 (fun w' hw hs => B21 w' g c p 0 20 bw key (hcall hw rfl (List.Perm.refl _)) (hI.mono (Nat.le_refl _) h20) (by omega) h20 (by omega) hs) (by (repeat' constructor)) ?_
  rintro q _ ⟨rfl, h1, h2⟩
  (have zz:=trivial;repeat((first|clear zz|with_reducible first|refine A3 ?_|refine A4 fun _=>?_|refine A5 fun _=>?_);try simp(disch:=first|omega|assumption|((repeat(first|exact A1|exact uH|apply A2|apply uT));first|done|fail)|(simp;first|done|omega|fail))[]))
  exact h q (Or.inr ⟨trivial, h20, h1, h2⟩) (by omega)
 have hend : a ≤ l.length ∧ ¬ (a + 20 ≤ l.length) ∧ p.length = l.length ∧ p.Perm l ∧ Mix l 0 a p ∧ M8 key p 0 a := by
  rcases hz with ⟨rfl, rfl⟩ | ⟨rfl, h1, h2, h3⟩
  ·exact ⟨by omega, by omega, rfl, List.Perm.refl _, Mix.refl .., M8.nil⟩
  ·exact ⟨h1, by omega, h3.len, h3.perm, h3, h2⟩
 obtain ⟨ha, hb, hpl, hpp, hpm, hps⟩ := hend
 have ha0 : a = 0 ∨ a = 20 := by rcases hz with h | h <;> omega
 have hpI : Inc p a l.length := fun x y x1 x2 x3 => by rw [hpm.out x (by omega), hpm.out y (by omega)]; exact hI x y (by omega) x2 x3
 clear hL hz
 have c1 : ¬ ((a : Int) + 20 ≤ (l.length : Nat)) := by omega
 (have zz:=trivial;repeat((first|clear zz|with_reducible first|refine A3 ?_|refine A4 fun _=>?_|refine A5 fun _=>?_);try simp(disch:=first|omega|assumption|((repeat(first|exact A1|exact uH|apply A2|apply uT));first|done|fail)|(simp;first|done|omega|fail))[c1]))
 rw [← hpl]
 refine F9 (Hc := [OI g p.length c p]) P5 (fun w' hw hs => B21 w' g c p a p.length bw key (hcall hw hpl hpp) (by rw [hpl]; exact hpI) (by omega) (by omega) (by omega) hs) (by (repeat' constructor)) ?_
 rintro q _ ⟨rfl, h1, h2⟩
 have hql : q.length = p.length := h2.len
 have hqp : q.Perm l := h2.perm.trans hpp
 (have zz:=trivial;repeat((first|clear zz|with_reducible first|refine A3 ?_|refine A4 fun _=>?_|refine A5 fun _=>?_);try simp(disch:=first|omega|assumption|((repeat(first|exact A1|exact uH|apply A2|apply uT));first|done|fail)|(simp;first|done|omega|fail))[]))
 refine B6d (fun z : Nat × Nat × Nat × List Nat => [OI g p.length c z.2.2.2]) (fun z => z = (a, a + 20, 20, q) ∨ (z.2.2.1 = 40 ∧ M8 key z.2.2.2 0 p.length ∧ z.2.2.2.Perm l)) (fun z => 60 - z.2.2.1) (a, a + 20, 20, q) (fun z => .int .i64 (z.1 : Nat)) (fun z => .int .i64 (z.2.1 : Nat)) (fun z => .int .i64 (z.2.2.1 : Nat)) (Or.inl rfl) ?_
 rintro ⟨a1, b1, bs, q1⟩ hz L hL
 simp only at hz hL ⊢
 by_cases hbs : bs < p.length
 ·have hz1 : (a1, b1, bs, q1) = (a, a + 20, 20, q) := by
   rcases hz with h | ⟨h, _⟩
   ·exact h
   ·omega
  injection hz1 with e1 hz1
  injection hz1 with e2 hz1
  injection hz1 with e3 e4
  subst e1 e2 e3 e4
  obtain rfl : a1 = 20 := by omega
  have c2 : (20 : Int) < (p.length : Nat) := by omega
  have c3 : ¬ (40 : Int) ≤ (p.length : Nat) := by omega
  have h := fun q : List Nat => hL (0, 40, 40, q)
  simp only at h
  clear hL hz
  have hS1 : M8 key q1 0 20 := hps.same fun x _ x2 => h2.out x (by omega)
  have hSt : St key q1 0 20 p.length := (hI.mono (b' := p.length) (Nat.le_refl _) (by omega)).st2 hpm h2
  (have zz:=trivial;repeat((first|clear zz|with_reducible first|refine A3 ?_|refine A4 fun _=>?_|refine A5 fun _=>?_);try simp(disch:=first|omega|assumption|((repeat(first|exact A1|exact uH|apply A2|apply uT));first|done|fail)|(simp;first|done|omega|fail))[c2, c3]))
  refine A3P (fun _ : Unit => [OI g p.length c q1]) (fun _ => True) (fun _ => 0) () (fun _ => .int .i64 0) (fun _ => .int .i64 40) trivial ?_
  rintro _ _ L2 _
  (have zz:=trivial;repeat((first|clear zz|with_reducible first|refine A3 ?_|refine A4 fun _=>?_|refine A5 fun _=>?_);try simp(disch:=first|omega|assumption|((repeat(first|exact A1|exact uH|apply A2|apply uT));first|done|fail)|(simp;first|done|omega|fail))[c2, c3]))
  rw [← hql]
  refine F9 (Hc := [OI g q1.length c q1]) T9 (fun w' hw hs => B9D g bw key q1.length w' c q1 0 20 q1.length (by omega) (by omega) (by omega) (Nat.le_refl _) (by omega) (hcall hw (by omega) hqp) hS1 (by rw [hql]; exact h1) (by rw [hql]; exact hSt) hs) (by (repeat' constructor)) ?_
  rintro q2 _ ⟨rfl, g1, g2⟩
  rw [hql] at g1 ⊢
  (have zz:=trivial;repeat((first|clear zz|with_reducible first|refine A3 ?_|refine A4 fun _=>?_|refine A5 fun _=>?_);try simp(disch:=first|omega|assumption|((repeat(first|exact A1|exact uH|apply A2|apply uT));first|done|fail)|(simp;first|done|omega|fail))[]))
  exact h q2 (Or.inr ⟨trivial, g1, g2.perm.trans hqp⟩) (by omega)
 ·have c2 : ¬ (bs : Int) < (p.length : Nat) := by omega
  have hfin : M8 key q1 0 p.length ∧ q1.Perm l := by
   rcases hz with h | ⟨_, h⟩
   ·injection h with e1 h
    injection h with e2 h
    injection h with e3 e4
    subst e1 e2 e3 e4
    refine ⟨?_, hqp⟩
    rcases ha0 with rfl | rfl
    ·exact h1
    ·have : p.length = 20 := by omega
     rw [this]
     exact hps.same fun x _ x2 => h2.out x (by omega)
   ·exact h
  (have zz:=trivial;repeat((first|clear zz|with_reducible first|refine A3 ?_|refine A4 fun _=>?_|refine A5 fun _=>?_);try simp(disch:=first|omega|assumption|((repeat(first|exact A1|exact uH|apply A2|apply uT));first|done|fail)|(simp;first|done|omega|fail))[c2]))
  exact C0 q1 ⟨rfl, hfin.1, hfin.2⟩ (by (repeat' constructor))
end Go.Proofs.YtlplkjgcfjdinaaGreat
namespace Go.Proofs.YtlplkjgcfjdinaaGreat
open Go
theorem C66 (w : World) (bw : Nat) (v : Value) (l : List RecV) (x y : Nat) (hx : x < l.length) (hy : y < l.length) (hl : l.length ≤ 1000000) (hv : D4 w v l.length (l.flatMap H6)) (hb : w.cell? ⟨bw, 0, none⟩ = some v) :
  Fn PR B7 21 #[.int .i64 (x : Int), .int .i64 (y : Int), .pointer (some ⟨bw, 0, none⟩)] w (fun u w' => u = .int .i64 (P2 (G1 l x) (G1 l y)) ∧ C6 [] w w') := by
 refine Fn.pure (A9w (TW.go (κ := false) (S := []) ?_))
 unfold A24
 obtain ⟨a, c, rfl, hr⟩ := hv.form
 obtain ⟨b, o, rfl, hrow⟩ := hr (by omega)
 have h1 := hrow.cellAt (f := H6) (k := 10) (j := 3) (fun _ => rfl) (List.getElem?_eq_getElem hx) rfl
 have h2 := hrow.cellAt (f := H6) (k := 10) (j := 3) (fun _ => rfl) (List.getElem?_eq_getElem hy) rfl
 rw [← A4d hx] at h1
 rw [← A4d hy] at h2
 generalize G1 l x = p at *
 generalize G1 l y = q at *
 (have zz:=trivial;repeat((first|clear zz|with_reducible first|refine A3 ?_|refine A4 fun _=>?_|refine A5 fun _=>?_);try simp(disch:=first|omega|assumption|((repeat(first|exact A1|exact uH|apply A2|apply uT));first|done|fail)|(simp;first|done|omega|fail))[hb, hx, hy, h1, h2]))
 refine B8 (u := .int .i64 (P2 p q)) A22 (fun w' _ => (B7E w' p q).mono fun v w'' ⟨h, e⟩ => ⟨h, by rw [e]; exact C6.refl _ _⟩) ?_
 (have zz:=trivial;repeat((first|clear zz|with_reducible first|refine A3 ?_|refine A4 fun _=>?_|refine A5 fun _=>?_);try simp(disch:=first|omega|assumption|((repeat(first|exact A1|exact uH|apply A2|apply uT));first|done|fail)|(simp;first|done|omega|fail))[]))
 exact A9 rfl
theorem C0b (w : World) (F : Value) : Fn PR B7 20 #[.slice none 0 0, F] w (fun v w' => v = .tuple #[] ∧ C6 [] w w') := by
 have h40 : ∀ w', Fn PR B7 40 #[.slice none 0 0, .int .i64 0, .int .i64 0, F] w' (fun v w'' => v = .tuple #[] ∧ C6 [] w' w'') := fun w' => by
  refine Fn.pure (Y9 (TW.go (κ := false) (S := []) ?_))
  unfold P9
  (have zz:=trivial;repeat((first|clear zz|with_reducible first|refine A3 ?_|refine A4 fun _=>?_|refine A5 fun _=>?_);try simp(disch:=first|omega|assumption|((repeat(first|exact A1|exact uH|apply A2|apply uT));first|done|fail)|(simp;first|done|omega|fail))[]))
  refine A6p (fun _ : Unit => []) (fun _ => True) (fun _ => 0) () (fun _ => .int .i64 1) trivial ?_
  rintro _ _ L _
  (have zz:=trivial;repeat((first|clear zz|with_reducible first|refine A3 ?_|refine A4 fun _=>?_|refine A5 fun _=>?_);try simp(disch:=first|omega|assumption|((repeat(first|exact A1|exact uH|apply A2|apply uT));first|done|fail)|(simp;first|done|omega|fail))[]))
  exact A9 rfl
 have h31 : ∀ w', Fn PR B7 31 #[.slice none 0 0, .int .i64 0, F] w' (fun v w'' => v = .tuple #[] ∧ C6 [] w' w'') := fun w' => by
  refine Fn.pure (p6 (TW.go (κ := false) (S := []) ?_))
  unfold V7
  (have zz:=trivial;repeat((first|clear zz|with_reducible first|refine A3 ?_|refine A4 fun _=>?_|refine A5 fun _=>?_);try simp(disch:=first|omega|assumption|((repeat(first|exact A1|exact uH|apply A2|apply uT));first|done|fail)|(simp;first|done|omega|fail))[]))
  refine A3P (fun _ : Unit => []) (fun _ => True) (fun _ => 0) () (fun _ => .int .i64 0) (fun _ => .int .i64 20) trivial ?_
  rintro _ _ L _
  (have zz:=trivial;repeat((first|clear zz|with_reducible first|refine A3 ?_|refine A4 fun _=>?_|refine A5 fun _=>?_);try simp(disch:=first|omega|assumption|((repeat(first|exact A1|exact uH|apply A2|apply uT));first|done|fail)|(simp;first|done|omega|fail))[]))
  refine B8 P5 (fun w' _ => h40 w') ?_
  (have zz:=trivial;repeat((first|clear zz|with_reducible first|refine A3 ?_|refine A4 fun _=>?_|refine A5 fun _=>?_);try simp(disch:=first|omega|assumption|((repeat(first|exact A1|exact uH|apply A2|apply uT));first|done|fail)|(simp;first|done|omega|fail))[]))
  refine B6d (fun _ : Unit => []) (fun _ => True) (fun _ => 0) () (fun _ => .int .i64 0) (fun _ => .int .i64 20) (fun _ => .int .i64 20) trivial ?_
  rintro _ _ L2 _
  (have zz:=trivial;repeat((first|clear zz|with_reducible first|refine A3 ?_|refine A4 fun _=>?_|refine A5 fun _=>?_);try simp(disch:=first|omega|assumption|((repeat(first|exact A1|exact uH|apply A2|apply uT));first|done|fail)|(simp;first|done|omega|fail))[]))
  exact A9 rfl
 refine Fn.pure (b9 (TW.go (κ := false) (S := []) ?_))
 unfold S5
 (have zz:=trivial;repeat((first|clear zz|with_reducible first|refine A3 ?_|refine A4 fun _=>?_|refine A5 fun _=>?_);try simp(disch:=first|omega|assumption|((repeat(first|exact A1|exact uH|apply A2|apply uT));first|done|fail)|(simp;first|done|omega|fail))[]))
 refine B8 m5 (fun w' _ => h31 w') ?_
 (have zz:=trivial;repeat((first|clear zz|with_reducible first|refine A3 ?_|refine A4 fun _=>?_|refine A5 fun _=>?_);try simp(disch:=first|omega|assumption|((repeat(first|exact A1|exact uH|apply A2|apply uT));first|done|fail)|(simp;first|done|omega|fail))[]))
 exact A9 rfl
theorem C1m (w : World) (g c : Nat) (l : List Nat) (bw : Nat) (key : Nat → Int) (hc : B2D w (C3 [OI g l.length c l]) bw key l) (hI : Inc l 0 l.length) (hl : l.length ≤ 30) (hw : LW false (C3 [OI g l.length c l]) w [OI g l.length c l] w) :
  Fn PR B7 20 #[.slice (some ⟨g, 0, none⟩) l.length c, B40 bw] w (Rn (C3 [OI g l.length c l]) w (fun (l' : List Nat) u => u = .tuple #[] ∧ M8 key l' 0 l.length ∧ l'.Perm l) fun l' => [OI g l.length c l']) := by
 refine b9 (TW.goH (κ := false) (S := C3 [OI g l.length c l]) ?_ hw)
 unfold S5
 (have zz:=trivial;repeat((first|clear zz|with_reducible first|refine A3 ?_|refine A4 fun _=>?_|refine A5 fun _=>?_);try simp(disch:=first|omega|assumption|((repeat(first|exact A1|exact uH|apply A2|apply uT));first|done|fail)|(simp;first|done|omega|fail))[]))
 refine F9 (Hc := [OI g l.length c l]) m5 (fun w' hw hs => C2W w' g c l bw key (fun w'' hw'' x y hx hy => hc w'' (hw.ks.low.trans hw'') x y hx hy) hI hl hs) (by (repeat' constructor)) ?_
 rintro l' _ ⟨rfl, h1, h2⟩
 (have zz:=trivial;repeat((first|clear zz|with_reducible first|refine A3 ?_|refine A4 fun _=>?_|refine A5 fun _=>?_);try simp(disch:=first|omega|assumption|((repeat(first|exact A1|exact uH|apply A2|apply uT));first|done|fail)|(simp;first|done|omega|fail))[]))
 exact C0 l' ⟨rfl, h1, h2⟩ (by (repeat' constructor))
theorem A83 (w : World) (v : Value) (l : List RecV) (hl : l.length ≤ 24) (hv : D4 w v l.length (l.flatMap H6)) :
  Fn PR B7 11 #[v] w (Rn [] w (fun r u => u = r) fun r => [.own 3 1 r (T4 (G1 l) l.length).length (G7 (T4 (G1 l) l.length))]) := by
 refine B2Q (TW.go (κ := false) (S := []) ?_)
 unfold A5T
 obtain ⟨a, c, rfl, hr⟩ := hv.form
 (have zz:=trivial;repeat((first|clear zz|with_reducible first|refine A3 ?_|refine A4 fun _=>?_|refine A5 fun _=>?_);try simp(disch:=first|omega|assumption|((repeat(first|exact A1|exact uH|apply A2|apply uT));first|done|fail)|(simp;first|done|omega|fail))[]))
 rename_i bw
 refine r4 3 1 ?_
 refine H4 l.length (fun i (x : Option Addr × Nat) => .slice x.1 (y7 (G1 l) i).length x.2) (fun i x => [.own 3 1 (.slice x.1 (y7 (G1 l) i).length x.2) (y7 (G1 l) i).length (G7 (y7 (G1 l) i)), .pt bw (.cells #[.slice a l.length c] 32)]) (fun i x => (y7 (G1 l) i).length = 0 → x = (none, 0)) (none, 0) (fun _ => rfl) ?_
 rintro i ⟨xa, xc⟩ hi hx L hL
 by_cases hlt : i < l.length
 ·obtain ⟨b, o, rfl, hrow⟩ := hr (by omega)
  have h1 := hrow.at (f := H6) (k := 10) (fun _ => rfl) (List.getElem?_eq_getElem hlt)
  have hk := A4d hlt
  rw [H6] at h1
  generalize l[i] = y at *
  have hst := B7r (G1 l) i
  have hle := B6z (G1 l) i
  rw [hk] at hst
  have h := hL hlt
  rw [hst] at h
  clear hL
  generalize y7 (G1 l) i = p at *
  by_cases c1 : 0 ≤ y.tk
  ·rw [if_pos c1] at h
   (have zz:=trivial;repeat((first|clear zz|with_reducible first|refine A3 ?_|refine A4 fun _=>?_|refine A5 fun _=>?_|refine E2 fun _=>?_|refine E5 (hK:=fun _=>?_)|refine E6 (hK:=fun _=>?_)|refine E3 (hK:=fun _=>?_)|refine E1 (hK:=fun _=>?_)|refine E4 (hK:=fun _=>?_));try simp(disch:=first|omega|assumption|((repeat(first|exact A1|exact uH|apply A2|apply uT));first|done|fail)|(simp;first|done|omega|fail))[hlt, h1, c1]))
   refine V6 (e := 3) (k := 1) (q := p.length) (r := 1) (xs := G7 p) (news := [.int .i64 (i : Int)]) (by (repeat constructor)) (G0.own (by (repeat constructor))) (by decide) (by simp) (by simp) (by simp only [maxLen]; omega) (by omega) fun a' c' => ?_
   (have zz:=trivial;repeat((first|clear zz|with_reducible first|refine A3 ?_|refine A4 fun _=>?_|refine A5 fun _=>?_);try simp(disch:=first|omega|assumption|((repeat(first|exact A1|exact uH|apply A2|apply uT));first|done|fail)|(simp;first|done|omega|fail))[]))
   have h := h (a', c') (fun e => by simp at e)
   rw [show G7 (p ++ [i]) = G7 p ++ [.int .i64 (i : Int)] by simp [G7], show (p ++ [i]).length = p.length + 1 by simp] at h
   exact Sels.tw (by (repeat' constructor)) h
  ·rw [if_neg c1] at h
   (have zz:=trivial;repeat((first|clear zz|with_reducible first|refine A3 ?_|refine A4 fun _=>?_|refine A5 fun _=>?_);try simp(disch:=first|omega|assumption|((repeat(first|exact A1|exact uH|apply A2|apply uT));first|done|fail)|(simp;first|done|omega|fail))[hlt, h1, c1]))
   exact Sels.tw (by (repeat' constructor)) (h (xa, xc) hx)
 ·obtain rfl : i = l.length := by omega
  clear hL
  have hinc := C5w (G1 l) l.length
  have hle := B6z (G1 l) l.length
  have hlt' : ∀ x ∈ y7 (G1 l) l.length, x < l.length := fun x h => (C1b h).1
  have hfin : ∀ q : List Nat, q.Perm (y7 (G1 l) l.length) → M8 (G1 l) q 0 (y7 (G1 l) l.length).length → q = T4 (G1 l) l.length := fun q => B9p
  have hwl := B75 (G1 l) l.length
  generalize y7 (G1 l) l.length = p at *
  (have zz:=trivial;repeat((first|clear zz|with_reducible first|refine A3 ?_|refine A4 fun _=>?_|refine A5 fun _=>?_);try simp(disch:=first|omega|assumption|((repeat(first|exact A1|exact uH|apply A2|apply uT));first|done|fail)|(simp;first|done|omega|fail))[]))
  by_cases h0 : p.length = 0
  ·obtain rfl : p = [] := List.length_eq_zero_iff.1 h0
   have := hx rfl
   injection this with e1 e2
   subst e1 e2
   have hw0 := hfin [] (List.Perm.refl _) (fun i j _ _ h => by simp at h)
   refine B8 Z8 (fun w' _ => C0b w' _) ?_
   (have zz:=trivial;repeat((first|clear zz|with_reducible first|refine A3 ?_|refine A4 fun _=>?_|refine A5 fun _=>?_);try simp(disch:=first|omega|assumption|((repeat(first|exact A1|exact uH|apply A2|apply uT));first|done|fail)|(simp;first|done|omega|fail))[]))
   refine C0 (.slice none 0 0) rfl ?_
   rw [← hw0]
   (repeat' constructor)
  ·refine A1n (e := 3) (k := 1) (v := .slice xa p.length xc) (q := p.length) (xs := G7 p) (by (repeat constructor)) (by omega) fun g gc hg => ?_
   cases hg
   refine F9 (Hc := [OI g p.length xc p]) Z8 (fun w' hw hs => C1m w' g xc p bw (G1 l) (fun w'' hw'' x y hx hy => ?_) hinc (by omega) hs) (by (repeat' constructor)) ?_
   ·have h2 := hw.part (Hn := []) (w' := w'') ⟨hw'', by simp, by simp, .nil⟩
    exact C66 w'' bw (.slice a l.length c) l x y (hlt' x hx) (hlt' y hy) (by omega) (hv.ks h2.ks (by simp)) (h2.cell1 (by (repeat constructor)))
   rintro q _ ⟨rfl, h1, h2⟩
   have hq := hfin q h2 h1
   subst hq
   (have zz:=trivial;repeat((first|clear zz|with_reducible first|refine A3 ?_|refine A4 fun _=>?_|refine A5 fun _=>?_);try simp(disch:=first|omega|assumption|((repeat(first|exact A1|exact uH|apply A2|apply uT));first|done|fail)|(simp;first|done|omega|fail))[]))
   refine C0 (.slice (some ⟨g, 0, none⟩) p.length xc) rfl ?_
   rw [hwl]
   (repeat' constructor)
end Go.Proofs.YtlplkjgcfjdinaaGreat
namespace Go.Proofs.YtlplkjgcfjdinaaGreat
open Go
def T7 (l : List RecV) (i : Nat) (x : RecV) : Bool :=
 if x.tk < 0 then decide (x.en < 0) else decide (x.st ≤ x.tk) && (decide (x.en < 0) || decide (x.tk ≤ x.en)) && !((l.take i).any fun y => decide (y.tk = x.tk))
def A0Y (l : List RecV) : Bool := (List.range l.length).all fun i => T7 l i (l.getD i A7V)
theorem B62 {l : List RecV} {i : Nat} {x : RecV} (hx : l[i]? = some x) (h : T7 l i x = false) : A0Y l = false := by
 have hi := (List.getElem?_eq_some_iff.1 hx).1
 unfold A0Y
 rw [List.all_eq_false]
 exact ⟨i, List.mem_range.2 hi, by rw [List.getD_eq_getElem?_getD, hx]; simp [h]⟩
theorem B5f {l : List RecV} (h : ∀ i x, l[i]? = some x → T7 l i x = true) : A0Y l = true := by
 unfold A0Y
 rw [List.all_eq_true]
 intro i hi
 have hi := List.mem_range.1 hi
 rw [List.getD_eq_getElem?_getD, List.getElem?_eq_getElem hi]
 exact h i _ (List.getElem?_eq_getElem hi)
theorem B4s (w : World) (v : Value) (l : List RecV) (hn : l.length ≤ 1000000) (hv : D4 w v l.length (l.flatMap H6)) :
  Fn PR B7 14 #[v] w (fun r w' => r = .bool (A0Y l) ∧ C6 [] w w') := by
 refine Fn.pure (B6U (TW.go (κ := false) (S := []) ?_))
 unfold A9W
 obtain ⟨a, c, rfl, hr⟩ := hv.form
 refine B4f (Value.int .i64) fun r => ?_
 (have zz:=trivial;repeat((first|clear zz|with_reducible first|refine A3 ?_|refine A4 fun _=>?_|refine A5 fun _=>?_);try simp(disch:=first|omega|assumption|((repeat(first|exact A1|exact uH|apply A2|apply uT));first|done|fail)|(simp;first|done|omega|fail))[]))
 refine H4 (α := List (Int × Value)) l.length (fun _ _ => .bool false) (fun _ M => [.pt r (q6 (Value.int .i64) M)]) (fun i M => (∀ k, 0 ≤ k → a7 k M = if (l.take i).any (fun x => decide (x.tk = k)) then some (.bool true) else none) ∧ ∀ j x, j < i → l[j]? = some x → T7 l j x = true) [] (by simp [a7]) ?_
 rintro i M hi ⟨hM, hok⟩ L hL
 by_cases hlt : i < l.length
 ·obtain ⟨b, o, rfl, hrow⟩ := hr (by omega)
  obtain ⟨x, hx⟩ : ∃ x, l[i]? = some x := ⟨_, List.getElem?_eq_getElem (by omega)⟩
  have h1 := hrow.at (f := H6) (k := 10) (fun _ => rfl) hx
  rw [H6] at h1
  have hbad : T7 l i x = false → A0Y l = false := B62 hx
  have hnext : ∀ M', (∀ k, 0 ≤ k → a7 k M' = if (l.take (i + 1)).any (fun x => decide (x.tk = k)) then some (.bool true) else none) → T7 l i x = true → (∀ k, 0 ≤ k → a7 k M' = if (l.take (i + 1)).any (fun x => decide (x.tk = k)) then some (.bool true) else none) ∧ ∀ j y, j < i + 1 → l[j]? = some y → T7 l j y = true := fun M' h1 h2 => ⟨h1, fun j y hj hy => by
   by_cases e : j < i
   ·exact hok j y e hy
   ·obtain rfl : j = i := by omega
    rw [hx] at hy; injection hy with hy; subst hy; exact h2⟩
  have htake : ∀ k, (l.take (i + 1)).any (fun x => decide (x.tk = k)) = ((l.take i).any (fun x => decide (x.tk = k)) || decide (x.tk = k)) := fun k => by
   rw [List.take_add_one, hx, List.any_append]; simp
  by_cases c1 : x.tk < 0
  ·by_cases c2 : x.en < 0
   ·have c2' : ¬ 0 ≤ x.en := by omega
    (have zz:=trivial;repeat((first|clear zz|with_reducible first|refine A3 ?_|refine A4 fun _=>?_|refine A5 fun _=>?_);try simp(disch:=first|omega|assumption|((repeat(first|exact A1|exact uH|apply A2|apply uT));first|done|fail)|(simp;first|done|omega|fail))[hlt, h1, c1, c2, c2']))
    refine Sels.tw (by (repeat' constructor)) (hL hlt M (hnext M (fun k hk => ?_) (by simp [T7, c1, c2])))
    rw [htake, hM k hk, decide_eq_false (show ¬ x.tk = k by omega), Bool.or_false]
   ·have c2' : 0 ≤ x.en := by omega
    (have zz:=trivial;repeat((first|clear zz|with_reducible first|refine A3 ?_|refine A4 fun _=>?_|refine A5 fun _=>?_);try simp(disch:=first|omega|assumption|((repeat(first|exact A1|exact uH|apply A2|apply uT));first|done|fail)|(simp;first|done|omega|fail))[hlt, h1, c1, c2, c2']))
    exact A9 (by rw [hbad (by simp [T7, c1, c2])])
  have c1' : 0 ≤ x.tk := by omega
  by_cases c3 : x.tk < x.st
  ·(have zz:=trivial;repeat((first|clear zz|with_reducible first|refine A3 ?_|refine A4 fun _=>?_|refine A5 fun _=>?_);try simp(disch:=first|omega|assumption|((repeat(first|exact A1|exact uH|apply A2|apply uT));first|done|fail)|(simp;first|done|omega|fail))[hlt, h1, c1, c1', c3]))
   exact A9 (by rw [hbad (by simp [T7, c1]; intro h; omega)])
  have c3' : x.st ≤ x.tk := by omega
  by_cases c4 : 0 ≤ x.en ∧ x.en < x.tk
  ·obtain ⟨c4, c5⟩ := c4
   have c4' : ¬ x.en < 0 := by omega
   (have zz:=trivial;repeat((first|clear zz|with_reducible first|refine A3 ?_|refine A4 fun _=>?_|refine A5 fun _=>?_);try simp(disch:=first|omega|assumption|((repeat(first|exact A1|exact uH|apply A2|apply uT));first|done|fail)|(simp;first|done|omega|fail))[hlt, h1, c1, c1', c3, c4, c4', c5]))
   exact A9 (by rw [hbad (by simp [T7, c1, c4']; intro _ h; omega)])
  have c6 : x.en < 0 ∨ x.tk ≤ x.en := by omega
  have c8 : 0 ≤ x.en → (x.en < x.tk) = False := fun h => by simp; omega
  by_cases c7 : 0 ≤ x.en
  all_goals (have zz:=trivial;repeat((first|clear zz|with_reducible first|refine A3 ?_|refine A4 fun _=>?_|refine A5 fun _=>?_);try simp(disch:=first|omega|assumption|((repeat(first|exact A1|exact uH|apply A2|apply uT));first|done|fail)|(simp;first|done|omega|fail))[hlt, h1, c1, c1', c3, c7, c8]))
  all_goals rw [A8m B9x ty4 (KeyT.int G3) (l := M) (by (repeat constructor)), hM _ c1']
  all_goals cases hseen : (l.take i).any (fun y => decide (y.tk = x.tk))
  any_goals
   have hb := hbad (by simp only [T7, if_neg c1, hseen, Bool.not_true, Bool.and_false])
   (have zz:=trivial;repeat((first|clear zz|with_reducible first|refine A3 ?_|refine A4 fun _=>?_|refine A5 fun _=>?_);try simp(disch:=first|omega|assumption|((repeat(first|exact A1|exact uH|apply A2|apply uT));first|done|fail)|(simp;first|done|omega|fail))[]))
   exact A9 (by rw [hb])
  all_goals
   have hg : T7 l i x = true := by
    simp only [T7, if_neg c1, hseen, Bool.not_false, Bool.and_true, decide_eq_true c3', Bool.true_and, Bool.or_eq_true, decide_eq_true_eq]; exact c6
   have hn := fun M' h => hL hlt M' (hnext M' h hg)
   clear hL hnext
   (have zz:=trivial;repeat((first|clear zz|with_reducible first|refine A3 ?_|refine A4 fun _=>?_|refine A5 fun _=>?_);try simp(disch:=first|omega|assumption|((repeat(first|exact A1|exact uH|apply A2|apply uT));first|done|fail)|(simp;first|done|omega|fail))[]))
   refine A8v B9x (KeyT.int G3) (k := x.tk) (by (repeat constructor)) ?_
   (have zz:=trivial;repeat((first|clear zz|with_reducible first|refine A3 ?_|refine A4 fun _=>?_|refine A5 fun _=>?_);try simp(disch:=first|omega|assumption|((repeat(first|exact A1|exact uH|apply A2|apply uT));first|done|fail)|(simp;first|done|omega|fail))[]))
   refine Sels.tw (by (repeat' constructor)) (hn _ fun k hk => ?_)
   rw [B5N, htake]
   by_cases hk' : k = x.tk
   ·subst hk'; simp
   ·rw [if_neg hk', hM k hk, decide_eq_false (show ¬ x.tk = k from fun e => hk' e.symm), Bool.or_false]
 ·obtain rfl : i = l.length := by omega
  (have zz:=trivial;repeat((first|clear zz|with_reducible first|refine A3 ?_|refine A4 fun _=>?_|refine A5 fun _=>?_);try simp(disch:=first|omega|assumption|((repeat(first|exact A1|exact uH|apply A2|apply uT));first|done|fail)|(simp;first|done|omega|fail))[hlt]))
  exact A9 (by rw [B5f fun i x hx => hok i x (List.getElem?_eq_some_iff.1 hx).1 hx])
end Go.Proofs.YtlplkjgcfjdinaaGreat
namespace Go.Proofs.YtlplkjgcfjdinaaGreat
open Go
theorem C4r (w : World) (v : Value) (l : List RecV) (hl : l.length ≤ 9223372036854775807) (hv : D4 w v l.length (l.flatMap H6)) :
  Fn PR B7 8 #[v] w (fun r w' => r = .bool (decide (l.length ≤ 24)) ∧ C6 [] w w') := by
 refine Fn.pure (A8Q (TW.go (κ := false) (S := []) ?_))
 unfold A16
 obtain ⟨a, c, rfl, hr⟩ := hv.form
 (have zz:=trivial;repeat((first|clear zz|with_reducible first|refine A3 ?_|refine A4 fun _=>?_|refine A5 fun _=>?_);try simp(disch:=first|omega|assumption|((repeat(first|exact A1|exact uH|apply A2|apply uT));first|done|fail)|(simp;first|done|omega|fail))[]))
 exact A9 (by congr 1; rw [decide_eq_decide]; omega)
theorem B97 (w : World) (v : Value) (l : List RecV) (hl : l.length ≤ 24) (hv : D4 w v l.length (l.flatMap H6)) :
  Fn PR B7 9 #[v] w (Rn [] w (fun r u => u = r) fun r => [.own 47 10 r l.length (l.flatMap H6)]) := by
 refine A4H (TW.go (κ := false) (S := []) ?_)
 unfold x8
 obtain ⟨a, c, rfl, hr⟩ := hv.form
 refine r4 47 10 ?_
 (have zz:=trivial;repeat((first|clear zz|with_reducible first|refine A3 ?_|refine A4 fun _=>?_|refine A5 fun _=>?_);try simp(disch:=first|omega|assumption|((repeat(first|exact A1|exact uH|apply A2|apply uT));first|done|fail)|(simp;first|done|omega|fail))[]))
 refine H4 l.length (fun i (x : Option Addr × Nat) => .slice x.1 i x.2) (fun i x => [.own 47 10 (.slice x.1 i x.2) i ((l.take i).flatMap H6)]) (fun i x => True) (none, 0) trivial ?_ (by simp)
 rintro i ⟨xa, xc⟩ hi _ L hL
 by_cases hlt : i < l.length
 ·obtain ⟨b, o, rfl, hrow⟩ := hr (by omega)
  have h1 := hrow.at (f := H6) (k := 10) (fun _ => rfl) (List.getElem?_eq_getElem hlt)
  have hst : (l.take (i + 1)).flatMap H6 = (l.take i).flatMap H6 ++ H6 l[i] := by
   rw [List.take_add_one, List.getElem?_eq_getElem hlt, Option.toList_some, List.flatMap_append, List.flatMap_singleton]
  have h := hL hlt
  rw [hst] at h
  generalize l[i] = y at *
  rw [H6] at h1
  (have zz:=trivial;repeat((first|clear zz|with_reducible first|refine A3 ?_|refine A4 fun _=>?_|refine A5 fun _=>?_|refine E2 fun _=>?_|refine E5 (hK:=fun _=>?_)|refine E6 (hK:=fun _=>?_)|refine E3 (hK:=fun _=>?_)|refine E1 (hK:=fun _=>?_)|refine E4 (hK:=fun _=>?_));try simp(disch:=first|omega|assumption|((repeat(first|exact A1|exact uH|apply A2|apply uT));first|done|fail)|(simp;first|done|omega|fail))[hlt, h1]))
  refine V6 (e := 47) (k := 10) (q := i) (r := 1) (xs := (l.take i).flatMap H6) (news := H6 y) (by (repeat constructor)) (G0.own (by (repeat constructor))) (by decide) rfl (by simp [H6]) (by simp only [maxLen]; omega) (by omega) fun a' c' => ?_
  (have zz:=trivial;repeat((first|clear zz|with_reducible first|refine A3 ?_|refine A4 fun _=>?_|refine A5 fun _=>?_);try simp(disch:=first|omega|assumption|((repeat(first|exact A1|exact uH|apply A2|apply uT));first|done|fail)|(simp;first|done|omega|fail))[]))
  exact Sels.tw (by (repeat' constructor)) (h (a', c') trivial)
 ·obtain rfl : i = l.length := by omega
  (have zz:=trivial;repeat((first|clear zz|with_reducible first|refine A3 ?_|refine A4 fun _=>?_|refine A5 fun _=>?_);try simp(disch:=first|omega|assumption|((repeat(first|exact A1|exact uH|apply A2|apply uT));first|done|fail)|(simp;first|done|omega|fail))[]))
  refine C0 (.slice xa l.length xc) rfl ?_
  try rw [List.take_length]
  (repeat' constructor)
theorem C58 (w : World) (u v : Value) (l m : List Nat) (hn : l.length ≤ 1000000) (hm : m.length ≤ 1000000) (hu : D4 w u l.length (G7 l)) (hv : D4 w v m.length (G7 m)) :
  Fn PR B7 10 #[u, v] w (fun r w' => r = .bool (decide (l = m)) ∧ C6 [] w w') := by
 refine Fn.pure (A63 (TW.go (κ := false) (S := []) ?_))
 unfold A1P
 obtain ⟨a, c, rfl, hr⟩ := hu.form
 obtain ⟨a', c', rfl, hr'⟩ := hv.form
 by_cases hlen : l.length = m.length
 case neg =>
  have hne : ¬ l = m := fun h => hlen (by rw [h])
  have hl' : ¬ ((l.length : Nat) : Int) = m.length := by omega
  (have zz:=trivial;repeat((first|clear zz|with_reducible first|refine A3 ?_|refine A4 fun _=>?_|refine A5 fun _=>?_);try simp(disch:=first|omega|assumption|((repeat(first|exact A1|exact uH|apply A2|apply uT));first|done|fail)|(simp;first|done|omega|fail))[hl', hlen]))
  exact A9 (by simp [hne])
 (have zz:=trivial;repeat((first|clear zz|with_reducible first|refine A3 ?_|refine A4 fun _=>?_|refine A5 fun _=>?_);try simp(disch:=first|omega|assumption|((repeat(first|exact A1|exact uH|apply A2|apply uT));first|done|fail)|(simp;first|done|omega|fail))[hlen]))
 refine H4 (α := Unit) m.length (fun _ _ => .bool false) (fun _ _ => []) (fun i _ => ∀ j, j < i → l.getD j 0 = m.getD j 0) () (by intro j hj; omega) ?_
 rintro i _ hi hpre L hL
 by_cases hlt : i < m.length
 ·obtain ⟨b, o, rfl, hrow⟩ := hr (by omega)
  obtain ⟨b', o', rfl, hrow'⟩ := hr' (by omega)
  have h1 := (hrow.get (i := i) (P4 (l := l) (x := i) (by omega)))
  have h2 := (hrow'.get (i := i) (P4 (l := m) (x := i) hlt))
  by_cases he : ix l i = ix m i
  ·have he' : (ix l i : Int) = ix m i := by omega
   (have zz:=trivial;repeat((first|clear zz|with_reducible first|refine A3 ?_|refine A4 fun _=>?_|refine A5 fun _=>?_);try simp(disch:=first|omega|assumption|((repeat(first|exact A1|exact uH|apply A2|apply uT));first|done|fail)|(simp;first|done|omega|fail))[hlt, hlen, h1, h2, he]))
   refine Sels.tw .nil (hL hlt () ?_)
   intro j hj
   by_cases hji : j = i
   ·subst hji; exact he
   ·exact hpre j (by omega)
  ·have hne : ¬ l = m := fun h => he (by rw [h])
   have he' : ¬ (ix l i : Int) = ix m i := by omega
   (have zz:=trivial;repeat((first|clear zz|with_reducible first|refine A3 ?_|refine A4 fun _=>?_|refine A5 fun _=>?_);try simp(disch:=first|omega|assumption|((repeat(first|exact A1|exact uH|apply A2|apply uT));first|done|fail)|(simp;first|done|omega|fail))[hlt, hlen, h1, h2, he, he']))
   exact A9 (by simp [hne])
 ·obtain rfl : i = m.length := by omega
  have e := B0z hlen fun t ht => hpre t (by omega)
  (have zz:=trivial;repeat((first|clear zz|with_reducible first|refine A3 ?_|refine A4 fun _=>?_|refine A5 fun _=>?_);try simp(disch:=first|omega|assumption|((repeat(first|exact A1|exact uH|apply A2|apply uT));first|done|fail)|(simp;first|done|omega|fail))[hlen]))
  exact A9 (by rw [decide_eq_true e])
theorem C43 (w : World) (v u : Value) (l : List RecV) (p : List Nat) (i : Nat) (hl : l.length ≤ 24) (hp : p.length ≤ 24) (hpl : ∀ x ∈ p, x < l.length) (hi : i < l.length) (hv : D4 w v l.length (l.flatMap H6)) (hu : D4 w u p.length (G7 p)) :
  Fn PR B7 23 #[v, u, .int .i64 (i : Int)] w (Rn [] w (fun r z => z = r) fun r => [.own 3 1 r (A1u (G1 l) p i).length (G7 (A1u (G1 l) p i))]) := by
 refine A7v (TW.go (κ := false) (S := []) ?_)
 unfold A2L
 obtain ⟨a, c, rfl, hr⟩ := hv.form
 obtain ⟨a', c', rfl, hr'⟩ := hu.form
 obtain ⟨b, o, rfl, hrow⟩ := hr (by omega)
 have hki := hrow.cellAt (f := H6) (k := 10) (j := 3) (fun _ => rfl) (List.getElem?_eq_getElem hi) rfl
 rw [← A4d hi] at hki
 refine r4 3 1 ?_
 (have zz:=trivial;repeat((first|clear zz|with_reducible first|refine A3 ?_|refine A4 fun _=>?_|refine A5 fun _=>?_);try simp(disch:=first|omega|assumption|((repeat(first|exact A1|exact uH|apply A2|apply uT));first|done|fail)|(simp;first|done|omega|fail))[]))
 refine B34 (α := Bool × Option Addr × Nat × List Nat) p.length (fun _ x => .bool x.1) (fun _ x => .slice x.2.1 x.2.2.2.length x.2.2.1) (fun _ x => [.own 3 1 (.slice x.2.1 x.2.2.2.length x.2.2.1) x.2.2.2.length (G7 x.2.2.2)])
  (fun k x => x.2.2.2.length ≤ k + (if x.1 then 1 else 0) ∧ A1u (G1 l) p i = x.2.2.2 ++ (if x.1 then p.drop k else A1u (G1 l) (p.drop k) i)) (false, none, 0, []) ⟨by simp, by simp⟩ ?_
 rintro k ⟨d, xa, xc, out⟩ hk ⟨hol, hφ⟩ L hL
 simp only at hol hφ hL ⊢
 by_cases hlt : k < p.length
 ·obtain ⟨b', o', rfl, hrow'⟩ := hr' (by omega)
  have h1 := (hrow'.get (i := k) (P4 (l := p) (x := k) hlt))
  have hd : p.drop k = ix p k :: p.drop (k + 1) := by
   rw [List.drop_eq_getElem_cons hlt]; unfold ix; rw [A4b hlt]
  have hx := hpl _ (A8c hlt)
  rw [hd] at hφ
  have hL' := hL hlt
  clear hL hd
  generalize p.drop (k + 1) = rest at *
  generalize ix p k = x at *
  have hkx := hrow.cellAt (f := H6) (k := 10) (j := 3) (fun _ => rfl) (List.getElem?_eq_getElem hx) rfl
  rw [← A4d hx] at hkx
  cases d with
  | true =>
   simp only [if_true] at hol
   (have zz:=trivial;repeat((first|clear zz|with_reducible first|refine A3 ?_|refine A4 fun _=>?_|refine A5 fun _=>?_|refine E2 fun _=>?_|refine E5 (hK:=fun _=>?_)|refine E6 (hK:=fun _=>?_)|refine E3 (hK:=fun _=>?_)|refine E1 (hK:=fun _=>?_)|refine E4 (hK:=fun _=>?_));try simp(disch:=first|omega|assumption|((repeat(first|exact A1|exact uH|apply A2|apply uT));first|done|fail)|(simp;first|done|omega|fail))[hlt, h1]))
   refine V6 (e := 3) (k := 1) (q := out.length) (r := 1) (xs := G7 out) (news := [.int .i64 (x : Int)]) (by (repeat constructor)) (G0.own (by (repeat constructor))) (by decide) (by simp) (by simp) (by simp only [maxLen]; omega) (by omega) fun a' c' => ?_
   (have zz:=trivial;repeat((first|clear zz|with_reducible first|refine A3 ?_|refine A4 fun _=>?_|refine A5 fun _=>?_);try simp(disch:=first|omega|assumption|((repeat(first|exact A1|exact uH|apply A2|apply uT));first|done|fail)|(simp;first|done|omega|fail))[]))
   have h := hL' (true, a', c', out ++ [x]) ⟨by simp; omega, by rw [hφ]; simp⟩
   rw [show G7 (out ++ [x]) = G7 out ++ [.int .i64 (x : Int)] by simp [G7], show (out ++ [x]).length = out.length + 1 by simp] at h
   exact Sels.tw (by (repeat' constructor)) h
  | false =>
   simp only [Bool.false_eq_true, if_false] at hφ hol
   by_cases c1 : G1 l i < G1 l x
   ·(have zz:=trivial;repeat((first|clear zz|with_reducible first|refine A3 ?_|refine A4 fun _=>?_|refine A5 fun _=>?_|refine E2 fun _=>?_|refine E5 (hK:=fun _=>?_)|refine E6 (hK:=fun _=>?_)|refine E3 (hK:=fun _=>?_)|refine E1 (hK:=fun _=>?_)|refine E4 (hK:=fun _=>?_));try simp(disch:=first|omega|assumption|((repeat(first|exact A1|exact uH|apply A2|apply uT));first|done|fail)|(simp;first|done|omega|fail))[hlt, h1, hx, hi, hkx, hki, c1]))
    refine V6 (e := 3) (k := 1) (q := out.length) (r := 1) (xs := G7 out) (news := [.int .i64 (i : Int)]) (by (repeat constructor)) (G0.own (by (repeat constructor))) (by decide) (by simp) (by simp) (by simp only [maxLen]; omega) (by omega) fun a' c' => ?_
    (have zz:=trivial;repeat((first|clear zz|with_reducible first|refine A3 ?_|refine A4 fun _=>?_|refine A5 fun _=>?_|refine E2 fun _=>?_|refine E5 (hK:=fun _=>?_)|refine E6 (hK:=fun _=>?_)|refine E3 (hK:=fun _=>?_)|refine E1 (hK:=fun _=>?_)|refine E4 (hK:=fun _=>?_));try simp(disch:=first|omega|assumption|((repeat(first|exact A1|exact uH|apply A2|apply uT));first|done|fail)|(simp;first|done|omega|fail))[hlt, h1]))
    refine V6 (e := 3) (k := 1) (q := out.length + 1) (r := 1) (xs := G7 out ++ [.int .i64 (i : Int)]) (news := [.int .i64 (x : Int)]) (by (repeat constructor)) (G0.own (by (repeat constructor))) (by decide) (by simp) (by simp) (by simp only [maxLen]; omega) (by omega) fun a'' c'' => ?_
    (have zz:=trivial;repeat((first|clear zz|with_reducible first|refine A3 ?_|refine A4 fun _=>?_|refine A5 fun _=>?_);try simp(disch:=first|omega|assumption|((repeat(first|exact A1|exact uH|apply A2|apply uT));first|done|fail)|(simp;first|done|omega|fail))[]))
    have h := hL' (true, a'', c'', out ++ [i] ++ [x]) ⟨by simp; omega, by rw [hφ, A1u, if_pos c1]; simp⟩
    rw [show G7 (out ++ [i] ++ [x]) = G7 out ++ [.int .i64 (i : Int), .int .i64 (x : Int)] by simp [G7], show (out ++ [i] ++ [x]).length = out.length + 1 + 1 by simp] at h
    exact Sels.tw (by (repeat' constructor)) h
   ·(have zz:=trivial;repeat((first|clear zz|with_reducible first|refine A3 ?_|refine A4 fun _=>?_|refine A5 fun _=>?_|refine E2 fun _=>?_|refine E5 (hK:=fun _=>?_)|refine E6 (hK:=fun _=>?_)|refine E3 (hK:=fun _=>?_)|refine E1 (hK:=fun _=>?_)|refine E4 (hK:=fun _=>?_));try simp(disch:=first|omega|assumption|((repeat(first|exact A1|exact uH|apply A2|apply uT));first|done|fail)|(simp;first|done|omega|fail))[hlt, h1, hx, hi, hkx, hki, c1]))
    refine V6 (e := 3) (k := 1) (q := out.length) (r := 1) (xs := G7 out) (news := [.int .i64 (x : Int)]) (by (repeat constructor)) (G0.own (by (repeat constructor))) (by decide) (by simp) (by simp) (by simp only [maxLen]; omega) (by omega) fun a' c' => ?_
    (have zz:=trivial;repeat((first|clear zz|with_reducible first|refine A3 ?_|refine A4 fun _=>?_|refine A5 fun _=>?_);try simp(disch:=first|omega|assumption|((repeat(first|exact A1|exact uH|apply A2|apply uT));first|done|fail)|(simp;first|done|omega|fail))[]))
    have h := hL' (false, a', c', out ++ [x]) ⟨by simp; omega, by rw [hφ, A1u, if_neg c1]; simp⟩
    rw [show G7 (out ++ [x]) = G7 out ++ [.int .i64 (x : Int)] by simp [G7], show (out ++ [x]).length = out.length + 1 by simp] at h
    exact Sels.tw (by (repeat' constructor)) h
 ·obtain rfl : k = p.length := by omega
  rw [List.drop_length] at hφ
  clear hL
  cases d with
  | true =>
   simp only [if_true] at hol
   have hq : A1u (G1 l) p i = out := by rw [hφ]; simp
   (have zz:=trivial;repeat((first|clear zz|with_reducible first|refine A3 ?_|refine A4 fun _=>?_|refine A5 fun _=>?_);try simp(disch:=first|omega|assumption|((repeat(first|exact A1|exact uH|apply A2|apply uT));first|done|fail)|(simp;first|done|omega|fail))[]))
   refine C0 (.slice xa out.length xc) rfl ?_
   rw [hq]
   (repeat' constructor)
  | false =>
   simp only [Bool.false_eq_true, if_false] at hol
   have hq : A1u (G1 l) p i = out ++ [i] := by rw [hφ]; simp [A1u]
   (have zz:=trivial;repeat((first|clear zz|with_reducible first|refine A3 ?_|refine A4 fun _=>?_|refine A5 fun _=>?_|refine E2 fun _=>?_|refine E5 (hK:=fun _=>?_)|refine E6 (hK:=fun _=>?_)|refine E3 (hK:=fun _=>?_)|refine E1 (hK:=fun _=>?_)|refine E4 (hK:=fun _=>?_));try simp(disch:=first|omega|assumption|((repeat(first|exact A1|exact uH|apply A2|apply uT));first|done|fail)|(simp;first|done|omega|fail))[]))
   refine V6 (e := 3) (k := 1) (q := out.length) (r := 1) (xs := G7 out) (news := [.int .i64 (i : Int)]) (by (repeat constructor)) (G0.own (by (repeat constructor))) (by decide) (by simp) (by simp) (by simp only [maxLen]; omega) (by omega) fun a' c' => ?_
   (have zz:=trivial;repeat((first|clear zz|with_reducible first|refine A3 ?_|refine A4 fun _=>?_|refine A5 fun _=>?_);try simp(disch:=first|omega|assumption|((repeat(first|exact A1|exact uH|apply A2|apply uT));first|done|fail)|(simp;first|done|omega|fail))[]))
   refine C0 (.slice a' (out.length + 1) c') rfl ?_
   rw [hq, show G7 (out ++ [i]) = G7 out ++ [.int .i64 (i : Int)] by simp [G7], show (out ++ [i]).length = out.length + 1 by simp]
   (repeat' constructor)
theorem B1E (key : Nat → Int) (n : Nat) : (T4 key n).length ≤ n := by rw [B75]; exact B6z key n
theorem B0B (w : World) (v : Value) (l : List RecV) (hl : l.length ≤ 24) (hv : D4 w v l.length (l.flatMap H6)) :
  Fn PR B7 12 #[v] w (Rn [] w (fun r z => z = r) fun r => [.own 3 1 r (T4 (G1 l) l.length).length (G7 (T4 (G1 l) l.length))]) := by
 refine A4L (TW.go (κ := false) (S := []) ?_)
 unfold y6
 have hv0 := hv
 obtain ⟨a, c, rfl, hr⟩ := hv.form
 refine r4 3 1 ?_
 (have zz:=trivial;repeat((first|clear zz|with_reducible first|refine A3 ?_|refine A4 fun _=>?_|refine A5 fun _=>?_);try simp(disch:=first|omega|assumption|((repeat(first|exact A1|exact uH|apply A2|apply uT));first|done|fail)|(simp;first|done|omega|fail))[]))
 refine H4 l.length (fun i (x : Value) => x) (fun i x => [.own 3 1 x (T4 (G1 l) i).length (G7 (T4 (G1 l) i))]) (fun i x => True) (.slice none 0 0) trivial ?_
 rintro i x hi _ L hL
 by_cases hlt : i < l.length
 ·obtain ⟨b, o, rfl, hrow⟩ := hr (by omega)
  have h1 := hrow.cellAt (f := H6) (k := 10) (j := 3) (fun _ => rfl) (List.getElem?_eq_getElem hlt) rfl
  rw [← A4d hlt] at h1
  have h := hL hlt
  rw [B0M, B28] at h
  have hle := B1E (G1 l) i
  have hlw : ∀ y ∈ T4 (G1 l) i, y < l.length := fun y hy => by have := (B1K hy).1; omega
  clear hL
  generalize T4 (G1 l) i = p at *
  by_cases c1 : 0 ≤ G1 l i
  ·rw [if_pos c1] at h
   (have zz:=trivial;repeat((first|clear zz|with_reducible first|refine A3 ?_|refine A4 fun _=>?_|refine A5 fun _=>?_);try simp(disch:=first|omega|assumption|((repeat(first|exact A1|exact uH|apply A2|apply uT));first|done|fail)|(simp;first|done|omega|fail))[hlt, h1, c1]))
   refine F3 A66 (fun w' hw' => C43 w' _ x l p i hl (by omega) hlw hlt (hv0.ks hw'.ks (by simp)) (G0.own (by (repeat constructor)) w' hw')) ?_
   rintro r _ rfl
   (have zz:=trivial;repeat((first|clear zz|with_reducible first|refine A3 ?_|refine A4 fun _=>?_|refine A5 fun _=>?_);try simp(disch:=first|omega|assumption|((repeat(first|exact A1|exact uH|apply A2|apply uT));first|done|fail)|(simp;first|done|omega|fail))[]))
   exact Sels.tw (by (repeat' constructor)) (h _ trivial)
  ·rw [if_neg c1] at h
   (have zz:=trivial;repeat((first|clear zz|with_reducible first|refine A3 ?_|refine A4 fun _=>?_|refine A5 fun _=>?_);try simp(disch:=first|omega|assumption|((repeat(first|exact A1|exact uH|apply A2|apply uT));first|done|fail)|(simp;first|done|omega|fail))[hlt, h1, c1]))
   exact Sels.tw (by (repeat' constructor)) (h _ trivial)
 ·obtain rfl : i = l.length := by omega
  (have zz:=trivial;repeat((first|clear zz|with_reducible first|refine A3 ?_|refine A4 fun _=>?_|refine A5 fun _=>?_);try simp(disch:=first|omega|assumption|((repeat(first|exact A1|exact uH|apply A2|apply uT));first|done|fail)|(simp;first|done|omega|fail))[]))
  exact C0 x rfl (by (repeat' constructor))
end Go.Proofs.YtlplkjgcfjdinaaGreat
