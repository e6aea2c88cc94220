/- The proof of a given statement, a part of it (Args Join ShR17 Tab Tab2 Model5 Model6 Model7 Model8 Tab3 DoT Few ArgsC Rec Args22 Sym WitL LegL ShOrder ShR21 ShR22 ShR08 ShL22 Stab Stab2 Stab3 Wit Real Rf22 Rf22b Wat Exp Repl Repl2 Leg Works22). No condition but what each lemma says. -/
import Derived.WalkKit
import Derived.ProofKit
import Derived.OpenShut
import Derived.Carry
import Derived.Deep.Slices
import Derived.Test.YtlplkjgcfjdinaaGreatRows
import Derived.Test.YtlplkjgcfjdinaaGreatP15
set_option linter.unusedVariables false
set_option linter.unusedSimpArgs false
namespace Go.Proofs.YtlplkjgcfjdinaaGreat
open Go Go.ChangeShapes Go.WideShapes Go.ChangeAt Go.RowKit
theorem B9g {w w' : World} (h : C6 [] w w') (hk : Sk B5 w w') (may : MemPlace → Prop) : w.keptBut w' may := by
 refine ⟨hk.2.2.2.1, hk.2.2.2.2, fun i hi => ?_⟩
 have h1 : w.heap[i]? = some w.heap[i] := Array.getElem?_eq_getElem hi
 have h2 : w'.heap[i]? = some w.heap[i] := h.2 i _ (by simp) h1
 rw [h1, h2]
 cases w.heap[i] <;> simp
theorem B6U {f : FuncId} {args : Array Value} {w : World} (h : Fn PR B5 f args w (fun v w' => v = .bool true ∧ C6 [] w w')) :
  Calls PR f args w fun e w' => e = .returned (.bool true) ∧ (∀ may, w.keptBut w' may) ∧ C6 [] w w' :=
 Calls.mono h fun _ w' ⟨v, he, ⟨hv, hb⟩, hs⟩ => ⟨by rw [he, hv], B9g hb hs, hb⟩
theorem own : ownKnob PR.godebug = none := by kernel_rfl
theorem C1M : laidOutB PR = true := by kernel_rfl
theorem B4U {H : Type} {enc : TypeId × Value → H} {P : Program} {f : Func} {s : ChangeSpec} {apart fresh handsOn : Bool} {W W' : World} {args : Array Value} {v : Value} {ds gs : List (DataW H)} {before pa pv : List MemPlace}
  (hW : DataW.Whole enc P f.params.toList s.vars apart W args.toList ds gs before)
  (hres : ∀ (b : Nat) (sp : Nat → Bool) (hd : Bool), DataW.TrodAll enc P W' b sp hd f.resultTypes.toList (v.resultList f.resultTypes.size) (s.fn H (ds ++ gs)).results [])
  (hargs : ∀ sp : Nat → Bool, (∀ p ∈ before, sp p.block = true) → DataW.TrodAll enc P W' 0 sp true f.params.toList args.toList (s.fn H (ds ++ gs)).args pa)
  (hvars : ∀ sp : Nat → Bool, (∀ p ∈ before, sp p.block = true) → DataW.TrodVars enc P W' sp s.vars (s.fn H (ds ++ gs)).vars pv)
  (hk : ∀ may, W.keptBut W' may) : s.post enc P f apart fresh handsOn false W args v W' := by
 have hold : ∀ p ∈ before, (fun b => decide (b < W.heap.size)) p.block = true := fun p hp => by simpa using hW.lt p hp
 exact ⟨ds, gs, before, [], pa, pv, hW, hres _ _ _, hargs _ hold, hvars _ hold, hk _, fun h => by cases h⟩
theorem B2p {v x : Value} (h : v.cells.toList = [x]) (hv : plain v = true) : v = x := by
 cases v <;> first | (simp [Value.cells] at h; exact h) | (simp [plain] at hv)
section
variable {H : Type} {enc : TypeId × Value → H} {P : Program} {w : World} {base : Nat} {spare : Nat → Bool} {held : Bool}
theorem A6a {α : Type} {f : α → List Value} {k : Nat} (hk : ∀ x, (f x).length = k) (hkp : 0 < k) {Q : α → Prop} {t e : TypeId} {fuel : Nat} {cs : List Value} {x : DataW H × List MemPlace}
  (ht : P.underlying t = some (.slice e)) (hc : P.cellsOf e = k) (h : DataW.trod enc P w base spare held fuel t cs = some x)
  (he : ∀ n cs' y, DataW.trod enc P w base spare held n e cs' = some y → ∃ a, cs' = f a ∧ Q a) :
  ∃ (v : Value) (l : List α), cs = [v] ∧ E4 w v l.length (l.flatMap f) ∧ (∀ a ∈ l, Q a) ∧ l.length ≤ maxLen := by
 rcases Go.Deep.open_slice ht h with ⟨rfl, _⟩ | ⟨a, len, cap, m, n, D, Pl, rfl, hb, hl, hm, hmm, _, hx⟩
 ·exact ⟨_, [], rfl, Or.inl ⟨rfl, rfl, none, 0, rfl⟩, by simp, by simp⟩
 have hlm : len ≤ m := by rw [hmm]; split <;> omega
 have hch : ∀ i : Fin len, ∃ a' : α, Q a' ∧ w.cells? base (a.add (i.1 * k)) k = some (f a') := by
  intro i
  obtain ⟨cs', h1, h2⟩ := hx i.1 (by omega)
  obtain ⟨a', rfl, hq⟩ := he _ _ _ h2
  rw [hc] at h1
  exact ⟨a', hq, h1⟩
 let g : Fin len → α := fun i => Classical.choose (hch i)
 have hg : ∀ i, Q (g i) ∧ w.cells? base (a.add (i.1 * k)) k = some (f (g i)) := fun i => Classical.choose_spec (hch i)
 refine ⟨_, List.ofFn g, rfl, ?_, ?_, by simp; omega⟩
 ·by_cases h0 : len = 0
  ·subst h0; exact Or.inl ⟨by simp, by simp, _, _, rfl⟩
  obtain ⟨b, o, spot⟩ := a
  have h1 := (World.cells?_some (hg ⟨0, by omega⟩).2).2.2 0 hkp
  have hfl := hk (g ⟨0, by omega⟩)
  rw [List.getElem?_eq_getElem (by omega)] at h1
  have hspot : spot = none := by simpa [Addr.add] using World.cell?_spot h1
  subst hspot
  refine Or.inr ⟨b, o, cap, by simp, fun i hi => ?_⟩
  rw [H3 hk] at hi
  simp only [List.length_ofFn] at hi
  have hd : i / k * k + i % k = i := by rw [Nat.mul_comm]; exact Nat.div_add_mod i k
  have hj : i % k < k := Nat.mod_lt _ hkp
  have hi' : i / k < len := by rw [Nat.div_lt_iff_lt_mul hkp]; exact hi
  have h2 := (World.cells?_some (hg ⟨i / k, hi'⟩).2).2.2 (i % k) hj
  rw [← hd, Q9 hk _ _ _ hj, List.getElem?_ofFn, dif_pos hi']
  simp only [Option.bind_some]
  rw [← h2, e9, e9]
  simp only [Nat.add_assoc]
 ·intro a' ha'
  rw [List.mem_ofFn] at ha'
  obtain ⟨i, rfl⟩ := ha'
  exact (hg i).1
theorem G0 {t : TypeId} {k : IntKind} {fuel : Nat} {cs : List Value} {x : DataW H × List MemPlace} (ht : P.underlying t = some (.int k)) (h : DataW.trod enc P w base spare held fuel t cs = some x) :
  ∃ a : Int, cs = [.int k a] ∧ (Lit.int k a).wf = true := by
 obtain ⟨n, h1, _, h2⟩ := DataW.trod_int ht h
 exact ⟨n, h1, h2⟩
theorem B5l {t : TypeId} {fuel : Nat} {cs : List Value} {x : DataW H × List MemPlace} (ht : P.underlying t = some .string) (h : DataW.trod enc P w base spare held fuel t cs = some x) :
  ∃ s : ByteArray, cs = [.string s] ∧ s.size ≤ maxLen := by
 obtain ⟨s, h1, _, h2⟩ := DataW.trod_string ht h
 exact ⟨s, h1, h2⟩
theorem B5V {α : Type} {f : α → List Value} {t e : TypeId} {Q : List α → Prop} {r : Reach} {b0 : Nat} {v : Value} {d : DataW H} {ps : List MemPlace} (ht : P.underlying t = some (.slice e)) (hval : Value.okWide P w r b0 t v) (hd : DataW.Trod enc P w base spare held t v d ps)
  (h : ∀ fuel cs x, DataW.trod enc P w base spare held fuel t cs = some x → ∃ (v : Value) (l : List α), cs = [v] ∧ E4 w v l.length (l.flatMap f) ∧ Q l) : ∃ l : List α, E4 w v l.length (l.flatMap f) ∧ Q l := by
 obtain ⟨a, len, cap, rfl⟩ := okWide_slice ht hval
 obtain ⟨fuel, hf⟩ := hd
 obtain ⟨v', l, h1, h2⟩ := h _ _ _ hf
 have : Value.slice a len cap = v' := B2p h1 rfl
 subst this
 exact ⟨l, h2⟩
end
theorem B07 {H : Type} {enc : TypeId × Value → H} {P : Program} (hl : laidOutB P = true) {W W' : World} (hb : C6 [] W W') {sp : Nat → Bool} :
  ∀ {ts : List TypeId} {vs : List Value} {ds : List (DataW H)} {ps : List MemPlace}, (ts.all fun t => P.readableRec t && decide (t < P.types.size)) = true → DataW.TrodAll enc P W 0 (fun _ => true) true ts vs ds ps →
   (∀ p ∈ ps, p.block < W.heap.size) → (∀ p ∈ ps, sp p.block = true) → DataW.TrodAll enc P W' 0 sp true ts vs ds ps := by
 intro ts
 induction ts with
 | nil => intro vs ds ps _ h _ _; cases vs <;> cases ds <;> exact h
 | cons t ts ih =>
  intro vs ds ps ht h hlt hsp
  simp only [List.all_cons, Bool.and_eq_true, decide_eq_true_eq] at ht
  obtain ⟨v, vs', d, ds', p, q, rfl, rfl, rfl, h0, hr⟩ := trodAll_cons h
  refine ⟨p, q, WideElems.Trod_stays hl ht.1.1 ht.1.2 h0 (fun x hx => ?_) (fun x hx => hsp x (List.mem_append_left _ hx)),
   ih ht.2 hr (fun x hx => hlt x (List.mem_append_right _ hx)) (fun x hx => hsp x (List.mem_append_right _ hx)), rfl⟩
  have hlt' := hlt x (List.mem_append_left _ hx)
  have e1 : W.heap[x.block]? = some W.heap[x.block] := Array.getElem?_eq_getElem hlt'
  have e2 : W'.heap[x.block]? = some W.heap[x.block] := hb.2 _ _ (by simp) e1
  cases x with
  | cell b o => show W'.cell? _ = W.cell? _; unfold World.cell?; rw [show W'.heap[b]? = W.heap[b]? from e2.trans e1.symm]
  | map b => exact e2.trans e1.symm
set_option maxRecDepth 10000
section
variable {H : Type} {enc : TypeId × Value → H} {w : World} {base : Nat} {spare : Nat → Bool} {held : Bool} {fuel : Nat} {cs : List Value} {x : DataW H × List MemPlace}
theorem B91 (h : DataW.trod enc PR w base spare held fuel 129 cs = some x) : ∃ a : J0, cs = G2 a ∧ True := by
 obtain ⟨xs, n, _, rfl, hl, hxl, hf⟩ := DataW.trod_struct A6S.und h
 have hl4 : cs.length = 2 := hl.trans (by kernel_rfl)
 have hx4 : xs.length = 2 := hxl.trans (by kernel_rfl)
 match cs, hl4 with
 | [c0, c1], _ =>
  have f0 := hf 0 _ rfl
  have f1 := hf 1 _ rfl
  rw [List.getElem?_eq_getElem (by omega)] at f0 f1
  obtain ⟨a0, e0, _⟩ := G0 Tryz.underlying3 f0
  obtain ⟨a1, e1, _⟩ := G0 Tryz.underlying3 f1
  have e0 : [c0] = [.int .i64 a0] := e0
  have e1 : [c1] = [.int .i64 a1] := e1
  cases e0; cases e1
  exact ⟨(a0, a1), rfl, trivial⟩
theorem B7F (h : DataW.trod enc PR w base spare held fuel 50 cs = some x) : ∃ (v : Value) (l : List J0), cs = [v] ∧ E4 w v l.length (l.flatMap G2) ∧ l.length ≤ maxLen := by
 obtain ⟨v, l, h1, h2, _, h3⟩ := A6a (f := G2) (k := 2) (Q := fun _ => True) (fun _ => rfl) (by omega) Tryz.underlying50 (by kernel_rfl) h (fun n cs' y hy => B91 hy)
 exact ⟨v, l, h1, h2, h3⟩
end
end Go.Proofs.YtlplkjgcfjdinaaGreat
namespace Go.Proofs.YtlplkjgcfjdinaaGreat
open Go
set_option maxRecDepth 100000
theorem jf2 : mapsRowed Tryz.prog = true := by kernel_rfl
theorem jf6 : (Program.stops Tryz.prog == []) = true := by kernel_rfl
theorem jf8 : (Program.stopKnobs Tryz.prog == []) = true := by kernel_rfl
theorem C5M : Program.stopsHeard Tryz.prog = true := by kernel_rfl
theorem C47 : Program.mayEnter Tryz.prog = true := by kernel_rfl
end Go.Proofs.YtlplkjgcfjdinaaGreat
namespace Go.Proofs.YtlplkjgcfjdinaaGreat
open Go
def x4 (X : Nat → Prop) (t0 t1 : Value) (R : Value → WP) : WP :=
 jn (n := 1) (fun t4 =>
 jn (n := 2) (fun t4_1 t5 =>
 R (.bool true)) fun J1 =>
 lp (n := 2) (fun L2 t4_2 t5_1 =>
 jn (n := 0) (
 jn (n := 1) (fun t4_3 =>
 A0 PR (binOp .add 3 t5_1 (.int .i64 1)) fun t15 =>
 L2 t4_3 t15) fun J3 =>
 A0 PR (Instr.indexAt 53 t0 t5_1) fun t18 =>
 A0 PR (Instr.fieldAt 52 t18 1) fun t19 =>
 A6 PR (Instr.loadAt 9 t19) fun t20 =>
 A0 PR (A8 .len #[9] 0 [t20]) fun t21 =>
 A0 PR (binOp .gtr 3 t21 (.int .i64 100)) fun t22 =>
 gj t22 false (fun J => J t0) fun t24 =>
 gj t22 false (fun J => J t5_1) fun t25 =>
 gj t22 false (fun J => A0 PR (Instr.indexAt 53 t24 t25) J) fun t26 =>
 gj t22 false (fun J => A0 PR (Instr.fieldAt 52 t26 2) J) fun t27 =>
 gj t22 false (fun J => A6 PR (Instr.loadAt 50 t27) J) fun t28 =>
 gj t22 false (fun J => A0 PR (A8 .len #[50] 0 [t28]) J) fun t29 =>
 gj t22 false (fun J => A0 PR (binOp .gtr 3 t29 (.int .i64 8)) J) fun t30 =>
 A0 PR (do pure (if ← asBool t22 then (.bool true) else t30)) fun t31 =>
 B6 t31 (
 R (.bool false)) (
 J3 t4_2)) fun J4 =>
 A0 PR (A8 .len #[53] 0 [t0]) fun t12 =>
 A0 PR (binOp .lss 3 t5_1 t12) fun t13 =>
 B6 t13 (
 J4) (
 J1 t4_2 t5_1)) t4 (.int .i64 0)) fun J5 =>
 A0 PR (A8 .len #[53] 0 [t0]) fun t7 =>
 A0 PR (binOp .gtr 3 t7 t1) fun t9 =>
 B6 t9 (
 R (.bool false)) (
 J5 (.bool false))
theorem q5 : B0 PR 18 := A7 Tryz.func18 (by kernel_rfl) rfl
theorem A3N {X : Nat → Prop} {t0 t1 : Value} {R : Value → WP} {w : World} (h : x4 X t0 t1 R w) : Fn PR X 18 #[t0, t1] w R := C8 (args := [t0, t1]) mixed Tryz.func18 (by kernel_rfl) h
def p3 (X : Nat → Prop) (t0 : Value) (R : Value → WP) : WP :=
 B1 PR X (Instr.box 23 t0) fun t1 =>
 A0 PR (Instr.fieldAt 23 t1 0) fun t3 =>
 A6 PR (Instr.loadAt 3 t3) fun t4 =>
 A0 PR (binOp .leq 3 t4 (.int .i64 6)) fun t5 =>
 gj t5 true (fun J => A0 PR (Instr.fieldAt 23 t1 1) J) fun t7 =>
 gj t5 true (fun J => A6 PR (Instr.loadAt 3 t7) J) fun t8 =>
 gj t5 true (fun J => A0 PR (binOp .leq 3 t8 (.int .i64 6)) J) fun t9 =>
 A0 PR (do pure (if ← asBool t5 then t9 else (.bool false))) fun t10 =>
 gj t10 true (fun J => A0 PR (Instr.fieldAt 23 t1 2) J) fun t12 =>
 gj t10 true (fun J => A6 PR (Instr.loadAt 3 t12) J) fun t13 =>
 gj t10 true (fun J => A0 PR (binOp .leq 3 t13 (.int .i64 12)) J) fun t14 =>
 A0 PR (do pure (if ← asBool t10 then t14 else (.bool false))) fun t15 =>
 R t15
theorem A2B : B0 PR 19 := A7 Tryz.func19 (by kernel_rfl) rfl
theorem A2J {X : Nat → Prop} {t0 : Value} {R : Value → WP} {w : World} (h : p3 X t0 R w) : Fn PR X 19 #[t0] w R := C8 (args := [t0]) mixed Tryz.func19 (by kernel_rfl) h
end Go.Proofs.YtlplkjgcfjdinaaGreat
namespace Go.Proofs.YtlplkjgcfjdinaaGreat
open Go
def upW (j : Nat) (x : EnV) (p : Nat × EnV) : Nat × EnV := if p.1 = j then (j, x) else p
theorem B8K (key : ByteArray) : ∀ L, -1 ≤ F7 key L := by
 intro L
 induction L with
 | nil => simp [F7]
 | cons p L ih => (simp only [F7]; repeat' split) <;> first | omega | exact ih
theorem B7m (l : List EnV) (key : ByteArray) : -1 ≤ D0 l key := B8K _ _
theorem B5d {key : ByteArray} {j : Nat} {x : EnV} (h1 : x.st = 1) (hk : x.key = key) : ∀ L, F7 key L = j → F7 key (L.map (upW j x)) = j := by
 intro L
 induction L with
 | nil => intro h; simp [F7] at h <;> omega
 | cons p L ih =>
  intro h
  rw [List.map_cons]
  by_cases c : p.1 = j
  ·simp [F7, upW, c, h1, hk]
  ·have hu : upW j x p = p := if_neg c
   simp only [F7] at h ⊢
   rw [hu]
   split at h
   ·omega
   ·split at h
    ·omega
    ·rename_i c0 c1
     rw [if_neg c0, if_neg c1]; exact ih h
theorem B4g {key : ByteArray} {j : Nat} {x : EnV} (h1 : x.st = 1) (hk : x.key = key) : ∀ L, F7 key L < 0 → M3 L = j → F7 key (L.map (upW j x)) = j := by
 intro L
 induction L with
 | nil => intro _ h; simp [M3] at h <;> omega
 | cons p L ih =>
  intro hf h
  rw [List.map_cons]
  by_cases c : p.1 = j
  ·simp [F7, upW, c, h1, hk]
  ·have hu : upW j x p = p := if_neg c
   simp only [F7, M3] at h hf ⊢
   rw [hu]
   by_cases c1 : p.2.st = 1
   ·rw [if_pos c1] at h
    rw [if_neg (by omega)] at hf ⊢
    by_cases c2 : p.2.st = 1 ∧ p.2.key = key
    ·rw [if_pos c2] at hf; omega
    ·rw [if_neg c2] at hf ⊢; exact ih hf h
   ·rw [if_neg c1] at h; omega
theorem A7N (l : List EnV) (key : ByteArray) (j : Nat) (x : EnV) (hj : j < l.length) : S0 (l.set j x) key = (S0 l key).map (upW j x) := by
 unfold S0
 rw [List.length_set, List.map_map]
 refine List.map_congr_left fun i hi => ?_
 have hi' : i < l.length := List.mem_range.1 hi
 have hm : (K8 key l.length + i) % l.length < l.length := Nat.mod_lt _ (by omega)
 simp only [Function.comp_apply, upW]
 generalize (K8 key l.length + i) % l.length = q at *
 by_cases c : q = j
 ·subst c; simp [List.getD_eq_getElem?_getD, hm]
 ·rw [if_neg c]; simp [List.getD_eq_getElem?_getD, List.getElem?_set_ne (Ne.symm c)]
theorem B6V {key : ByteArray} {j : Nat} : ∀ L, F7 key L = j → ∃ x, (j, x) ∈ L ∧ x.st = 1 ∧ x.key = key := by
 intro L
 induction L with
 | nil => intro h; simp [F7] at h <;> omega
 | cons p L ih =>
  intro h
  simp only [F7] at h
  split at h
  ·omega
  ·split at h
   ·rename_i c
    have : p.1 = j := by omega
    exact ⟨p.2, by rw [← this]; simp, c⟩
   ·obtain ⟨x, h1, h2⟩ := ih h
    exact ⟨x, List.mem_cons_of_mem _ h1, h2⟩
theorem A7S {l : List EnV} {key : ByteArray} {p : Nat × EnV} (h : p ∈ S0 l key) : l[p.1]? = some p.2 := by
 unfold S0 at h
 obtain ⟨i, hi, rfl⟩ := List.mem_map.1 h
 have hi' : i < l.length := List.mem_range.1 hi
 exact getD_some u7 (Nat.mod_lt _ (by omega))
theorem B23 {l : List EnV} {key : ByteArray} {j : Nat} (h : D0 l key = j) : ∃ x, l[j]? = some x ∧ x.st = 1 ∧ x.key = key := by
 obtain ⟨x, h1, h2⟩ := B6V _ h
 exact ⟨x, A7S h1, h2⟩
theorem A54 {l u : List EnV} {x : EnV} (h : F9 l x = some u) (h1 : x.st = 1) : ∃ j, j < l.length ∧ u = l.set j x ∧ D0 u x.key = (j : Nat) ∧ (D0 l x.key = (j : Nat) ∨ D0 l x.key < 0 ∧ M3 (S0 l x.key) = (j : Nat)) := by
 unfold F9 at h
 simp only at h
 by_cases c : D0 l x.key < 0
 ·rw [if_pos c] at h
  by_cases c2 : U7 l x.key < 0
  ·rw [if_pos c2] at h; cases h
  ·rw [if_neg c2] at h
   injection h with h
   have hr : U7 l x.key = M3 (S0 l x.key) := if_neg (by omega)
   have hlt := A7r (l := l) (key := x.key) (by omega)
   refine ⟨_, hlt, h.symm, ?_, Or.inr ⟨c, by omega⟩⟩
   subst h
   unfold D0
   rw [A7N _ _ _ _ hlt]
   exact B4g h1 rfl _ c (by omega)
 ·rw [if_neg c, if_neg c] at h
  injection h with h
  have hlt := A0P (l := l) (key := x.key) (by omega)
  refine ⟨_, hlt, h.symm, ?_, Or.inl (by omega)⟩
  subst h
  unfold D0 at *
  rw [A7N _ _ _ _ hlt]
  exact B5d h1 rfl _ (by omega)
theorem A7Y {l u : List EnV} {x : EnV} (h : F9 l x = some u) : ∃ j, j < l.length ∧ u = l.set j x := by
 unfold F9 at h
 simp only at h
 by_cases c : D0 l x.key < 0
 ·rw [if_pos c] at h
  by_cases c2 : U7 l x.key < 0
  ·rw [if_pos c2] at h; cases h
  ·rw [if_neg c2] at h
   injection h with h
   exact ⟨_, A7r (by omega), h.symm⟩
 ·rw [if_neg c, if_neg c] at h
  injection h with h
  exact ⟨_, A0P (by omega), h.symm⟩
theorem B6A {l : List EnV} {i : Nat} {p : Nat × EnV} : p ∈ V2 i l ↔ i ≤ p.1 ∧ l[p.1 - i]? = some p.2 ∧ p.2.st = 1 := by
 induction l generalizing i with
 | nil => simp [V2]
 | cons x l ih =>
  have hs : i + 1 ≤ p.1 → (x :: l)[p.1 - i]? = l[p.1 - (i + 1)]? := fun h => by
   rw [show p.1 - i = (p.1 - (i + 1)) + 1 by omega, List.getElem?_cons_succ]
  have h0 : ∀ h : i ≤ p.1, ¬ i + 1 ≤ p.1 → p.1 = i := fun _ _ => by omega
  unfold V2
  split
  ·rename_i c
   rw [List.mem_cons, ih]
   constructor
   ·rintro (rfl | ⟨a, b, d⟩)
    ·simp [c]
    ·exact ⟨by omega, by rw [hs a]; exact b, d⟩
   ·rintro ⟨a, b, d⟩
    by_cases e : i + 1 ≤ p.1
    ·exact Or.inr ⟨e, by rw [← hs e]; exact b, d⟩
    ·have := h0 a e
     left
     rw [this] at b
     simp at b
     obtain ⟨q, y⟩ := p
     simp_all
  ·rename_i c
   rw [ih]
   constructor
   ·rintro ⟨a, b, d⟩
    exact ⟨by omega, by rw [hs a]; exact b, d⟩
   ·rintro ⟨a, b, d⟩
    by_cases e : i + 1 ≤ p.1
    ·exact ⟨e, by rw [← hs e]; exact b, d⟩
    ·have := h0 a e
     rw [this] at b
     simp at b
     rw [b] at c
     exact absurd d c
theorem A1F {l : List EnV} {p : Nat × EnV} : p ∈ K6 l ↔ l[p.1]? = some p.2 ∧ p.2.st = 1 := by
 unfold K6; rw [B6A]; simp
theorem A1c {l : List EnV} : P5 l = true ↔ ∀ (i : Nat) (x : EnV), l[i]? = some x → x.st = 1 → D0 l x.key = (i : Nat) := by
 unfold P5
 rw [List.all_eq_true]
 constructor
 ·intro h i x hx h1
  simpa using h (i, x) (A1F.2 ⟨hx, h1⟩)
 ·intro h p hp
  obtain ⟨h1, h2⟩ := A1F.1 hp
  simpa using h p.1 p.2 h1 h2
def P3 (l : List EnV) (key : ByteArray) : Prop := ∀ (i : Nat) (x : EnV), l[i]? = some x → x.st = 1 → x.key ≠ key
theorem P3.find {l : List EnV} {key : ByteArray} (h : P3 l key) : D0 l key < 0 := by
 have hg := B7m l key
 by_cases c : D0 l key < 0
 ·exact c
 ·obtain ⟨x, h1, h2, h3⟩ := B23 (l := l) (key := key) (j := (D0 l key).toNat) (by omega)
  exact absurd h3 (h _ _ h1 h2)
theorem getElem?_set_some {α : Type} {l : List α} {i j : Nat} {x y : α} (h : (l.set j x)[i]? = some y) : (i = j ∧ y = x) ∨ (i ≠ j ∧ l[i]? = some y) := by
 by_cases c : i = j
 ·subst c
  rw [List.getElem?_set_self'] at h
  cases hl : l[i]? with
  | none => rw [hl] at h; cases h
  | some z => rw [hl] at h; left; exact ⟨rfl, by simpa using h.symm⟩
 ·rw [List.getElem?_set_ne (Ne.symm c)] at h
  exact Or.inr ⟨c, h⟩
theorem P3.set {l : List EnV} {key : ByteArray} {j : Nat} {x : EnV} (h : P3 l key) (hx : x.st = 1 → x.key ≠ key) : P3 (l.set j x) key := fun i y hy h1 => by
 rcases getElem?_set_some hy with ⟨_, rfl⟩ | ⟨_, h2⟩
 ·exact hx h1
 ·exact h i y h2 h1
theorem P3.put {l : List EnV} {key : ByteArray} {x : EnV} (h : P3 l key) (hx : x.st = 1 → x.key ≠ key) : P3 (U1 l x) key := by
 unfold U1
 cases hp : F9 l x with
 | none => exact h
 | some u => obtain ⟨j, _, rfl⟩ := A7Y hp; exact h.set hx
theorem P3.newE (n : Nat) (key : ByteArray) : P3 (newE n) key := fun i x hx h1 => by
 unfold Go.Proofs.YtlplkjgcfjdinaaGreat.newE at hx
 obtain ⟨_, h2⟩ := List.getElem?_eq_some_iff.1 hx
 rw [List.getElem_replicate] at h2
 rw [← h2] at h1; simp [u7] at h1
theorem P3.tidy {l : List EnV} {key : ByteArray} (h : P3 l key) : P3 (Y3 l) key := by
 unfold Y3
 have : ∀ (L : List (Nat × EnV)) (a : List EnV), (∀ p ∈ L, p.2.st = 1 → p.2.key ≠ key) → P3 a key → P3 (L.foldl (fun acc p => U1 acc p.2) a) key := by
  intro L
  induction L with
  | nil => intro a _ h; exact h
  | cons p L ih => intro a hL ha; rw [List.foldl_cons]; exact ih _ (fun q hq => hL q (List.mem_cons_of_mem _ hq)) (ha.put (hL p (List.mem_cons_self ..)))
 exact this _ _ (fun p hp h1 => h p.1 p.2 (A1F.1 hp).1 h1) (.newE _ _)
theorem P3.settle {l : List EnV} {key : ByteArray} (h : P3 l key) : P3 (H5 l) key := by
 unfold H5; split
 ·exact h.tidy
 ·exact h
end Go.Proofs.YtlplkjgcfjdinaaGreat
namespace Go.Proofs.YtlplkjgcfjdinaaGreat
open Go
theorem B43 {key : ByteArray} {i j : Nat} {x : EnV} (h0 : x.st ≠ 0) (h1 : ¬ (x.st = 1 ∧ x.key = key)) (hij : i ≠ j) : ∀ L, F7 key L = i → F7 key (L.map (upW j x)) = i := by
 intro L
 induction L with
 | nil => intro h; simp [F7] at h <;> omega
 | cons p L ih =>
  intro h
  rw [List.map_cons]
  simp only [F7] at h
  split at h
  ·omega
  ·rename_i c0
   split at h
   ·rename_i c1
    have : p.1 ≠ j := by omega
    rw [upW, if_neg this]
    simp only [F7]
    rw [if_neg c0, if_pos c1]; exact h
   ·rename_i c1
    by_cases c : p.1 = j
    ·rw [upW, if_pos c]
     simp only [F7]
     rw [if_neg h0, if_neg h1]; exact ih h
    ·rw [upW, if_neg c]
     simp only [F7]
     rw [if_neg c0, if_neg c1]; exact ih h
theorem A8P {l : List EnV} {key : ByteArray} {i j : Nat} {x : EnV} (hj : j < l.length) (h0 : x.st ≠ 0) (h1 : ¬ (x.st = 1 ∧ x.key = key)) (hij : i ≠ j) (h : D0 l key = i) : D0 (l.set j x) key = i := by
 unfold D0 at *
 rw [A7N _ _ _ _ hj]
 exact B43 h0 h1 hij _ h
theorem B5Y {l : List EnV} {j : Nat} (hj : j < l.length) (h : P5 l = true) : P5 (l.set j Q7) = true := by
 rw [A1c] at h ⊢
 intro i y hy h1
 rcases getElem?_set_some hy with ⟨_, rfl⟩ | ⟨h2, h3⟩
 ·simp [Q7] at h1
 ·exact A8P hj (by simp [Q7]) (by simp [Q7]) h2 (h i y h3 h1)
theorem B0S {l u : List EnV} {x : EnV} (h1 : x.st = 1) (hp : F9 l x = some u) (h : P5 l = true) : P5 u = true := by
 rw [A1c] at h ⊢
 obtain ⟨j, hj, rfl, hf, hc⟩ := A54 hp h1
 intro i y hy hy1
 rcases getElem?_set_some hy with ⟨rfl, rfl⟩ | ⟨h2, h3⟩
 ·exact hf
 ·have hi := h i y h3 hy1
  have hk : x.key ≠ y.key := fun e => by rw [← e] at hi; omega
  exact A8P hj (by omega) (fun e => hk e.2) h2 hi
theorem B0g (n : Nat) : P5 (newE n) = true := by
 rw [A1c]
 intro i x hx h1
 unfold newE at hx
 obtain ⟨_, h2⟩ := List.getElem?_eq_some_iff.1 hx
 rw [List.getElem_replicate] at h2
 rw [← h2] at h1; simp [u7] at h1
theorem B4b {a : List EnV} {x : EnV} (h1 : x.st = 1) (h : P5 a = true) : P5 (U1 a x) = true := by
 unfold U1
 cases hp : F9 a x with
 | none => exact h
 | some u => exact B0S h1 hp h
theorem B5B (l : List EnV) : P5 (Y3 l) = true := by
 unfold Y3
 have : ∀ (L : List (Nat × EnV)) (a : List EnV), (∀ p ∈ L, p.2.st = 1) → P5 a = true → P5 (L.foldl (fun acc p => U1 acc p.2) a) = true := by
  intro L
  induction L with
  | nil => intro a _ h; exact h
  | cons p L ih => intro a hL ha; rw [List.foldl_cons]; exact ih _ (fun q hq => hL q (List.mem_cons_of_mem _ hq)) (B4b (hL p (List.mem_cons_self ..)) ha)
 exact this _ _ (fun p hp => (A1F.1 hp).2) (B0g _)
theorem B2N {l : List EnV} (h : P5 l = true) : P5 (H5 l) = true := by
 unfold H5; split
 ·exact B5B _
 ·exact h
def A03 (x : EnV) : Bool := decide (x.st = 1)
def B9 (l : List EnV) : List EnV := l.filter A03
def A4J (x : EnV) : List EnV := if x.st = 1 then [x] else []
theorem A0e {l : List EnV} {j : Nat} {y x : EnV} (hy : l[j]? = some y) : (A4J y ++ B9 (l.set j x)).Perm (A4J x ++ B9 l) := by
 obtain ⟨hj, e⟩ := List.getElem?_eq_some_iff.1 hy
 have h1 : l = l.take j ++ y :: l.drop (j + 1) := by rw [← e]; simp
 have h2 : l.set j x = l.take j ++ x :: l.drop (j + 1) := List.set_eq_take_append_cons_drop .. |>.trans (by rw [if_pos hj])
 have f1 : ∀ z : EnV, B9 (l.take j ++ z :: l.drop (j + 1)) = B9 (l.take j) ++ (A4J z ++ B9 (l.drop (j + 1))) := fun z => by
  unfold B9; rw [List.filter_append, List.filter_cons]
  simp only [A4J, A03, decide_eq_true_eq]
  split <;> simp
 have h3 : B9 l = B9 (l.take j) ++ (A4J y ++ B9 (l.drop (j + 1))) := by rw [← f1, ← h1]
 rw [h2, f1, h3]
 generalize B9 (l.take j) = A
 generalize B9 (l.drop (j + 1)) = B
 have p1 : ∀ (u v : List EnV), (u ++ (A ++ (v ++ B))).Perm (A ++ (u ++ (v ++ B))) := fun u v => by
  rw [← List.append_assoc, ← List.append_assoc A u]
  exact List.perm_append_comm.append_right _
 refine (p1 _ _).trans (((p1 _ _).trans ?_).symm)
 refine List.Perm.append_left _ ?_
 rw [← List.append_assoc, ← List.append_assoc]
 exact List.perm_append_comm.append_right _
theorem B2a (l : List EnV) (i : Nat) : (V2 i l).map (·.2) = B9 l := by
 induction l generalizing i with
 | nil => rfl
 | cons x l ih =>
  unfold V2 B9
  rw [List.filter_cons]
  simp only [A03, decide_eq_true_eq]
  split
  ·rw [List.map_cons, ih]; rfl
  ·rw [ih]; rfl
theorem A9u {l : List EnV} (h : P5 l = true) : ((B9 l).map (·.key)).Nodup := by
 rw [A1c] at h
 have h2 : ∀ (i : Nat) (m : List EnV), (∀ (k : Nat) (x : EnV), m[k]? = some x → x.st = 1 → D0 l x.key = (i + k : Nat)) → ((B9 m).map (·.key)).Nodup := by
  intro i m
  induction m generalizing i with
  | nil => intro _; simp [B9]
  | cons x m ih =>
   intro hm
   have ih' := ih (i + 1) fun k y hy h1 => by
    have := hm (k + 1) y (by simpa using hy) h1
    rw [this]; congr 1; omega
   unfold B9 at *
   rw [List.filter_cons]
   simp only [A03, decide_eq_true_eq] at *
   split
   ·rename_i c
    rw [List.map_cons, List.nodup_cons]
    refine ⟨fun hx => ?_, ih'⟩
    obtain ⟨y, hy, e⟩ := List.mem_map.1 hx
    obtain ⟨hy1, hy2⟩ := List.mem_filter.1 hy
    obtain ⟨k, hk, e2⟩ := List.getElem_of_mem hy1
    have a := hm 0 x (by simp) c
    have b := hm (k + 1) y (by simp [hk, e2]) (by simpa [A03] using hy2)
    rw [e, a] at b
    omega
   ·exact ih'
 exact h2 0 l fun k x hx h1 => by rw [h k x hx h1]; simp
theorem B0u {l : List EnV} {key : ByteArray} : P3 l key ↔ ∀ x ∈ B9 l, x.key ≠ key := by
 unfold P3 B9 A03
 constructor
 ·intro h x hx
  obtain ⟨h1, h2⟩ := List.mem_filter.1 hx
  obtain ⟨i, hi, e⟩ := List.getElem_of_mem h1
  exact h i x (by simp [hi, e]) (by simpa using h2)
 ·intro h i x hx h1
  exact h x (List.mem_filter.2 ⟨List.mem_of_getElem? hx, by simpa using h1⟩)
theorem B6j : ∀ L, M3 L < 0 → ∀ p ∈ L, p.2.st = 1 := by
 intro L
 induction L with
 | nil => intro _ p hp; cases hp
 | cons q L ih =>
  intro h p hp
  simp only [M3] at h
  split at h
  ·rename_i c
   rcases List.mem_cons.1 hp with rfl | hp
   ·exact c
   ·exact ih h p hp
  ·omega
theorem B9N {l : List EnV} (key : ByteArray) {q : Nat} {y : EnV} (hy : l[q]? = some y) : (q, y) ∈ S0 l key := by
 obtain ⟨hq, e⟩ := List.getElem?_eq_some_iff.1 hy
 unfold S0
 have hl : 0 < l.length := by omega
 have hm : K8 key l.length < l.length := Nat.mod_lt _ hl
 refine List.mem_map.2 ⟨(q + l.length - K8 key l.length) % l.length, List.mem_range.2 (Nat.mod_lt _ hl), ?_⟩
 have : (K8 key l.length + (q + l.length - K8 key l.length) % l.length) % l.length = q := by
  rw [Nat.add_mod, Nat.mod_mod, ← Nat.add_mod, show K8 key l.length + (q + l.length - K8 key l.length) = q + l.length by omega, Nat.add_mod_right, Nat.mod_eq_of_lt hq]
 rw [this]
 simp [List.getD_eq_getElem?_getD, hq, e]
theorem B7y {a : List EnV} {x : EnV} (h1 : x.st = 1) (hn : P3 a x.key) (hl : (B9 a).length < a.length) : ∃ u, F9 a x = some u ∧ (B9 u).Perm (x :: B9 a) := by
 cases hp : F9 a x with
 | none =>
  exfalso
  unfold F9 at hp
  simp only at hp
  rw [if_pos hn.find] at hp
  have hr : U7 a x.key = M3 (S0 a x.key) := if_neg (by have := hn.find; omega)
  by_cases c : U7 a x.key < 0
  ·have h2 := B6j _ (hr ▸ c)
   have h3 : B9 a = a := List.filter_eq_self.2 fun y hy => by
    obtain ⟨q, hq, e⟩ := List.getElem_of_mem hy
    have := h2 (q, y) (B9N _ (by simp [hq, e]))
    simpa [A03] using this
   rw [h3] at hl; omega
  ·rw [if_neg c] at hp; cases hp
 | some u =>
  obtain ⟨j, hj, rfl, hf, hc⟩ := A54 hp h1
  refine ⟨_, rfl, ?_⟩
  have hj1 : a[j]? = some a[j] := List.getElem?_eq_getElem hj
  have hs := A0e (x := x) hj1
  have hnl : a[j].st ≠ 1 := fun c => by
   rcases hc with hc | ⟨_, hc⟩
   ·have := hn.find; omega
   ·have hm : ∀ L, M3 L = (j : Nat) → ∃ y, (j, y) ∈ L ∧ y.st ≠ 1 := by
     intro L
     induction L with
     | nil => intro h; simp [M3] at h <;> omega
     | cons p L ih =>
      intro h
      simp only [M3] at h
      split at h
      ·obtain ⟨y, h1, h2⟩ := ih h; exact ⟨y, List.mem_cons_of_mem _ h1, h2⟩
      ·rename_i c2
       have : p.1 = j := by omega
       exact ⟨p.2, by rw [← this]; simp, c2⟩
    obtain ⟨y, h2, h3⟩ := hm _ hc
    have h4 := A7S h2
    rw [hj1] at h4
    injection h4 with h4
    exact h3 (by rw [h4] at c; exact c)
  unfold A4J at hs
  rw [if_neg hnl, if_pos h1] at hs
  simpa using hs
theorem A0g (n : Nat) : B9 (newE n) = [] := by
 unfold B9 newE
 rw [List.filter_eq_nil_iff]
 intro x hx
 rw [(List.mem_replicate.1 hx).2]; simp [A03, u7]
theorem B1p {l : List EnV} (h : P5 l = true) (hl : l.length ≤ 64) : (B9 (Y3 l)).Perm (B9 l) := by
 have hmain : ∀ (L : List (Nat × EnV)) (a : List EnV), (∀ p ∈ L, p.2.st = 1) → ((B9 a ++ L.map (·.2)).map (·.key)).Nodup → (B9 a).length + L.length ≤ a.length →
   (B9 (L.foldl (fun acc p => U1 acc p.2) a)).Perm (B9 a ++ L.map (·.2)) := by
  intro L
  induction L with
  | nil => intro a _ _ _; simp
  | cons p L ih =>
   intro a hL hn hlen
   rw [List.foldl_cons]
   simp only [List.length_cons] at hlen
   have hk : P3 a p.2.key := B0u.2 fun x hx e => by
    rw [List.map_append, List.nodup_append] at hn
    exact hn.2.2 _ (List.mem_map_of_mem hx) p.2.key (by simp) e
   obtain ⟨u, hu, hp⟩ := B7y (hL p (List.mem_cons_self ..)) hk (by omega)
   have e : U1 a p.2 = u := by simp [U1, hu]
   rw [e]
   have hlu := A4F hu
   have hpl := hp.length_eq
   have hperm : (B9 u ++ L.map (·.2)).Perm (B9 a ++ (p :: L).map (·.2)) := by
    refine (hp.append_right _).trans ?_
    rw [List.map_cons]
    exact (List.perm_middle (a := p.2) (l₁ := B9 a) (l₂ := L.map (·.2))).symm
   refine (ih u (fun q hq => hL q (List.mem_cons_of_mem _ hq)) ?_ ?_).trans hperm
   ·exact ((hperm.map _).nodup_iff).2 hn
   ·rw [hpl, List.length_cons, hlu]; omega
 unfold Y3
 have hm : (K6 l).map (·.2) = B9 l := B2a l 0
 have h1 := hmain (K6 l) (newE l.length) (fun p hp => (A1F.1 hp).2) (by rw [A0g, hm]; exact A9u h)
  (by
   rw [A0g, A4A]
   have : (K6 l).length = (B9 l).length := by rw [← hm]; simp
   have h2 : (B9 l).length ≤ l.length := List.length_filter_le ..
   simp only [List.length_nil]; omega)
 rw [A0g, hm] at h1
 exact h1
theorem A9d {l : List EnV} (h : P5 l = true) (hl : l.length ≤ 64) : (B9 (H5 l)).Perm (B9 l) := by
 unfold H5; split
 ·exact B1p h hl
 ·exact .refl _
theorem B5j {l : List EnV} (hl : l.length ≤ 64) : (H5 l).length = l.length := by
 unfold H5; split
 ·unfold Y3; rw [B2M, A4A]; omega
 ·rfl
end Go.Proofs.YtlplkjgcfjdinaaGreat
namespace Go.Proofs.YtlplkjgcfjdinaaGreat
open Go
theorem B9v {l : List ShV} {i n n' : Nat} {t : Value × List EnV} (hx : l[i]? = some (t, n)) : p6 (l.flatMap F1) (i * 2 + 1) [.int .i64 (n' : Int)] = (l.set i (t, n')).flatMap F1 := by
 obtain ⟨hi, _⟩ := List.getElem?_eq_some_iff.1 hx
 have h1 := A0r (f := F1) (k := 2) (fun _ => rfl) l i (t, n') hi
 rw [← h1]
 have h2 := Q9 (f := F1) (k := 2) (fun _ => rfl) l i 0 (by omega)
 rw [hx] at h2
 have h3 : (l.flatMap F1)[i * 2]? = some t.1 := h2
 obtain ⟨h4, h5⟩ := List.getElem?_eq_some_iff.1 h3
 simp only [p6, F1, List.length_cons, List.length_nil, Nat.zero_add]
 rw [List.take_add_one, h3]
 simp
structure MoOk (m : MoH) : Prop where
 few : m.ts.length ≤ 1000
 len : ∀ t ∈ m.ts, t.1.2.length ≤ 1000000
 keys : ∀ t ∈ m.ts, M2 t.1.2
def A6D (s : MoS) (i now : Int) : MoS × AnsV :=
 if i < 0 ∨ (s.tabs.length : Int) ≤ i then (s, ⟨1, 0, false, 0⟩)
 else let t := s.tabs.getD i.toNat ([], 0); let r := M1 t.1 t.2 4 now; ({ s with tabs := s.tabs.set i.toNat (r.1, r.2.1) }, ⟨0, 0, false, (r.2.2 : Nat)⟩)
theorem B5n (w : World) (m : MoH) (o : OpV) (v : Value) (now : Int) (hv : v.cells = #[v] ∧ plain v = true) (hm : MoOk m) (hw : LW false (B2 (C7 m)) w (C7 m) w) :
  Fn PR B5 54 #[.pointer (some ⟨m.b, 0, none⟩), o.val v, .int .i64 now] w (DoR w m (A6D m.st o.shard now)) := by
 refine A38 (TW.goH (κ := false) (S := B2 (C7 m)) ?_ hw)
 unfold u9
 simp only [OpV.val]
 unfold DoR
 have hlen := hm.few
 have hstl : m.st.tabs.length = m.ts.length := by simp [MoH.st]
 generalize hS : B2 (C7 m) = S at *
 simp only [C7]
 refine A0q (e := 84) (k := 2) (v := m.sv) (q := m.ts.length) (xs := m.ts.flatMap F1) (by (repeat constructor)) ?_
 intro sa sc hsv
 rw [hsv]
 have hpt : ∀ r' : MoS × AnsV, r' = (m.st, ⟨1, 0, false, 0⟩) → True := fun _ _ => trivial
 by_cases c1 : o.shard < 0
 ·have e : A6D m.st o.shard now = (m.st, ⟨1, 0, false, 0⟩) := if_pos (Or.inl c1)
  rw [e]
  (have zz:=trivial;repeat((first|clear zz|with_reducible first|refine A3 ?_|refine A5 fun _=>?_|refine A4 fun _=>?_);try simp(disch:=first|omega|assumption|((repeat(first|exact A1|exact uH|apply A2|apply uT));first|done|fail)|(simp;first|done|omega|fail))[c1]))
  refine C3 m ⟨by simp [AnsV.val], rfl, rfl⟩ ?_
  simp only [C7, hsv]
  (repeat' constructor)
 by_cases c2 : (m.ts.length : Int) ≤ o.shard
 ·have e : A6D m.st o.shard now = (m.st, ⟨1, 0, false, 0⟩) := if_pos (Or.inr (by rw [hstl]; exact c2))
  rw [e]
  (have zz:=trivial;repeat((first|clear zz|with_reducible first|refine A3 ?_|refine A5 fun _=>?_|refine A4 fun _=>?_);try simp(disch:=first|omega|assumption|((repeat(first|exact A1|exact uH|apply A2|apply uT));first|done|fail)|(simp;first|done|omega|fail))[c1, c2]))
  refine C3 m ⟨by simp [AnsV.val], rfl, rfl⟩ ?_
  simp only [C7, hsv]
  (repeat' constructor)
 obtain ⟨i, hi⟩ : ∃ i : Nat, o.shard = i := ⟨o.shard.toNat, by omega⟩
 rw [hi] at c1 c2 ⊢
 have hlt : i < m.ts.length := by omega
 obtain ⟨⟨⟨tv, tl⟩, tn⟩, hx⟩ : ∃ x, m.ts[i]? = some x := ⟨_, List.getElem?_eq_getElem hlt⟩
 have hxm := List.mem_of_getElem? hx
 have hgd : m.st.tabs.getD i ([], 0) = (tl, tn) := by simp [MoH.st, List.getD_eq_getElem?_getD, hx]
 have e : A6D m.st i now = ({ m.st with tabs := m.st.tabs.set i ((M1 tl tn 4 now).1, (M1 tl tn 4 now).2.1) }, ⟨0, 0, false, ((M1 tl tn 4 now).2.2 : Nat)⟩) := by
  unfold A6D
  rw [if_neg (by rw [hstl]; omega)]
  simp only [Int.toNat_natCast, hgd]
 rw [e]
 have h0 : (m.ts.flatMap F1)[i * 2]? = some tv := by
  have := Q9 (f := F1) (k := 2) (fun _ => rfl) m.ts i 0 (by omega); rw [hx] at this; exact this
 have h1 : (m.ts.flatMap F1)[i * 2 + 1]? = some (.int .i64 (tn : Int)) := by
  have := Q9 (f := F1) (k := 2) (fun _ => rfl) m.ts i 1 (by omega); rw [hx] at this; exact this
 refine r7 (e := 84) (k := 2) (v := .slice sa m.ts.length sc) (q := m.ts.length) (xs := m.ts.flatMap F1) (by (repeat constructor)) (by omega) ?_
 rintro g gc hg
 cases hg
 (have zz:=trivial;repeat((first|clear zz|with_reducible first|refine A3 ?_|refine A5 fun _=>?_|refine A4 fun _=>?_);try simp(disch:=first|omega|assumption|((repeat(first|exact A1|exact uH|apply A2|apply uT));first|done|fail)|(simp;first|done|omega|fail))[c1, c2, hlt, h0, h1]))
 refine G8 A9U (fun w' hw' => B9F w' tv tl tn 4 now (hm.keys _ hxm) (hm.len _ hxm) (A06 (t := (tv, tl)) hw' (ts := m.ts.map (·.1)) (by (repeat constructor)) (List.mem_map.2 ⟨_, hxm, rfl⟩))) ?_
 rintro r _ rfl
 refine y7 (e := 119) (k := 4) (v := r) (q := (M1 tl tn 4 now).1.length) (xs := (M1 tl tn 4 now).1.flatMap E6) (by (repeat constructor)) fun hr1 hr2 hr3 => ?_
 (have zz:=trivial;repeat((first|clear zz|with_reducible first|refine A3 ?_|refine A5 fun _=>?_|refine A4 fun _=>?_);try simp(disch:=first|omega|assumption|((repeat(first|exact A1|exact uH|apply A2|apply uT));first|done|fail)|(simp;first|done|omega|fail))[c1, c2, hlt]))
 have hr4 : r.cells.toList = [r] := by rw [hr1]
 refine W6 (by (repeat constructor)) (by simp [hr1]) (by rw [H3 (k := 2) fun _ => rfl]; omega) (by simp [hr3]) ?_
 rw [hr4, A8G (e' := (M1 tl tn 4 now).1) hx]
 have hx2 : (m.ts.set i ((r, (M1 tl tn 4 now).1), tn))[i]? = some ((r, (M1 tl tn 4 now).1), tn) := by simp [hlt]
 (have zz:=trivial;repeat((first|clear zz|with_reducible first|refine A3 ?_|refine A5 fun _=>?_|refine A4 fun _=>?_);try simp(disch:=first|omega|assumption|((repeat(first|exact A1|exact uH|apply A2|apply uT));first|done|fail)|(simp;first|done|omega|fail))[c1, c2, hlt]))
 refine W6 (by (repeat constructor)) (by simp) (by rw [H3 (k := 2) fun _ => rfl, List.length_set]; omega) (by simp) ?_
 simp only [B56]
 rw [B9v hx2, List.set_set]
 (have zz:=trivial;repeat((first|clear zz|with_reducible first|refine A3 ?_|refine A5 fun _=>?_|refine A4 fun _=>?_);try simp(disch:=first|omega|assumption|((repeat(first|exact A1|exact uH|apply A2|apply uT));first|done|fail)|(simp;first|done|omega|fail))[]))
 refine B1v (r := r) (l := (M1 tl tn 4 now).1) (i := i) (by (repeat' constructor)) ?_
 refine C3 { m with sv := .slice (some ⟨g, 0, none⟩) m.ts.length sc, ts := m.ts.set i ((r, (M1 tl tn 4 now).1), (M1 tl tn 4 now).2.1) } ⟨by simp [AnsV.val], rfl, by simp [MoH.st, List.map_set]⟩ ?_
 simp only [C7, List.map_set, List.length_set]
 (repeat' constructor)
end Go.Proofs.YtlplkjgcfjdinaaGreat
namespace Go.Proofs.YtlplkjgcfjdinaaGreat
open Go
def A0A (ts : List (List EnV × Nat)) : Nat := (ts.map fun t => Q3 t.1 1).sum
theorem B7J (ts : List (List EnV × Nat)) (h : ∀ t ∈ ts, t.1.length ≤ 1000000) : A0A ts ≤ ts.length * 1000000 := by
 induction ts with
 | nil => simp [A0A]
 | cons t ts ih =>
  have h1 := ih fun x hx => h x (by simp [hx])
  have h2 := h t (by simp)
  have h3 : Q3 t.1 1 ≤ t.1.length := List.countP_le_length
  have e : A0A (t :: ts) = Q3 t.1 1 + A0A ts := by simp [A0A]
  rw [e, List.length_cons]; omega
def B1M (s : MoS) : MoS × AnsV := (s, ⟨0, 0, false, (A0A s.tabs : Nat)⟩)
theorem B7f (w : World) (m : MoH) (o : OpV) (v : Value) (now : Int) (hv : v.cells = #[v] ∧ plain v = true) (hm : MoOk m) (hw : LW false (B2 (C7 m)) w (C7 m) w) :
  Fn PR B5 55 #[.pointer (some ⟨m.b, 0, none⟩), o.val v, .int .i64 now] w (DoR w m (B1M m.st)) := by
 refine A4E (TW.goH (κ := false) (S := B2 (C7 m)) ?_ hw)
 unfold z8
 simp only [OpV.val]
 unfold DoR
 have hlen := hm.few
 generalize hS : B2 (C7 m) = S at *
 simp only [C7]
 refine A0q (e := 84) (k := 2) (v := m.sv) (q := m.ts.length) (xs := m.ts.flatMap F1) (by (repeat constructor)) ?_
 intro sa sc hsv
 rw [hsv]
 (have zz:=trivial;repeat((first|clear zz|with_reducible first|refine A3 ?_|refine A5 fun _=>?_|refine A4 fun _=>?_);try simp(disch:=first|omega|assumption|((repeat(first|exact A1|exact uH|apply A2|apply uT));first|done|fail)|(simp;first|done|omega|fail))[]))
 rename_i b4 b6 b7
 obtain ⟨tb, htb⟩ : ∃ tb, tb = m.ts.map fun t => (t.1.2, t.2) := ⟨_, rfl⟩
 have htl : tb.length = m.ts.length := by rw [htb]; simp
 refine C0w m.ts.length (fun i => [.pt b7 (.cells #[.int .i64 0, .int .i64 0, .bool false, .int .i64 (A0A (tb.take i) : Nat)] 44), .pt b6 (.cells #[.int .i64 0, .int .i64 0, .bool false, .int .i64 0] 44),
  .pt b4 (.cells #[.int .i64 o.kind, .string o.packet, v, .int .i64 o.shard] 52), .pt m.b (.cells #[.int .i64 m.c.wk, .int .i64 m.c.sh, .int .i64 m.c.cp, .int .i64 m.c.idle, .int .i64 m.c.sl, m.pv, .slice sa m.ts.length sc] 78),
  .own 129 2 m.pv m.pool.length (m.pool.flatMap G2), .own 84 2 (.slice sa m.ts.length sc) m.ts.length (m.ts.flatMap F1), g7 (m.ts.map (·.1))]) ?_
 intro i hi L hL
 have hsum : A0A (tb.take i) ≤ 1000000000 := by
  have := B7J (tb.take i) (by
   intro t ht
   have ht2 := List.mem_of_mem_take ht
   rw [htb] at ht2
   obtain ⟨x, hx, rfl⟩ := List.mem_map.1 ht2; exact hm.len x hx)
  have h2 : (tb.take i).length ≤ 1000 := by rw [List.length_take]; omega
  have h3 : (tb.take i).length * 1000000 ≤ 1000 * 1000000 := Nat.mul_le_mul_right _ h2
  omega
 by_cases hlt : i < m.ts.length
 ·obtain ⟨⟨⟨tv, tl⟩, tn⟩, hx⟩ : ∃ x, m.ts[i]? = some x := ⟨_, List.getElem?_eq_getElem hlt⟩
  have hxm := List.mem_of_getElem? hx
  have h0 : (m.ts.flatMap F1)[i * 2]? = some tv := by
   have := Q9 (f := F1) (k := 2) (fun _ => rfl) m.ts i 0 (by omega); rw [hx] at this; exact this
  have hst : A0A (tb.take (i + 1)) = A0A (tb.take i) + Q3 tl 1 := by
   have hx2 : tb[i]? = some (tl, tn) := by rw [htb, List.getElem?_map, hx]; rfl
   rw [List.take_add_one, hx2]; simp [A0A]
  have hcl : Q3 tl 1 ≤ 1000000 := Nat.le_trans List.countP_le_length (hm.len _ hxm)
  have hL' := hL hlt
  rw [hst] at hL'
  refine r7 (e := 84) (k := 2) (v := .slice sa m.ts.length sc) (q := m.ts.length) (xs := m.ts.flatMap F1) (by (repeat constructor)) (by omega) ?_
  rintro g gc hg
  cases hg
  (have zz:=trivial;repeat((first|clear zz|with_reducible first|refine A3 ?_|refine A5 fun _=>?_|refine A4 fun _=>?_);try simp(disch:=first|omega|assumption|((repeat(first|exact A1|exact uH|apply A2|apply uT));first|done|fail)|(simp;first|done|omega|fail))[hlt]))
  refine C5 A4f (fun w' hw' => B8k w' g (i * 2) tv tl (by have := (hw'.ownr (e := 84) (k := 2) (q := m.ts.length) (c := sc) (xs := m.ts.flatMap F1) (by (repeat constructor))).get h0; rwa [Nat.zero_add] at this) (hm.len _ hxm) (A06 (t := (tv, tl)) hw' (ts := m.ts.map (·.1)) (by (repeat constructor)) (List.mem_map.2 ⟨_, hxm, rfl⟩))) ?_
  (have zz:=trivial;repeat((first|clear zz|with_reducible first|refine A3 ?_|refine A5 fun _=>?_|refine A4 fun _=>?_);try simp(disch:=first|omega|assumption|((repeat(first|exact A1|exact uH|apply A2|apply uT));first|done|fail)|(simp;first|done|omega|fail))[]))
  exact TW.eqH (by simp) hL'
 ·obtain rfl : i = m.ts.length := by omega
  rw [← htl, List.take_length, htl]
  (have zz:=trivial;repeat((first|clear zz|with_reducible first|refine A3 ?_|refine A5 fun _=>?_|refine A4 fun _=>?_);try simp(disch:=first|omega|assumption|((repeat(first|exact A1|exact uH|apply A2|apply uT));first|done|fail)|(simp;first|done|omega|fail))[]))
  refine C3 m ⟨by simp [AnsV.val, B1M, MoH.st, htb], rfl, rfl⟩ ?_
  simp only [C7, hsv]
  (repeat' constructor)
end Go.Proofs.YtlplkjgcfjdinaaGreat
namespace Go.Proofs.YtlplkjgcfjdinaaGreat
open Go
def A7m (k : KeyV) : ByteArray := if U4 k then A2A k else U6
def A2v (s : MoS) (pk : ByteArray) (now : Int) : MoS × AnsV :=
 let x := D1 pk
 if x.2.2 ≠ 0 then (s, ⟨9, 0, false, 0⟩)
 else
  let i := S3 (A7m x.1) s.c.sh
  let t := s.tabs.getD i ([], 0)
  let r := D5 t.1 s.pool (A7m x.1) (k4 x.1 x.2.1) now s.c.idle
  ({ s with tabs := s.tabs.set i (r.1, t.2) }, r.2.1)
structure MoOk2 (m : MoH) : Prop extends MoOk m where
 pool : m.pool.length ≤ 1000
 sh : m.c.sh = m.ts.length
 pos : 0 < m.ts.length
theorem B2Q {l : List EnV} {p : List J0} {key : ByteArray} {c : Bool} {now idle : Int} (h : (D5 l p key c now idle).2.2 = false) : (D5 l p key c now idle).1 = l := by
 unfold D5 at h ⊢
 split
 ·rfl
 ·rw [if_neg ‹_›] at h
  split
  ·rw [if_pos ‹_›] at h
   simp only at h
   cases hd : d4 l key with
   | none => simp [A1z, hd]
   | some u => rw [hd] at h; cases h
  ·rw [if_neg ‹_›] at h
   cases hp : F9 l (A9q l p key now idle) with
   | none => rfl
   | some u => rw [hp] at h; cases h
theorem B5v {κ : Bool} {S : List Nat} {w0 : World} {H : List Res} {K0 : WP} {ts : List (Value × List EnV)} {t : Value × List EnV} (hm : g7 ts ∈ H) (ht : t ∈ ts) (h : t.1.cells = #[t.1] → t.1.cells.size = 1 → t.1.cells.toList.all plain = true → TW κ S w0 H K0) : TW κ S w0 H K0 := fun w hw => by
 obtain ⟨a, c, e⟩ := S5.form ((hw.hold _ hm : A5z ts w) t ht)
 exact h (by rw [e]; rfl) (by rw [e]; rfl) (by rw [e]; rfl) w hw
theorem A9K (s t : ByteArray) (o : Nat) : (W8 s o t).size ≤ o + t.size + s.size := by
 simp only [W8, ByteArray.size_append, ByteArray.size_extract]; omega
theorem A7T (x : Int) : (F8 x 2).size ≤ 2 := by simp
theorem B0U (k : KeyV) : (A7m k).size < 2 ^ 60 := by
 unfold A7m
 split
 ·rename_i h
  simp only [U4, decide_eq_true_eq] at h
  have hl : V1 k.v ≤ 16 := by unfold V1; split <;> (try split) <;> omega
  have h1 := A9K (W8 (W8 z38 0 (F8 (k.v * 256 + k.proto) 2 ++ F8 k.fr 2 ++ F8 k.tp 2)) 6 k.src) k.dst 22
  have h2 := A9K (W8 z38 0 (F8 (k.v * 256 + k.proto) 2 ++ F8 k.fr 2 ++ F8 k.tp 2)) k.src 6
  have h3 := A9K z38 (F8 (k.v * 256 + k.proto) 2 ++ F8 k.fr 2 ++ F8 k.tp 2) 0
  have h4 := A7T (k.v * 256 + k.proto)
  have h5 := A7T k.fr
  have h6 := A7T k.tp
  have h7 := A4S
  simp only [ByteArray.size_append] at h3
  unfold A2A
  omega
 ·simp
theorem B3e (w : World) (m : MoH) (o : OpV) (v : Value) (now : Int) (hv : v.cells = #[v] ∧ plain v = true) (hpk : o.packet.size < 2 ^ 40) (hm : MoOk2 m) (hw : LW false (B2 (C7 m)) w (C7 m) w) :
  Fn PR B5 52 #[.pointer (some ⟨m.b, 0, none⟩), o.val v, .int .i64 now] w (DoR w m (A2v m.st o.packet now)) := by
 refine A2N (TW.goH (κ := false) (S := B2 (C7 m)) ?_ hw)
 unfold n8
 simp only [OpV.val]
 unfold DoR
 have hlen := hm.few
 generalize hS : B2 (C7 m) = S at *
 simp only [C7]
 refine A0q (e := 84) (k := 2) (v := m.sv) (q := m.ts.length) (xs := m.ts.flatMap F1) (by (repeat constructor)) ?_
 intro sa sc hsv
 rw [hsv]
 (have zz:=trivial;repeat((first|clear zz|with_reducible first|refine A3 ?_|refine A5 fun _=>?_|refine A4 fun _=>?_);try simp(disch:=first|omega|assumption|((repeat(first|exact A1|exact uH|apply A2|apply uT));first|done|fail)|(simp;first|done|omega|fail))[]))
 refine C5 A7U (fun w' hw' => A9N w' o.packet hpk) ?_
 by_cases c1 : (D1 o.packet).2.2 = 0
 case neg =>
  have e : A2v m.st o.packet now = (m.st, ⟨9, 0, false, 0⟩) := by unfold A2v; simp only; rw [if_pos c1]
  rw [e]
  (have zz:=trivial;repeat((first|clear zz|with_reducible first|refine A3 ?_|refine A5 fun _=>?_|refine A4 fun _=>?_);try simp(disch:=first|omega|assumption|((repeat(first|exact A1|exact uH|apply A2|apply uT));first|done|fail)|(simp;first|done|omega|fail))[packet.val, Z1, c1]))
  refine C3 m ⟨by simp [AnsV.val], rfl, rfl⟩ ?_
  simp only [C7, hsv]
  (repeat' constructor)
 have hk := B0U (D1 o.packet).1
 (have zz:=trivial;repeat((first|clear zz|with_reducible first|refine A3 ?_|refine A5 fun _=>?_|refine A4 fun _=>?_);try simp(disch:=first|omega|assumption|((repeat(first|exact A1|exact uH|apply A2|apply uT));first|done|fail)|(simp;first|done|omega|fail))[packet.val, Z1, c1]))
 refine C5 (u := A3m (D1 o.packet).1) A72 (fun w' hw' => B7S w' (D1 o.packet).1) ?_
 (have zz:=trivial;repeat((first|clear zz|with_reducible first|refine A3 ?_|refine A5 fun _=>?_|refine A4 fun _=>?_);try simp(disch:=first|omega|assumption|((repeat(first|exact A1|exact uH|apply A2|apply uT));first|done|fail)|(simp;first|done|omega|fail))[A3m]))
 rename_i b4 b6 b7
 have hsh := hm.sh
 have hpos := hm.pos
 rw [show (if U4 (D1 o.packet).1 = true then A2A (D1 o.packet).1 else U6) = A7m (D1 o.packet).1 from rfl]
 generalize hkey : A7m (D1 o.packet).1 = key at *
 refine C5 A8z (fun w' hw' => B7G w' key m.c.sh hk (by omega)) ?_
 have hlt : S3 key m.c.sh < m.ts.length := by
  unfold S3; rw [if_neg (by omega), hsh, Int.toNat_natCast]; exact Nat.mod_lt _ hpos
 have e : A2v m.st o.packet now = ({ m.st with tabs := m.st.tabs.set (S3 key m.c.sh) ((D5 (m.st.tabs.getD (S3 key m.c.sh) ([], 0)).1 m.pool key (k4 (D1 o.packet).1 (D1 o.packet).2.1) now m.c.idle).1, (m.st.tabs.getD (S3 key m.c.sh) ([], 0)).2) },
   (D5 (m.st.tabs.getD (S3 key m.c.sh) ([], 0)).1 m.pool key (k4 (D1 o.packet).1 (D1 o.packet).2.1) now m.c.idle).2.1) := by
  unfold A2v; simp only; rw [if_neg (by rw [c1]; simp), hkey]; rfl
 rw [e]
 generalize S3 key m.c.sh = i at *
 obtain ⟨⟨⟨tv, tl⟩, tn⟩, hx⟩ : ∃ x, m.ts[i]? = some x := ⟨_, List.getElem?_eq_getElem hlt⟩
 have hxm := List.mem_of_getElem? hx
 have hgd : m.st.tabs.getD i ([], 0) = (tl, tn) := by simp [MoH.st, List.getD_eq_getElem?_getD, hx]
 rw [hgd]
 simp only
 generalize hcl : k4 (D1 o.packet).1 (D1 o.packet).2.1 = cl at *
 have h0 : (m.ts.flatMap F1)[i * 2]? = some tv := by
  have := Q9 (f := F1) (k := 2) (fun _ => rfl) m.ts i 0 (by omega); rw [hx] at this; exact this
 refine r7 (e := 84) (k := 2) (v := .slice sa m.ts.length sc) (q := m.ts.length) (xs := m.ts.flatMap F1) (by (repeat constructor)) (by omega) ?_
 rintro g gc hg
 cases hg
 (have zz:=trivial;repeat((first|clear zz|with_reducible first|refine A3 ?_|refine A5 fun _=>?_|refine A4 fun _=>?_);try simp(disch:=first|omega|assumption|((repeat(first|exact A1|exact uH|apply A2|apply uT));first|done|fail)|(simp;first|done|omega|fail))[hlt]))
 cases hnw : (D5 tl m.pool key cl now m.c.idle).2.2 with
 | true =>
  refine B4j (α := Nat × Value) (fun x => x.2.cells = #[x.2] ∧ x.2.cells.size = 1 ∧ x.2.cells.toList.all plain = true) (fun x => [.pt x.1 (.cells #[.int .i64 (D5 tl m.pool key cl now m.c.idle).2.1.err, .int .i64 (D5 tl m.pool key cl now m.c.idle).2.1.bk, .bool (D5 tl m.pool key cl now m.c.idle).2.1.made, .int .i64 (D5 tl m.pool key cl now m.c.idle).2.1.count] 44), E8 x.2 (D5 tl m.pool key cl now m.c.idle).1, 
   .pt b7 (.cells #[.int .i64 (D1 o.packet).1.v, .string (D1 o.packet).1.src, .string (D1 o.packet).1.dst, .int .i64 (D1 o.packet).1.fr, .int .i64 (D1 o.packet).1.tp, .int .i64 (D1 o.packet).1.proto, .int .i64 (D1 o.packet).2.1] 110),
   .pt b6 (.cells #[.int .i64 0, .int .i64 0, .bool false, .int .i64 0] 44),
   .pt m.b (.cells #[.int .i64 m.c.wk, .int .i64 m.c.sh, .int .i64 m.c.cp, .int .i64 m.c.idle, .int .i64 m.c.sl, m.pv, .slice (some ⟨g, 0, none⟩) m.ts.length sc] 78),
   .own 129 2 m.pv m.pool.length (m.pool.flatMap G2), .own 84 2 (.slice (some ⟨g, 0, none⟩) m.ts.length sc) m.ts.length (m.ts.flatMap F1), g7 (m.ts.map (·.1))])
   (fun x => .pointer (some ⟨x.1, 0, none⟩)) (fun x => x.2) ?_ ?_
  ·rintro ⟨ba, r⟩ ⟨hr1, hr2, hr3⟩
   simp only at hr1 hr2 hr3 ⊢
   have hr4 : r.cells.toList = [r] := by rw [hr1]
   (have zz:=trivial;repeat((first|clear zz|with_reducible first|refine A3 ?_|refine A5 fun _=>?_|refine A4 fun _=>?_);try simp(disch:=first|omega|assumption|((repeat(first|exact A1|exact uH|apply A2|apply uT));first|done|fail)|(simp;first|done|omega|fail))[hlt]))
   refine W6 (by (repeat constructor)) (by simp [hr1]) (by rw [H3 (k := 2) fun _ => rfl]; omega) (by simp [hr3]) ?_
   rw [hr4, A8G (e' := (D5 tl m.pool key cl now m.c.idle).1) hx]
   (have zz:=trivial;repeat((first|clear zz|with_reducible first|refine A3 ?_|refine A5 fun _=>?_|refine A4 fun _=>?_);try simp(disch:=first|omega|assumption|((repeat(first|exact A1|exact uH|apply A2|apply uT));first|done|fail)|(simp;first|done|omega|fail))[]))
   refine B1v (r := r) (l := (D5 tl m.pool key cl now m.c.idle).1) (i := i) (by (repeat' constructor)) ?_
   refine C3 { m with sv := .slice (some ⟨g, 0, none⟩) m.ts.length sc, ts := m.ts.set i ((r, (D5 tl m.pool key cl now m.c.idle).1), tn) } ⟨by simp [AnsV.val], rfl, by simp [MoH.st, List.map_set]⟩ ?_
   simp only [C7, List.map_set, List.length_set]
   (repeat' constructor)
  ·intro J hJ
   (have zz:=trivial;repeat((first|clear zz|with_reducible first|refine A3 ?_|refine A5 fun _=>?_|refine A4 fun _=>?_);try simp(disch:=first|omega|assumption|((repeat(first|exact A1|exact uH|apply A2|apply uT));first|done|fail)|(simp;first|done|omega|fail))[hlt, h0]))
   have hclo : ∀ w', Fn PR B5 74 #[Z1 (D1 o.packet).1 (D1 o.packet).2.1] w' (fun u w'' => u = .bool cl ∧ C6 [] w' w'') := fun w' => by rw [← hcl]; exact A8e w' _ _
   refine ⟨?_, ?_⟩
   ·refine C5 V6 (fun w' _ => hclo w') ?_
    (have zz:=trivial;repeat((first|clear zz|with_reducible first|refine A3 ?_|refine A5 fun _=>?_|refine A4 fun _=>?_);try simp(disch:=first|omega|assumption|((repeat(first|exact A1|exact uH|apply A2|apply uT));first|done|fail)|(simp;first|done|omega|fail))[h0]))
    refine ⟨?_, ?_⟩
    ·refine G8 P7 (fun w' hw' => v7 w' tv m.pv tl m.pool key cl now m.c.idle hk (hm.keys _ hxm) (hm.len _ hxm) hm.pool (A06 (t := (tv, tl)) hw' (ts := m.ts.map (·.1)) (by (repeat constructor)) (List.mem_map.2 ⟨_, hxm, rfl⟩)) (H2.own (e := 129) (k := 2) (by (repeat constructor)) w' hw')) ?_
     rintro r _ rfl
     simp only [hnw, if_true]
     refine y7 (e := 119) (k := 4) (v := r) (q := (D5 tl m.pool key cl now m.c.idle).1.length) (xs := (D5 tl m.pool key cl now m.c.idle).1.flatMap E6) (by (repeat constructor)) fun hr1 hr2 hr3 => ?_
     (have zz:=trivial;repeat((first|clear zz|with_reducible first|refine A3 ?_|refine A5 fun _=>?_|refine A4 fun _=>?_);try simp(disch:=first|omega|assumption|((repeat(first|exact A1|exact uH|apply A2|apply uT));first|done|fail)|(simp;first|done|omega|fail))[AnsV.val]))
     rename_i bx
     exact Sels.tw (by (repeat' constructor)) (hJ (bx, r) ⟨hr1, hr2, hr3⟩)
    ·refine ⟨?_, fun _ _ => trivial⟩
     (have zz:=trivial;repeat((first|clear zz|with_reducible first|refine A3 ?_|refine A5 fun _=>?_|refine A4 fun _=>?_);try simp(disch:=first|omega|assumption|((repeat(first|exact A1|exact uH|apply A2|apply uT));first|done|fail)|(simp;first|done|omega|fail))[h0]))
     rename_i bx
     refine G8 P7 (fun w' hw' => v7 w' tv m.pv tl m.pool key cl now m.c.idle hk (hm.keys _ hxm) (hm.len _ hxm) hm.pool (A06 (t := (tv, tl)) hw' (ts := m.ts.map (·.1)) (by (repeat constructor)) (List.mem_map.2 ⟨_, hxm, rfl⟩)) (H2.own (e := 129) (k := 2) (by (repeat constructor)) w' hw')) ?_
     rintro r _ rfl
     simp only [hnw, if_true]
     refine y7 (e := 119) (k := 4) (v := r) (q := (D5 tl m.pool key cl now m.c.idle).1.length) (xs := (D5 tl m.pool key cl now m.c.idle).1.flatMap E6) (by (repeat constructor)) fun hr1 hr2 hr3 => ?_
     (have zz:=trivial;repeat((first|clear zz|with_reducible first|refine A3 ?_|refine A5 fun _=>?_|refine A4 fun _=>?_);try simp(disch:=first|omega|assumption|((repeat(first|exact A1|exact uH|apply A2|apply uT));first|done|fail)|(simp;first|done|omega|fail))[AnsV.val]))
     exact Sels.tw (by (repeat' constructor)) (hJ (bx, r) ⟨hr1, hr2, hr3⟩)
   ·refine ⟨?_, fun _ _ => trivial⟩
    (have zz:=trivial;repeat((first|clear zz|with_reducible first|refine A3 ?_|refine A5 fun _=>?_|refine A4 fun _=>?_);try simp(disch:=first|omega|assumption|((repeat(first|exact A1|exact uH|apply A2|apply uT));first|done|fail)|(simp;first|done|omega|fail))[h0]))
    rename_i bx
    rw [A1v (by (repeat constructor)) (by rfl)]
    (have zz:=trivial;repeat((first|clear zz|with_reducible first|refine A3 ?_|refine A5 fun _=>?_|refine A4 fun _=>?_);try simp(disch:=first|omega|assumption|((repeat(first|exact A1|exact uH|apply A2|apply uT));first|done|fail)|(simp;first|done|omega|fail))[h0]))
    refine C5 V6 (fun w' _ => hclo w') ?_
    (have zz:=trivial;repeat((first|clear zz|with_reducible first|refine A3 ?_|refine A5 fun _=>?_|refine A4 fun _=>?_);try simp(disch:=first|omega|assumption|((repeat(first|exact A1|exact uH|apply A2|apply uT));first|done|fail)|(simp;first|done|omega|fail))[h0]))
    refine G8 P7 (fun w' hw' => v7 w' tv m.pv tl m.pool key cl now m.c.idle hk (hm.keys _ hxm) (hm.len _ hxm) hm.pool (A06 (t := (tv, tl)) hw' (ts := m.ts.map (·.1)) (by (repeat constructor)) (List.mem_map.2 ⟨_, hxm, rfl⟩)) (H2.own (e := 129) (k := 2) (by (repeat constructor)) w' hw')) ?_
    rintro r _ rfl
    simp only [hnw, if_true]
    refine y7 (e := 119) (k := 4) (v := r) (q := (D5 tl m.pool key cl now m.c.idle).1.length) (xs := (D5 tl m.pool key cl now m.c.idle).1.flatMap E6) (by (repeat constructor)) fun hr1 hr2 hr3 => ?_
    (have zz:=trivial;repeat((first|clear zz|with_reducible first|refine A3 ?_|refine A5 fun _=>?_|refine A4 fun _=>?_);try simp(disch:=first|omega|assumption|((repeat(first|exact A1|exact uH|apply A2|apply uT));first|done|fail)|(simp;first|done|omega|fail))[AnsV.val]))
    exact Sels.tw (by (repeat' constructor)) (hJ (bx, r) ⟨hr1, hr2, hr3⟩)
 | false =>
  refine B5v (ts := m.ts.map (·.1)) (t := (tv, tl)) (by (repeat constructor)) (List.mem_map.2 ⟨_, hxm, rfl⟩) fun hr1 hr2 hr3 => ?_
  simp only at hr1 hr2 hr3
  refine B4j (α := Nat × Value) (fun x => x.2.cells = #[x.2] ∧ x.2.cells.size = 1 ∧ x.2.cells.toList.all plain = true) (fun x => [.pt x.1 (.cells #[.int .i64 (D5 tl m.pool key cl now m.c.idle).2.1.err, .int .i64 (D5 tl m.pool key cl now m.c.idle).2.1.bk, .bool (D5 tl m.pool key cl now m.c.idle).2.1.made, .int .i64 (D5 tl m.pool key cl now m.c.idle).2.1.count] 44), 
   .pt b7 (.cells #[.int .i64 (D1 o.packet).1.v, .string (D1 o.packet).1.src, .string (D1 o.packet).1.dst, .int .i64 (D1 o.packet).1.fr, .int .i64 (D1 o.packet).1.tp, .int .i64 (D1 o.packet).1.proto, .int .i64 (D1 o.packet).2.1] 110),
   .pt b6 (.cells #[.int .i64 0, .int .i64 0, .bool false, .int .i64 0] 44),
   .pt m.b (.cells #[.int .i64 m.c.wk, .int .i64 m.c.sh, .int .i64 m.c.cp, .int .i64 m.c.idle, .int .i64 m.c.sl, m.pv, .slice (some ⟨g, 0, none⟩) m.ts.length sc] 78),
   .own 129 2 m.pv m.pool.length (m.pool.flatMap G2), .own 84 2 (.slice (some ⟨g, 0, none⟩) m.ts.length sc) m.ts.length (m.ts.flatMap F1), g7 (m.ts.map (·.1))])
   (fun x => .pointer (some ⟨x.1, 0, none⟩)) (fun x => tv) ?_ ?_
  ·rintro ⟨ba, r⟩ _
   simp only
   have hr4 : tv.cells.toList = [tv] := by rw [hr1]
   have hsame : m.ts.set i ((tv, tl), tn) = m.ts := by
    obtain ⟨h, e⟩ := List.getElem?_eq_some_iff.1 hx
    rw [← e]; exact List.set_getElem_self h
   have hst : m.st.tabs.set i (tl, tn) = m.st.tabs := by
    have := congrArg (List.map fun t : ShV => (t.1.2, t.2)) hsame
    rw [List.map_set] at this; exact this
   have hd := B2Q hnw
   (have zz:=trivial;repeat((first|clear zz|with_reducible first|refine A3 ?_|refine A5 fun _=>?_|refine A4 fun _=>?_);try simp(disch:=first|omega|assumption|((repeat(first|exact A1|exact uH|apply A2|apply uT));first|done|fail)|(simp;first|done|omega|fail))[hlt]))
   refine W6 (by (repeat constructor)) (by simp [hr1]) (by rw [H3 (k := 2) fun _ => rfl]; omega) (by simp [hr3]) ?_
   rw [hr4, A8G (e' := tl) hx, hsame]
   (have zz:=trivial;repeat((first|clear zz|with_reducible first|refine A3 ?_|refine A5 fun _=>?_|refine A4 fun _=>?_);try simp(disch:=first|omega|assumption|((repeat(first|exact A1|exact uH|apply A2|apply uT));first|done|fail)|(simp;first|done|omega|fail))[]))
   refine C3 m ⟨by simp [AnsV.val], rfl, by rw [hd, hst]⟩ ?_
   simp only [C7, hsv]
   (repeat' constructor)
  ·intro J hJ
   (have zz:=trivial;repeat((first|clear zz|with_reducible first|refine A3 ?_|refine A5 fun _=>?_|refine A4 fun _=>?_);try simp(disch:=first|omega|assumption|((repeat(first|exact A1|exact uH|apply A2|apply uT));first|done|fail)|(simp;first|done|omega|fail))[hlt, h0]))
   have hclo : ∀ w', Fn PR B5 74 #[Z1 (D1 o.packet).1 (D1 o.packet).2.1] w' (fun u w'' => u = .bool cl ∧ C6 [] w' w'') := fun w' => by rw [← hcl]; exact A8e w' _ _
   refine ⟨?_, ?_⟩
   ·refine C5 V6 (fun w' _ => hclo w') ?_
    (have zz:=trivial;repeat((first|clear zz|with_reducible first|refine A3 ?_|refine A5 fun _=>?_|refine A4 fun _=>?_);try simp(disch:=first|omega|assumption|((repeat(first|exact A1|exact uH|apply A2|apply uT));first|done|fail)|(simp;first|done|omega|fail))[h0]))
    refine ⟨?_, ?_⟩
    ·refine G8 P7 (fun w' hw' => v7 w' tv m.pv tl m.pool key cl now m.c.idle hk (hm.keys _ hxm) (hm.len _ hxm) hm.pool (A06 (t := (tv, tl)) hw' (ts := m.ts.map (·.1)) (by (repeat constructor)) (List.mem_map.2 ⟨_, hxm, rfl⟩)) (H2.own (e := 129) (k := 2) (by (repeat constructor)) w' hw')) ?_
     rintro r _ rfl
     simp only [hnw, Bool.false_eq_true, if_false]
     (have zz:=trivial;repeat((first|clear zz|with_reducible first|refine A3 ?_|refine A5 fun _=>?_|refine A4 fun _=>?_);try simp(disch:=first|omega|assumption|((repeat(first|exact A1|exact uH|apply A2|apply uT));first|done|fail)|(simp;first|done|omega|fail))[AnsV.val]))
     rename_i bx
     exact Sels.tw (by (repeat' constructor)) (hJ (bx, tv) ⟨hr1, hr2, hr3⟩)
    ·refine ⟨?_, fun _ _ => trivial⟩
     (have zz:=trivial;repeat((first|clear zz|with_reducible first|refine A3 ?_|refine A5 fun _=>?_|refine A4 fun _=>?_);try simp(disch:=first|omega|assumption|((repeat(first|exact A1|exact uH|apply A2|apply uT));first|done|fail)|(simp;first|done|omega|fail))[h0]))
     rename_i bx
     refine G8 P7 (fun w' hw' => v7 w' tv m.pv tl m.pool key cl now m.c.idle hk (hm.keys _ hxm) (hm.len _ hxm) hm.pool (A06 (t := (tv, tl)) hw' (ts := m.ts.map (·.1)) (by (repeat constructor)) (List.mem_map.2 ⟨_, hxm, rfl⟩)) (H2.own (e := 129) (k := 2) (by (repeat constructor)) w' hw')) ?_
     rintro r _ rfl
     simp only [hnw, Bool.false_eq_true, if_false]
     (have zz:=trivial;repeat((first|clear zz|with_reducible first|refine A3 ?_|refine A5 fun _=>?_|refine A4 fun _=>?_);try simp(disch:=first|omega|assumption|((repeat(first|exact A1|exact uH|apply A2|apply uT));first|done|fail)|(simp;first|done|omega|fail))[AnsV.val]))
     exact Sels.tw (by (repeat' constructor)) (hJ (bx, tv) ⟨hr1, hr2, hr3⟩)
   ·refine ⟨?_, fun _ _ => trivial⟩
    (have zz:=trivial;repeat((first|clear zz|with_reducible first|refine A3 ?_|refine A5 fun _=>?_|refine A4 fun _=>?_);try simp(disch:=first|omega|assumption|((repeat(first|exact A1|exact uH|apply A2|apply uT));first|done|fail)|(simp;first|done|omega|fail))[h0]))
    rename_i bx
    rw [A1v (by (repeat constructor)) (by rfl)]
    (have zz:=trivial;repeat((first|clear zz|with_reducible first|refine A3 ?_|refine A5 fun _=>?_|refine A4 fun _=>?_);try simp(disch:=first|omega|assumption|((repeat(first|exact A1|exact uH|apply A2|apply uT));first|done|fail)|(simp;first|done|omega|fail))[h0]))
    refine C5 V6 (fun w' _ => hclo w') ?_
    (have zz:=trivial;repeat((first|clear zz|with_reducible first|refine A3 ?_|refine A5 fun _=>?_|refine A4 fun _=>?_);try simp(disch:=first|omega|assumption|((repeat(first|exact A1|exact uH|apply A2|apply uT));first|done|fail)|(simp;first|done|omega|fail))[h0]))
    refine G8 P7 (fun w' hw' => v7 w' tv m.pv tl m.pool key cl now m.c.idle hk (hm.keys _ hxm) (hm.len _ hxm) hm.pool (A06 (t := (tv, tl)) hw' (ts := m.ts.map (·.1)) (by (repeat constructor)) (List.mem_map.2 ⟨_, hxm, rfl⟩)) (H2.own (e := 129) (k := 2) (by (repeat constructor)) w' hw')) ?_
    rintro r _ rfl
    simp only [hnw, Bool.false_eq_true, if_false]
    (have zz:=trivial;repeat((first|clear zz|with_reducible first|refine A3 ?_|refine A5 fun _=>?_|refine A4 fun _=>?_);try simp(disch:=first|omega|assumption|((repeat(first|exact A1|exact uH|apply A2|apply uT));first|done|fail)|(simp;first|done|omega|fail))[AnsV.val]))
    exact Sels.tw (by (repeat' constructor)) (hJ (bx, tv) ⟨hr1, hr2, hr3⟩)
end Go.Proofs.YtlplkjgcfjdinaaGreat
namespace Go.Proofs.YtlplkjgcfjdinaaGreat
open Go
theorem bdF (a b c d : FuncId) (K : Value → WP) : A0 PR (Instr.build 106 #[(0, .func (.func a) #[] #[]), (1, .func (.func b) #[] #[]), (2, .func (.func c) #[] #[]), (3, .func (.func d) #[] #[])]) K = K (.agg #[.func (.func a) #[] #[], .func (.func b) #[] #[], .func (.func c) #[] #[], .func (.func d) #[] #[]]) :=
 B12 B4r B5U (by rw [show (#[(0, Value.func (.func a) #[] #[]), (1, .func (.func b) #[] #[]), (2, .func (.func c) #[] #[]), (3, .func (.func d) #[] #[])] : Array (Nat × Value)).toList = [(0, .func (.func a) #[] #[]), (1, .func (.func b) #[] #[]), (2, .func (.func c) #[] #[]), (3, .func (.func d) #[] #[])] from rfl, B4 rfl rfl (by simp), B4 rfl rfl (by simp [C0]), B4 rfl rfl (by simp [C0]), B4 rfl rfl (by simp [C0])]; rfl)
def m9 (s : MoS) (o : OpV) (now : Int) : MoS × AnsV :=
 if o.kind = 0 then A2v s o.packet now else if o.kind = 1 then A9E s o.pool else if o.kind = 2 then A6D s o.shard now else if o.kind = 3 then B1M s else (s, ⟨1, 0, false, 0⟩)
theorem B5M (w : World) (m : MoH) (o : OpV) (v : Value) (now : Int) (hv : PoolAt w m v o.pool) (hpk : o.packet.size < 2 ^ 40) (hm : MoOk2 m) (hw : LW false (B2 (C7 m)) w (C7 m) w) :
  Fn PR B5 44 #[.pointer (some ⟨m.b, 0, none⟩), o.val v, .int .i64 now] w (DoR w m (m9 m.st o now)) := by
 refine A6x (TW.goH (κ := false) (S := B2 (C7 m)) ?_ hw)
 unfold A1N
 simp only [OpV.val]
 unfold DoR
 generalize hS : B2 (C7 m) = S at *
 have hc1 : v.cells.size = 1 := by rw [hv.form.1]; rfl
 by_cases c0 : o.kind < 0
 ·have e : m9 m.st o now = (m.st, ⟨1, 0, false, 0⟩) := by unfold m9; rw [if_neg (by omega), if_neg (by omega), if_neg (by omega), if_neg (by omega)]
  rw [e]
  simp only [C7]
  (have zz:=trivial;repeat((first|clear zz|with_reducible first|refine A3 ?_|refine A5 fun _=>?_|refine A4 fun _=>?_);try simp(disch:=first|omega|assumption|((repeat(first|exact A1|exact uH|apply A2|apply uT));first|done|fail)|(simp;first|done|omega|fail))[c0, bdF]))
  refine C3 m ⟨by simp [AnsV.val], rfl, rfl⟩ ?_
  simp only [C7]
  (repeat' constructor)
 by_cases c4 : 4 ≤ o.kind
 ·have e : m9 m.st o now = (m.st, ⟨1, 0, false, 0⟩) := by unfold m9; rw [if_neg (by omega), if_neg (by omega), if_neg (by omega), if_neg (by omega)]
  rw [e]
  simp only [C7]
  (have zz:=trivial;repeat((first|clear zz|with_reducible first|refine A3 ?_|refine A5 fun _=>?_|refine A4 fun _=>?_);try simp(disch:=first|omega|assumption|((repeat(first|exact A1|exact uH|apply A2|apply uT));first|done|fail)|(simp;first|done|omega|fail))[c0, c4, bdF]))
  refine C3 m ⟨by simp [AnsV.val], rfl, rfl⟩ ?_
  simp only [C7]
  (repeat' constructor)
 have hk : o.kind = 0 ∨ o.kind = 1 ∨ o.kind = 2 ∨ o.kind = 3 := by omega
 rcases hk with hk | hk | hk | hk
 ·rw [show m9 m.st o now = A2v m.st o.packet now by simp [m9, hk]]
  simp only [C7]
  (have zz:=trivial;repeat((first|clear zz|with_reducible first|refine A3 ?_|refine A5 fun _=>?_|refine A4 fun _=>?_);try simp(disch:=first|omega|assumption|((repeat(first|exact A1|exact uH|apply A2|apply uT));first|done|fail)|(simp;first|done|omega|fail))[hk, bdF]))
  refine E5 (Hc := C7 m) A1w (fun w' hw' hs => by have := B3e w' m o v now hv.form hpk hm hs; rw [OpV.val, hk] at this; exact this) (by simp only [C7]; (repeat' constructor)) ?_
  rintro m' _ ⟨rfl, hb, hst⟩
  simp only [C7]
  (have zz:=trivial;repeat((first|clear zz|with_reducible first|refine A3 ?_|refine A5 fun _=>?_|refine A4 fun _=>?_);try simp(disch:=first|omega|assumption|((repeat(first|exact A1|exact uH|apply A2|apply uT));first|done|fail)|(simp;first|done|omega|fail))[AnsV.val]))
  refine C3 m' ⟨by simp [AnsV.val], hb, hst⟩ ?_
  simp only [C7]
  (repeat' constructor)
 ·rw [show m9 m.st o now = A9E m.st o.pool by simp [m9, hk]]
  simp only [C7]
  (have zz:=trivial;repeat((first|clear zz|with_reducible first|refine A3 ?_|refine A5 fun _=>?_|refine A4 fun _=>?_);try simp(disch:=first|omega|assumption|((repeat(first|exact A1|exact uH|apply A2|apply uT));first|done|fail)|(simp;first|done|omega|fail))[hk, bdF]))
  refine E5 (Hc := C7 m) A3C (fun w' hw' hs => by have := B6e w' m o v now ⟨hv.at (by rw [hS]; exact hw'.ks), hv.off, hv.len, hv.form⟩ hs; rw [OpV.val, hk] at this; exact this) (by simp only [C7]; (repeat' constructor)) ?_
  rintro m' _ ⟨rfl, hb, hst⟩
  simp only [C7]
  (have zz:=trivial;repeat((first|clear zz|with_reducible first|refine A3 ?_|refine A5 fun _=>?_|refine A4 fun _=>?_);try simp(disch:=first|omega|assumption|((repeat(first|exact A1|exact uH|apply A2|apply uT));first|done|fail)|(simp;first|done|omega|fail))[AnsV.val]))
  refine C3 m' ⟨by simp [AnsV.val], hb, hst⟩ ?_
  simp only [C7]
  (repeat' constructor)
 ·rw [show m9 m.st o now = A6D m.st o.shard now by simp [m9, hk]]
  simp only [C7]
  (have zz:=trivial;repeat((first|clear zz|with_reducible first|refine A3 ?_|refine A5 fun _=>?_|refine A4 fun _=>?_);try simp(disch:=first|omega|assumption|((repeat(first|exact A1|exact uH|apply A2|apply uT));first|done|fail)|(simp;first|done|omega|fail))[hk, bdF]))
  refine E5 (Hc := C7 m) A3L (fun w' hw' hs => by have := B5n w' m o v now hv.form hm.toMoOk hs; rw [OpV.val, hk] at this; exact this) (by simp only [C7]; (repeat' constructor)) ?_
  rintro m' _ ⟨rfl, hb, hst⟩
  simp only [C7]
  (have zz:=trivial;repeat((first|clear zz|with_reducible first|refine A3 ?_|refine A5 fun _=>?_|refine A4 fun _=>?_);try simp(disch:=first|omega|assumption|((repeat(first|exact A1|exact uH|apply A2|apply uT));first|done|fail)|(simp;first|done|omega|fail))[AnsV.val]))
  refine C3 m' ⟨by simp [AnsV.val], hb, hst⟩ ?_
  simp only [C7]
  (repeat' constructor)
 ·rw [show m9 m.st o now = B1M m.st by simp [m9, hk]]
  simp only [C7]
  (have zz:=trivial;repeat((first|clear zz|with_reducible first|refine A3 ?_|refine A5 fun _=>?_|refine A4 fun _=>?_);try simp(disch:=first|omega|assumption|((repeat(first|exact A1|exact uH|apply A2|apply uT));first|done|fail)|(simp;first|done|omega|fail))[hk, bdF]))
  refine E5 (Hc := C7 m) A3P (fun w' hw' hs => by have := B7f w' m o v now hv.form hm.toMoOk hs; rw [OpV.val, hk] at this; exact this) (by simp only [C7]; (repeat' constructor)) ?_
  rintro m' _ ⟨rfl, hb, hst⟩
  simp only [C7]
  (have zz:=trivial;repeat((first|clear zz|with_reducible first|refine A3 ?_|refine A5 fun _=>?_|refine A4 fun _=>?_);try simp(disch:=first|omega|assumption|((repeat(first|exact A1|exact uH|apply A2|apply uT));first|done|fail)|(simp;first|done|omega|fail))[AnsV.val]))
  refine C3 m' ⟨by simp [AnsV.val], hb, hst⟩ ?_
  simp only [C7]
  (repeat' constructor)
end Go.Proofs.YtlplkjgcfjdinaaGreat
namespace Go.Proofs.YtlplkjgcfjdinaaGreat
open Go
theorem A7E {l : List EnV} {j : Nat} {x : EnV} (h : M2 l) (hx : x.key.size < 2 ^ 60) : M2 (l.set j x) := fun y hy => by
 rcases List.mem_or_eq_of_mem_set hy with h1 | rfl
 ·exact h y h1
 ·exact hx
theorem B2y (n : Nat) : M2 (newE n) := fun x hx => by
 unfold newE at hx
 rw [(List.mem_replicate.1 hx).2]; simp [u7]
theorem B6Z {a : List EnV} {x : EnV} (h : M2 a) (hx : x.key.size < 2 ^ 60) : M2 (U1 a x) := by
 unfold U1
 cases hp : F9 a x with
 | none => exact h
 | some u => obtain ⟨j, _, rfl⟩ := A7Y hp; exact A7E h hx
theorem B5z {l : List EnV} (h : M2 l) : M2 (Y3 l) := by
 unfold Y3
 have : ∀ (L : List (Nat × EnV)) (a : List EnV), (∀ p ∈ L, p.2.key.size < 2 ^ 60) → M2 a → M2 (L.foldl (fun acc p => U1 acc p.2) a) := by
  intro L
  induction L with
  | nil => intro a _ h; exact h
  | cons p L ih => intro a hL ha; rw [List.foldl_cons]; exact ih _ (fun q hq => hL q (List.mem_cons_of_mem _ hq)) (B6Z ha (hL p (List.mem_cons_self ..)))
 exact this _ _ (fun p hp => h _ (B0Z p hp).1) (B2y _)
theorem B3G {l : List EnV} (h : M2 l) : M2 (H5 l) := by
 unfold H5; split
 ·exact B5z h
 ·exact h
theorem B8W : Q7.key.size < 2 ^ 60 := by simp [Q7]
structure TabOk (n : Nat) (l : List EnV) : Prop where
 len : l.length = n
 few : n ≤ 64
 keys : M2 l
 right : P5 l = true
theorem TabOk.new {n : Nat} (h : n ≤ 64) : TabOk n (newE n) := ⟨by rw [A4A]; omega, h, B2y _, B0g _⟩
theorem TabOk.settle {n : Nat} {l : List EnV} (h : TabOk n l) : TabOk n (H5 l) := ⟨by rw [B5j (by rw [h.len]; exact h.few), h.len], h.few, B3G h.keys, B2N h.right⟩
theorem TabOk.tomb {n : Nat} {l : List EnV} {j : Nat} (h : TabOk n l) (hj : j < l.length) : TabOk n (l.set j Q7) := ⟨by rw [List.length_set, h.len], h.few, A7E h.keys B8W, B5Y hj h.right⟩
theorem TabOk.put {n : Nat} {l u : List EnV} {x : EnV} (h : TabOk n l) (hx : x.key.size < 2 ^ 60) (h1 : x.st = 1) (hp : F9 l x = some u) : TabOk n u :=
 ⟨by rw [A4F hp, h.len], h.few, by obtain ⟨j, _, rfl⟩ := A7Y hp; exact A7E h.keys hx, B0S h1 hp h.right⟩
theorem TabOk.perm {n : Nat} {l : List EnV} (h : TabOk n l) : (B9 (H5 l)).Perm (B9 l) := A9d h.right (by rw [h.len]; exact h.few)
theorem A7D {l : List EnV} {key : ByteArray} (h : 0 ≤ D0 l key) : l[(D0 l key).toNat]? = some (atE l key) ∧ (atE l key).st = 1 ∧ (atE l key).key = key := by
 obtain ⟨x, h1, h2, h3⟩ := B23 (l := l) (key := key) (j := (D0 l key).toNat) (by omega)
 have e : atE l key = x := by unfold atE; rw [List.getD_eq_getElem?_getD, h1]; rfl
 rw [e]; exact ⟨h1, h2, h3⟩
theorem B6G {l u : List EnV} {key : ByteArray} (h : d4 l key = some u) : 0 ≤ D0 l key ∧ (D0 l key).toNat < l.length ∧ u = l.set (D0 l key).toNat Q7 ∧ (atE l key :: B9 u).Perm (B9 l) := by
 unfold d4 at h
 split at h
 ·cases h
 ·rename_i c
  injection h with h
  subst h
  have h0 : 0 ≤ D0 l key := by omega
  obtain ⟨h1, h2, h3⟩ := A7D h0
  have hs := A0e (x := Q7) h1
  unfold A4J at hs
  rw [if_pos h2, if_neg (by simp [Q7])] at hs
  exact ⟨h0, A0P h0, rfl, by simpa using hs⟩
theorem B5Z {l u : List EnV} {x : EnV} (h1 : x.st = 1) (hp : F9 l x = some u) : (0 ≤ D0 l x.key ∧ (atE l x.key :: B9 u).Perm (x :: B9 l)) ∨ (D0 l x.key < 0 ∧ (B9 u).Perm (x :: B9 l)) := by
 obtain ⟨j, hj, rfl, hf, hc⟩ := A54 hp h1
 have hj1 : l[j]? = some l[j] := List.getElem?_eq_getElem hj
 have hs := A0e (x := x) hj1
 unfold A4J at hs
 rw [if_pos h1] at hs
 rcases hc with hc | ⟨hc, hr⟩
 ·left
  have h0 : 0 ≤ D0 l x.key := by omega
  obtain ⟨e1, e2, e3⟩ := A7D h0
  have : (D0 l x.key).toNat = j := by omega
  rw [this, hj1] at e1
  injection e1 with e1
  rw [e1, if_pos e2] at hs
  exact ⟨h0, by simpa using hs⟩
 ·right
  refine ⟨hc, ?_⟩
  have hm : ∀ L, M3 L = (j : Nat) → ∃ y, (j, y) ∈ L ∧ y.st ≠ 1 := by
   intro L
   induction L with
   | nil => intro h; simp [M3] at h <;> omega
   | cons p L ih =>
    intro h
    simp only [M3] at h
    split at h
    ·obtain ⟨y, h1, h2⟩ := ih h; exact ⟨y, List.mem_cons_of_mem _ h1, h2⟩
    ·rename_i c2
     have : p.1 = j := by omega
     exact ⟨p.2, by rw [← this]; simp, c2⟩
  obtain ⟨y, h2, h3⟩ := hm _ hr
  have h4 := A7S h2
  rw [hj1] at h4
  injection h4 with h4
  rw [if_neg (by rw [h4]; exact h3)] at hs
  simpa using hs
structure Decided (l u : List EnV) (key : ByteArray) (made : Bool) : Prop where
 up : (B9 u).length ≤ (B9 l).length + 1
 down : (B9 l).length ≤ (B9 u).length + 1
 new : (B9 l).length < (B9 u).length → made = true
 from' : ∀ x ∈ B9 u, x ∈ B9 l ∨ x.key = key
theorem Decided.refl (l : List EnV) (key : ByteArray) (made : Bool) : Decided l l key made := ⟨by omega, by omega, by omega, fun x hx => Or.inl hx⟩
theorem B4u {l : List EnV} {p : List J0} {key : ByteArray} {now : Int} (h : D0 l key < 0) : (T3 l p key now).2 = false := by
 unfold T3; rw [if_pos (Or.inl h)]
theorem B5E {n : Nat} {l : List EnV} {p : List J0} {key : ByteArray} {closing : Bool} {now idle : Int} (h : TabOk n l) (hk : key.size < 2 ^ 60) :
  TabOk n (D5 l p key closing now idle).1 ∧ Decided l (D5 l p key closing now idle).1 key (D5 l p key closing now idle).2.1.made := by
 unfold D5
 split
 ·exact ⟨h, .refl _ _ _⟩
 ·split
  ·unfold A1z
   cases hd : d4 l key with
   | none => exact ⟨h, .refl _ _ _⟩
   | some u =>
    obtain ⟨h0, hlt, rfl, hp⟩ := B6G hd
    have ht := h.tomb hlt
    have hp2 := (ht.perm.cons (atE l key)).trans hp
    have hl := hp2.length_eq
    simp only [List.length_cons] at hl
    exact ⟨ht.settle, by simp only; omega, by simp only; omega, fun h => by simp only at h; omega, fun x hx => Or.inl (hp2.subset (List.mem_cons_of_mem _ hx))⟩
  ·cases hp : F9 l (A9q l p key now idle) with
   | none => exact ⟨h, .refl _ _ _⟩
   | some u =>
    refine ⟨h.put hk rfl hp, ?_⟩
    rcases B5Z (x := A9q l p key now idle) rfl hp with ⟨h0, h1⟩ | ⟨h0, h1⟩
    ·have hl := h1.length_eq
     simp only [List.length_cons] at hl
     exact ⟨by simp only; omega, by simp only; omega, fun h => by simp only at h; omega, fun x hx => by
      rcases List.mem_cons.1 (h1.subset (List.mem_cons_of_mem _ hx)) with rfl | h2
      ·exact Or.inr rfl
      ·exact Or.inl h2⟩
    ·have hl := h1.length_eq
     simp only [List.length_cons] at hl
     exact ⟨by simp only; omega, by simp only; omega, fun h => by simp [B4u (p := p) (now := now) (show D0 l key < 0 from h0)], fun x hx => by
      rcases List.mem_cons.1 (h1.subset hx) with rfl | h2
      ·exact Or.inr rfl
      ·exact Or.inl h2⟩
def y0 (now : Int) (l u : List EnV) (k : Nat) : Prop := ∃ r, (r ++ B9 u).Perm (B9 l) ∧ (∀ x ∈ r, A2E x now = true) ∧ r.length = k
theorem y0.trans {now : Int} {a b c : List EnV} {i j : Nat} (h : y0 now a b i) (h' : y0 now b c j) : y0 now a c (i + j) := by
 obtain ⟨r, h1, h2, h3⟩ := h
 obtain ⟨s, h4, h5, h6⟩ := h'
 refine ⟨r ++ s, ?_, ?_, by rw [List.length_append, h3, h6]⟩
 ·rw [List.append_assoc]; exact (h4.append_left r).trans h1
 ·intro x hx
  rcases List.mem_append.1 hx with hx | hx
  ·exact h2 x hx
  ·exact h5 x hx
theorem B7u {n : Nat} {l : List EnV} {now : Int} {c j : Nat} (h : TabOk n l) (hj : j < l.length) : TabOk n (N0 now (l, c) j).1 ∧ ∃ k, (N0 now (l, c) j).2 = c + k ∧ y0 now l (N0 now (l, c) j).1 k ∧ (∀ i x, (N0 now (l, c) j).1[i]? = some x → A2E x now = true → i ≠ j ∧ l[i]? = some x) := by
 have hj1 : l[j]? = some l[j] := List.getElem?_eq_getElem hj
 have hd : l.getD j u7 = l[j] := by rw [List.getD_eq_getElem?_getD, hj1]; rfl
 unfold N0
 simp only [hd]
 by_cases c1 : A2E l[j] now = true
 ·rw [if_pos c1]
  have hst : l[j].st = 1 := by unfold A2E at c1; simp at c1; exact c1.1
  have hs := A0e (x := Q7) hj1
  unfold A4J at hs
  rw [if_pos hst, if_neg (by simp [Q7])] at hs
  refine ⟨h.tomb hj, 1, rfl, ⟨[l[j]], by simpa using hs, by simpa using c1, rfl⟩, fun i x hx hdx => ?_⟩
  rcases getElem?_set_some hx with ⟨_, rfl⟩ | h2
  ·simp [A2E, Q7] at hdx
  ·exact h2
 ·rw [if_neg c1]
  refine ⟨h, 0, rfl, ⟨[], by simp, by simp, rfl⟩, fun i x hx hdx => ⟨fun e => ?_, hx⟩⟩
  subst e
  rw [hj1] at hx
  injection hx with hx
  rw [hx] at c1
  exact c1 hdx
theorem B9p {n : Nat} {now : Int} : ∀ (L : List Nat) (l : List EnV) (c : Nat), TabOk n l → (∀ j ∈ L, j < n) → TabOk n (L.foldl (N0 now) (l, c)).1 ∧ ∃ k, (L.foldl (N0 now) (l, c)).2 = c + k ∧ y0 now l (L.foldl (N0 now) (l, c)).1 k ∧ (∀ i x, (L.foldl (N0 now) (l, c)).1[i]? = some x → A2E x now = true → i ∉ L ∧ l[i]? = some x) := by
 intro L
 induction L with
 | nil => intro l c h _; exact ⟨h, 0, rfl, ⟨[], by simp, by simp, rfl⟩, fun i x hx _ => ⟨by simp, hx⟩⟩
 | cons j L ih =>
  intro l c h hL
  obtain ⟨h1, k, h2, h3, h3'⟩ := B7u (now := now) (c := c) h (by rw [h.len]; exact hL j (List.mem_cons_self ..))
  obtain ⟨h4, k', h5, h6, h6'⟩ := ih (N0 now (l, c) j).1 (N0 now (l, c) j).2 h1 fun q hq => hL q (List.mem_cons_of_mem _ hq)
  rw [List.foldl_cons]
  refine ⟨h4, k + k', by rw [h5, h2]; omega, h3.trans h6, fun i x hx hd => ?_⟩
  obtain ⟨a, b⟩ := h6' i x hx hd
  obtain ⟨c, d⟩ := h3' i x b hd
  exact ⟨by simp [a, c], d⟩
theorem y0.zero {now : Int} {l u : List EnV} (h : (B9 u).Perm (B9 l)) : y0 now l u 0 := ⟨[], h, by simp, rfl⟩
theorem B7A {f n m : Nat} (hm : 0 < m) : ∀ j ∈ H6 f n m, j < m := fun j hj => by
 unfold H6 at hj
 obtain ⟨i, _, rfl⟩ := List.mem_map.1 hj
 exact Nat.mod_lt _ hm
theorem B6F {n : Nat} {l : List EnV} {f k now : Int} (h : TabOk n l) (hn : 0 < n) : TabOk n (M1 l f k now).1 ∧ y0 now l (M1 l f k now).1 (M1 l f k now).2.2 := by
 obtain ⟨h1, q, h2, h3⟩ : TabOk n (A33 l (P9 l f) (r6 l k) now).1 ∧ ∃ q, (A33 l (P9 l f) (r6 l k) now).2 = q ∧ y0 now l (A33 l (P9 l f) (r6 l k) now).1 q := by
  obtain ⟨h1, q, h2, h3, _⟩ := B9p (now := now) (H6 (P9 l f) (r6 l k) l.length) l 0 h (by rw [← h.len]; exact B7A (by rw [h.len]; exact hn))
  exact ⟨h1, q, by rw [Nat.zero_add] at h2; exact h2, h3⟩
 unfold M1
 simp only
 by_cases c : 0 < (A33 l (P9 l f) (r6 l k) now).2
 ·rw [if_pos c]
  refine ⟨h1.settle, ?_⟩
  have := h3.trans (y0.zero (now := now) h1.perm)
  rw [h2]; simpa using this
 ·rw [if_neg c]
  exact ⟨h1, by rw [h2]; exact h3⟩
structure Inv (c : CfgV) (s : MoS) : Prop where
 cfg : s.c = c
 ok : S8 c = true
 pool : Z4 s.pool = 0
 sh : (s.tabs.length : Int) = c.sh
 tab : ∀ t ∈ s.tabs, TabOk c.cp.toNat t.1
 own : ∀ (i : Nat) t, s.tabs[i]? = some t → ∀ x ∈ B9 t.1, S3 x.key c.sh = i
theorem A4j {c : CfgV} (h : S8 c = true) : 1 ≤ c.wk ∧ c.wk ≤ 64 ∧ 1 ≤ c.sh ∧ c.sh ≤ 16 ∧ 1 ≤ c.cp ∧ c.cp ≤ 64 ∧ 0 ≤ c.idle ∧ c.idle ≤ 1000000 := by
 simp [S8, j3] at h; omega
theorem Inv.new {c : CfgV} (h : S8 c = true) : Inv c ⟨c, [], r8 c⟩ := by
 have hb := A4j h
 refine ⟨rfl, h, rfl, by simp [r8]; omega, fun t ht => ?_, fun i t ht x hx => ?_⟩
 ·rw [r8] at ht
  rw [(List.mem_replicate.1 ht).2]
  exact TabOk.new (by omega)
 ·have ht := List.mem_of_getElem? ht
  rw [r8] at ht
  rw [(List.mem_replicate.1 ht).2, A0g] at hx
  cases hx
theorem B57 {key : ByteArray} {n : Int} (h : 1 ≤ n) : S3 key n < n.toNat := by
 unfold S3; rw [if_neg (by omega)]; exact Nat.mod_lt _ (by omega)
theorem Inv.set {c : CfgV} {s : MoS} (h : Inv c s) {i : Nat} {t u : List EnV × Nat} (ht : s.tabs[i]? = some t) (hu : TabOk c.cp.toNat u.1) (hf : ∀ x ∈ B9 u.1, x ∈ B9 t.1 ∨ S3 x.key c.sh = i) : Inv c { s with tabs := s.tabs.set i u } := by
 refine ⟨h.cfg, h.ok, h.pool, by rw [List.length_set]; exact h.sh, fun v hv => ?_, fun j v hv x hx => ?_⟩
 ·rcases List.mem_or_eq_of_mem_set hv with h1 | rfl
  ·exact h.tab v h1
  ·exact hu
 ·rcases getElem?_set_some hv with ⟨rfl, rfl⟩ | ⟨_, h2⟩
  ·rcases hf x hx with h1 | h1
   ·exact h.own j t ht x h1
   ·exact h1
  ·exact h.own j v h2 x hx
theorem Inv.at {c : CfgV} {s : MoS} (h : Inv c s) {i : Nat} (hi : i < c.sh.toNat) : s.tabs[i]? = some (s.tabs.getD i ([], 0)) := getD_some _ (by have := h.sh; omega)
theorem Inv.do' {c : CfgV} {s : MoS} (h : Inv c s) (o : OpV) (now : Int) : Inv c (m9 s o now).1 := by
 have hb := A4j h.ok
 obtain ⟨sc, sp, st⟩ := s
 obtain rfl : sc = c := h.cfg
 unfold m9
 split
 ·unfold A2v
  simp only
  split
  ·exact h
  ·have hi := B57 (key := A7m (D1 o.packet).1) hb.2.2.1
   have hat := h.at hi
   have ht := h.tab _ (List.mem_of_getElem? hat)
   obtain ⟨h1, h2⟩ := B5E (p := sp) (closing := k4 (D1 o.packet).1 (D1 o.packet).2.1) (now := now) (idle := sc.idle) ht (B0U (D1 o.packet).1)
   exact h.set (u := (_, _)) hat h1 fun x hx => by
    rcases h2.from' x hx with h3 | h3
    ·exact Or.inl h3
    ·exact Or.inr (by rw [h3])
 split
 ·unfold A9E
  split
  ·rename_i hc
   exact ⟨h.cfg, h.ok, hc, h.sh, h.tab, h.own⟩
  ·exact h
 split
 ·unfold A6D
  split
  ·exact h
  ·rename_i hc
   have hat := h.at (i := o.shard.toNat) (by have := h.sh; omega)
   have ht := h.tab _ (List.mem_of_getElem? hat)
   simp only
   obtain ⟨h1, h2⟩ := B6F (f := (st.getD o.shard.toNat ([], 0)).2) (k := 4) (now := now) ht (by omega)
   refine h.set (u := (_, _)) hat h1 fun x hx => ?_
   obtain ⟨r, h3, _⟩ := h2
   exact Or.inl (h3.subset (List.mem_append_right _ hx))
 split
 ·exact h
 ·exact h
theorem Inv.ok2 {m : MoH} {c : CfgV} (h : Inv c m.st) : MoOk2 m := by
 have hb := A4j h.ok
 have hl : m.st.tabs.length = m.ts.length := by simp [MoH.st]
 have hsh := h.sh
 have hm : ∀ t ∈ m.ts, TabOk c.cp.toNat t.1.2 := fun t ht => h.tab (t.1.2, t.2) (List.mem_map.2 ⟨t, ht, rfl⟩)
 have hc : m.c = c := h.cfg
 have hp := h.pool
 refine ⟨⟨by omega, fun t ht => by rw [(hm t ht).len]; omega, fun t ht => (hm t ht).keys⟩, ?_, by rw [hc]; omega, by omega⟩
 have : m.st.pool = m.pool := rfl
 rw [this] at hp
 unfold Z4 at hp
 split at hp
 ·rename_i hc; simp at hc; omega
 ·cases hp
end Go.Proofs.YtlplkjgcfjdinaaGreat
namespace Go.Proofs.YtlplkjgcfjdinaaGreat
open Go
section
variable {κ : Bool} {S : List Nat} {w0 w : World} {H Hk : List Res} {K : Value → WP}
theorem Part.skip {x : Res} {Hc : List Res} (h : Part Hc H Hk) : Part Hc (x :: H) (x :: Hk) := by
 induction h with
 | nil => exact Part.nil
 | cons h1 _ ih => exact Part.cons (Sel.there h1) ih
theorem B73 {v : Value} {n : Nat} {xs : List Value} (h : E4 w v n xs) (hn : 0 < n → 0 < xs.length) : 0 < n → ∀ g ∈ K7 v, g < sz w := fun h0 g hg => by
 obtain ⟨a, c, rfl, hr⟩ := h.form
 obtain ⟨b, o, rfl, hrow⟩ := hr h0
 simp only [K7, List.mem_cons, List.not_mem_nil, or_false] at hg
 subst hg
 have h1 := hrow 0 (hn h0)
 rw [List.getElem?_eq_getElem (hn h0)] at h1
 obtain ⟨c', t', z', h1, h2⟩ := Z8 h1
 exact G4 h1
theorem Inv.tabs {c : CfgV} {m : MoH} (hi : Inv c m.st) : ∀ t ∈ m.ts, TabOk c.cp.toNat t.1.2 := fun t ht => hi.tab (t.1.2, t.2) (List.mem_map.2 ⟨t, ht, rfl⟩)
theorem C2u {c : CfgV} (h0 : S8 c = false → TW false S w0 H (K (.tuple #[.pointer none, .int .i64 1])))
  (h1 : ∀ m : MoH, S8 c = true → m.st = ⟨c, [], r8 c⟩ → Inv c m.st → TW false S w0 (C7 m ++ H) (K (.tuple #[.pointer (some ⟨m.b, 0, none⟩), .int .i64 0]))) : TW false S w0 H (B7 PR B5 24 [c.val] K) := by
 refine G8 B03 (fun w' _ => B9w w' c) ?_
 rintro m u hm
 cases hc : S8 c with
 | false =>
  simp only [hc, Bool.false_eq_true, if_false] at hm ⊢
  subst hm
  exact h0 hc
 | true =>
  simp only [hc, if_true] at hm ⊢
  obtain ⟨rfl, hmc, hmp, hmt⟩ := hm
  have e : m.st = ⟨c, [], r8 c⟩ := by unfold MoH.st; rw [hmc, hmp, hmt]
  exact h1 m hc e (by rw [e]; exact Inv.new hc)
end
end Go.Proofs.YtlplkjgcfjdinaaGreat
namespace Go.Proofs.YtlplkjgcfjdinaaGreat
open Go
def A4b (o : OpV × Value) : List Value := [.int .i64 o.1.kind, .string o.1.packet, o.2, .int .i64 o.1.shard]
def C07 (o : OpV × Value) : Prop := ∃ a c, o.2 = .slice a o.1.pool.length c
def A1n (c : CfgV) : Bool := decide (c.wk ≤ 6) && decide (c.sh ≤ 6) && decide (c.cp ≤ 12)
def A7p (o : OpV) : Bool := decide (o.packet.size ≤ 100) && decide (o.pool.length ≤ 8)
def g4 (l : List OpV) (most : Int) : Bool := decide ((l.length : Int) ≤ most) && l.all A7p
theorem B7x (w : World) (c : CfgV) : Fn PR B5 19 #[c.val] w (fun r w' => r = .bool (A1n c) ∧ C6 [] w w') := by
 refine Fn.pure (A2J (TW.go (κ := false) (S := []) ?_))
 unfold p3
 simp only [CfgV.val]
 by_cases c1 : c.wk ≤ 6
 ·by_cases c2 : c.sh ≤ 6
  ·(have zz:=trivial;repeat((first|clear zz|with_reducible first|refine A3 ?_|refine A5 fun _=>?_|refine A4 fun _=>?_);try simp(disch:=first|omega|assumption|((repeat(first|exact A1|exact uH|apply A2|apply uT));first|done|fail)|(simp;first|done|omega|fail))[c1, c2]))
   exact A9 (by simp [A1n, c1, c2])
  ·(have zz:=trivial;repeat((first|clear zz|with_reducible first|refine A3 ?_|refine A5 fun _=>?_|refine A4 fun _=>?_);try simp(disch:=first|omega|assumption|((repeat(first|exact A1|exact uH|apply A2|apply uT));first|done|fail)|(simp;first|done|omega|fail))[c1, c2]))
   exact A9 (by simp [A1n, c1, c2])
 ·(have zz:=trivial;repeat((first|clear zz|with_reducible first|refine A3 ?_|refine A5 fun _=>?_|refine A4 fun _=>?_);try simp(disch:=first|omega|assumption|((repeat(first|exact A1|exact uH|apply A2|apply uT));first|done|fail)|(simp;first|done|omega|fail))[c1]))
  exact A9 (by simp [A1n, c1])
theorem B7L (w : World) (v : Value) (l : List (OpV × Value)) (most : Int) (hn : l.length ≤ 9223372036854775807) (hv : E4 w v l.length (l.flatMap A4b)) (hp : ∀ o ∈ l, C07 o) :
  Fn PR B5 18 #[v, .int .i64 most] w (fun r w' => r = .bool (g4 (l.map (·.1)) most) ∧ C6 [] w w') := by
 refine Fn.pure (A3N (TW.go (κ := false) (S := []) ?_))
 unfold x4
 obtain ⟨a, c, rfl, hr⟩ := hv.form
 by_cases c0 : most < (l.length : Int)
 ·(have zz:=trivial;repeat((first|clear zz|with_reducible first|refine A3 ?_|refine A5 fun _=>?_|refine A4 fun _=>?_);try simp(disch:=first|omega|assumption|((repeat(first|exact A1|exact uH|apply A2|apply uT));first|done|fail)|(simp;first|done|omega|fail))[c0]))
  exact A9 (by simp [g4]; omega)
 (have zz:=trivial;repeat((first|clear zz|with_reducible first|refine A3 ?_|refine A5 fun _=>?_|refine A4 fun _=>?_);try simp(disch:=first|omega|assumption|((repeat(first|exact A1|exact uH|apply A2|apply uT));first|done|fail)|(simp;first|done|omega|fail))[c0]))
 refine q7 l.length (fun _ _ => .bool false) (fun _ (_ : Unit) => []) (fun i _ => ∀ (j : Nat) x, j < i → l[j]? = some x → A7p x.1 = true) () (by intros; omega) ?_
 rintro i _ hi hφ L hL
 by_cases hlt : i < l.length
 ·have hx := List.getElem?_eq_getElem hlt
  obtain ⟨b, o, rfl, hrow⟩ := hr (by omega)
  have h1 := hrow.cellAt (f := A4b) (k := 4) (j := 1) (fun _ => rfl) hx rfl
  have h2 := hrow.cellAt (f := A4b) (k := 4) (j := 2) (fun _ => rfl) hx rfl
  obtain ⟨pa, pc, hpl⟩ := hp l[i] (List.getElem_mem hlt)
  rw [hpl] at h2
  have bad : A7p l[i].1 = false → g4 (l.map (·.1)) most = false := fun h => by
   unfold g4
   rw [Bool.and_eq_false_iff]; right
   rw [List.all_eq_false]
   exact ⟨l[i].1, List.mem_map_of_mem (List.getElem_mem hlt), by simp [h]⟩
  by_cases c1 : (100 : Int) < l[i].1.packet.size
  ·(have zz:=trivial;repeat((first|clear zz|with_reducible first|refine A3 ?_|refine A5 fun _=>?_|refine A4 fun _=>?_);try simp(disch:=first|omega|assumption|((repeat(first|exact A1|exact uH|apply A2|apply uT));first|done|fail)|(simp;first|done|omega|fail))[hlt, h1, h2, c1]))
   exact A9 (by rw [bad (by simp [A7p]; omega)])
  by_cases c2 : (8 : Int) < l[i].1.pool.length
  ·(have zz:=trivial;repeat((first|clear zz|with_reducible first|refine A3 ?_|refine A5 fun _=>?_|refine A4 fun _=>?_);try simp(disch:=first|omega|assumption|((repeat(first|exact A1|exact uH|apply A2|apply uT));first|done|fail)|(simp;first|done|omega|fail))[hlt, h1, h2, c1, c2]))
   exact A9 (by rw [bad (by simp [A7p]; omega)])
  (have zz:=trivial;repeat((first|clear zz|with_reducible first|refine A3 ?_|refine A5 fun _=>?_|refine A4 fun _=>?_);try simp(disch:=first|omega|assumption|((repeat(first|exact A1|exact uH|apply A2|apply uT));first|done|fail)|(simp;first|done|omega|fail))[hlt, h1, h2, c1, c2]))
  refine hL hlt () fun j x hj hx' => ?_
  by_cases e : j < i
  ·exact hφ j x e hx'
  ·obtain rfl : j = i := by omega
   rw [hx] at hx'; injection hx' with hx'; subst hx'
   simp [A7p]; omega
 ·(have zz:=trivial;repeat((first|clear zz|with_reducible first|refine A3 ?_|refine A5 fun _=>?_|refine A4 fun _=>?_);try simp(disch:=first|omega|assumption|((repeat(first|exact A1|exact uH|apply A2|apply uT));first|done|fail)|(simp;first|done|omega|fail))[hlt]))
  refine A9 ?_
  have : g4 (l.map (·.1)) most = true := by
   unfold g4
   rw [Bool.and_eq_true]
   refine ⟨by simp; omega, ?_⟩
   rw [List.all_eq_true]
   intro x hx
   obtain ⟨y, hy, rfl⟩ := List.mem_map.1 hx
   obtain ⟨j, hj, e⟩ := List.getElem_of_mem hy
   exact hφ j y (by omega) (by simp [hj, e])
  rw [this]
end Go.Proofs.YtlplkjgcfjdinaaGreat
namespace Go.Proofs.YtlplkjgcfjdinaaGreat
open Go Go.ChangeShapes Go.WideShapes Go.ChangeAt Go.RowKit
set_option maxRecDepth 10000
section
variable {H : Type} {enc : TypeId × Value → H} {w : World} {base : Nat} {spare : Nat → Bool} {held : Bool} {fuel : Nat} {cs : List Value} {x : DataW H × List MemPlace}
theorem B8g (h : DataW.trod enc PR w base spare held fuel 23 cs = some x) : ∃ c : CfgV, cs = [.int .i64 c.wk, .int .i64 c.sh, .int .i64 c.cp, .int .i64 c.idle, .int .i64 c.sl] ∧ True := by
 obtain ⟨xs, n, _, rfl, hl, hxl, hf⟩ := DataW.trod_struct A28.und h
 have hl4 : cs.length = 5 := hl.trans (by kernel_rfl)
 have hx4 : xs.length = 5 := hxl.trans (by kernel_rfl)
 match cs, hl4 with
 | [c0, c1, c2, c3, c4], _ =>
  have f0 := hf 0 _ rfl
  have f1 := hf 1 _ rfl
  have f2 := hf 2 _ rfl
  have f3 := hf 3 _ rfl
  have f4 := hf 4 _ rfl
  rw [List.getElem?_eq_getElem (by omega)] at f0 f1 f2 f3 f4
  obtain ⟨a0, e0, _⟩ := G0 Tryz.underlying3 f0
  obtain ⟨a1, e1, _⟩ := G0 Tryz.underlying3 f1
  obtain ⟨a2, e2, _⟩ := G0 Tryz.underlying3 f2
  obtain ⟨a3, e3, _⟩ := G0 Tryz.underlying3 f3
  obtain ⟨a4, e4, _⟩ := G0 Tryz.underlying3 f4
  have e0 : [c0] = [.int .i64 a0] := e0
  have e1 : [c1] = [.int .i64 a1] := e1
  have e2 : [c2] = [.int .i64 a2] := e2
  have e3 : [c3] = [.int .i64 a3] := e3
  have e4 : [c4] = [.int .i64 a4] := e4
  cases e0; cases e1; cases e2; cases e3; cases e4
  exact ⟨⟨a0, a1, a2, a3, a4⟩, rfl, trivial⟩
theorem B9s (h : DataW.trod enc PR w base spare held fuel 52 cs = some x) : ∃ o : OpV × Value, cs = A4b o ∧ E4 w o.2 o.1.pool.length (o.1.pool.flatMap G2) := by
 obtain ⟨xs, n, _, rfl, hl, hxl, hf⟩ := DataW.trod_struct A4H.und h
 have hl4 : cs.length = 4 := hl.trans (by kernel_rfl)
 have hx4 : xs.length = 4 := hxl.trans (by kernel_rfl)
 match cs, hl4 with
 | [c0, c1, c2, c3], _ =>
  have f0 := hf 0 _ rfl
  have f1 := hf 1 _ rfl
  have f2 := hf 2 _ rfl
  have f3 := hf 3 _ rfl
  rw [List.getElem?_eq_getElem (by omega)] at f0 f1 f2 f3
  obtain ⟨a0, e0, _⟩ := G0 Tryz.underlying3 f0
  obtain ⟨a1, e1, _⟩ := B5l Tryz.underlying9 f1
  obtain ⟨v, l, e2, hv, _⟩ := B7F f2
  obtain ⟨a3, e3, _⟩ := G0 Tryz.underlying3 f3
  have e0 : [c0] = [.int .i64 a0] := e0
  have e1 : [c1] = [.string a1] := e1
  have e2 : [c2] = [v] := e2
  have e3 : [c3] = [.int .i64 a3] := e3
  cases e0; cases e1; cases e2; cases e3
  exact ⟨(⟨a0, a1, l, a3⟩, c2), rfl, hv⟩
end
end Go.Proofs.YtlplkjgcfjdinaaGreat
namespace Go.Proofs.YtlplkjgcfjdinaaGreat
open Go
structure RecV where
 th : Int
 op : Int
 st : Int
 tk : Int
 en : Int
 nw : Int
 an : AnsV
 deriving DecidableEq
def F4 (x : RecV) : List Value := [.int .i64 x.th, .int .i64 x.op, .int .i64 x.st, .int .i64 x.tk, .int .i64 x.en, .int .i64 x.nw, .int .i64 x.an.err, .int .i64 x.an.bk, .bool x.an.made, .int .i64 x.an.count]
def RecV.cs (x : RecV) : Array Value := #[.int .i64 x.th, .int .i64 x.op, .int .i64 x.st, .int .i64 x.tk, .int .i64 x.en, .int .i64 x.nw, .int .i64 x.an.err, .int .i64 x.an.bk, .bool x.an.made, .int .i64 x.an.count]
def RecV.val (x : RecV) : Value := .agg x.cs
def z6 : RecV := ⟨0, 0, 0, 0, 0, 0, ⟨0, 0, false, 0⟩⟩
def E9 (l : List RecV) (i : Nat) : Int := (l.getD i z6).tk
abbrev N3 := Value × List (OpV × Value)
def A16 (t : N3) : List Value := [t.1]
structure ThRd (w : World) (t : N3) : Prop where
 rd : E4 w t.1 t.2.length (t.2.flatMap A4b)
 pool : ∀ o ∈ t.2, E4 w o.2 o.1.pool.length (o.1.pool.flatMap G2)
 len : t.2.length ≤ 9223372036854775807
theorem A88 {l : List RecV} {i : Nat} (h : i < l.length) : E9 l i = l[i].tk := by simp [E9, List.getD_eq_getElem?_getD, List.getElem?_eq_getElem h]
end Go.Proofs.YtlplkjgcfjdinaaGreat
namespace Go.Proofs.YtlplkjgcfjdinaaGreat
open Go Go.ChangeShapes Go.WideShapes Go.ChangeAt Go.RowKit
set_option maxRecDepth 10000
section
variable {H : Type} {enc : TypeId × Value → H} {w : World} {base : Nat} {spare : Nat → Bool} {held : Bool} {fuel : Nat} {cs : List Value} {x : DataW H × List MemPlace}
theorem B40 {P : Program} {t : TypeId} (ht : P.underlying t = some .bool) (h : DataW.trod enc P w base spare held fuel t cs = some x) : ∃ b : Bool, cs = [.bool b] := by
 obtain ⟨b, h1, h2⟩ := DataW.trod_bool ht h
 exact ⟨b, h1⟩
theorem B8c (h : DataW.trod enc PR w base spare held fuel 44 cs = some x) : ∃ a : AnsV, cs = [.int .i64 a.err, .int .i64 a.bk, .bool a.made, .int .i64 a.count] := by
 obtain ⟨xs, n, _, rfl, hl, hxl, hf⟩ := DataW.trod_struct A4N.und h
 have hl4 : cs.length = 4 := hl.trans (by kernel_rfl)
 have hx4 : xs.length = 4 := hxl.trans (by kernel_rfl)
 match cs, hl4 with
 | [c0, c1, c2, c3], _ =>
  have f0 := hf 0 _ rfl
  have f1 := hf 1 _ rfl
  have f2 := hf 2 _ rfl
  have f3 := hf 3 _ rfl
  rw [List.getElem?_eq_getElem (by omega)] at f0 f1 f2 f3
  obtain ⟨a0, e0, _⟩ := G0 Tryz.underlying42 f0
  obtain ⟨a1, e1, _⟩ := G0 Tryz.underlying3 f1
  obtain ⟨a2, e2⟩ := B40 Tryz.underlying4 f2
  obtain ⟨a3, e3, _⟩ := G0 Tryz.underlying3 f3
  have e0 : [c0] = [.int .i64 a0] := e0
  have e1 : [c1] = [.int .i64 a1] := e1
  have e2 : [c2] = [.bool a2] := e2
  have e3 : [c3] = [.int .i64 a3] := e3
  cases e0; cases e1; cases e2; cases e3
  exact ⟨⟨a0, a1, a2, a3⟩, rfl⟩
theorem B8n (h : DataW.trod enc PR w base spare held fuel 46 cs = some x) : ∃ r : RecV, cs = F4 r ∧ True := by
 obtain ⟨xs, n, _, rfl, hl, hxl, hf⟩ := DataW.trod_struct B7l.und h
 have hl4 : cs.length = 10 := hl.trans (by kernel_rfl)
 have hx4 : xs.length = 7 := hxl.trans (by kernel_rfl)
 match cs, hl4 with
 | [c0, c1, c2, c3, c4, c5, c6, c7, c8, c9], _ =>
  have f0 := hf 0 _ rfl
  have f1 := hf 1 _ rfl
  have f2 := hf 2 _ rfl
  have f3 := hf 3 _ rfl
  have f4 := hf 4 _ rfl
  have f5 := hf 5 _ rfl
  have f6 := hf 6 _ rfl
  rw [List.getElem?_eq_getElem (by omega)] at f0 f1 f2 f3 f4 f5 f6
  obtain ⟨a0, e0, _⟩ := G0 Tryz.underlying3 f0
  obtain ⟨a1, e1, _⟩ := G0 Tryz.underlying3 f1
  obtain ⟨a2, e2, _⟩ := G0 Tryz.underlying3 f2
  obtain ⟨a3, e3, _⟩ := G0 Tryz.underlying3 f3
  obtain ⟨a4, e4, _⟩ := G0 Tryz.underlying3 f4
  obtain ⟨a5, e5, _⟩ := G0 Tryz.underlying3 f5
  obtain ⟨a6, e6⟩ := B8c f6
  have e0 : [c0] = [.int .i64 a0] := e0
  have e1 : [c1] = [.int .i64 a1] := e1
  have e2 : [c2] = [.int .i64 a2] := e2
  have e3 : [c3] = [.int .i64 a3] := e3
  have e4 : [c4] = [.int .i64 a4] := e4
  have e5 : [c5] = [.int .i64 a5] := e5
  have g6 : [c6, c7, c8, c9] = [.int .i64 a6.err, .int .i64 a6.bk, .bool a6.made, .int .i64 a6.count] := e6
  cases e0; cases e1; cases e2; cases e3; cases e4; cases e5
  clear e6
  simp only [List.cons.injEq, and_true] at g6
  obtain ⟨rfl, rfl, rfl, rfl⟩ := g6
  exact ⟨⟨a0, a1, a2, a3, a4, a5, a6⟩, rfl, trivial⟩
theorem B06 {r : Reach} {b0 : Nat} {v : Value} {d : DataW H} {ps : List MemPlace} (hval : Value.okWide PR w r b0 28 v) (hd : DataW.Trod enc PR w base spare held 28 v d ps) : ∃ l : List RecV, E4 w v l.length (l.flatMap F4) ∧ True ∧ l.length ≤ maxLen := by
 obtain ⟨l, h1, h2, h3⟩ := B5V (f := F4) (Q := fun l => (∀ a ∈ l, True) ∧ l.length ≤ maxLen) Tryz.underlying28 hval hd fun _ _ _ h => A6a (f := F4) (k := 10) (Q := fun _ => True) (fun _ => rfl) (by omega) Tryz.underlying28 (by kernel_rfl) h (fun n cs' y hy => B8n hy)
 exact ⟨l, h1, trivial, h3⟩
theorem B71 (h : DataW.trod enc PR w base spare held fuel 53 cs = some x) : ∃ t : N3, cs = A16 t ∧ ThRd w t := by
 obtain ⟨v, l, h1, h2, h3, h4⟩ := A6a (f := A4b) (k := 4) (Q := fun o => E4 w o.2 o.1.pool.length (o.1.pool.flatMap G2)) (fun _ => rfl) (by omega) Tryz.underlying53 (by kernel_rfl) h (fun n cs' y hy => B9s hy)
 exact ⟨(v, l), h1, h2, h3, h4⟩
structure ScrRd (w : World) (tv pv : Value) (ts : List N3) : Prop where
 rd : E4 w tv ts.length (ts.flatMap A16)
 thr : ∀ t ∈ ts, ThRd w t
 len : ts.length ≤ 9223372036854775807
 picks : ∃ a n c, pv = .slice a n c ∧ n ≤ 9223372036854775807
def B8A (c : CfgV) (tv pv : Value) : Value := .agg #[.int .i64 c.wk, .int .i64 c.sh, .int .i64 c.cp, .int .i64 c.idle, .int .i64 c.sl, tv, pv]
theorem B2m {r : Reach} {b0 : Nat} {v : Value} {d : DataW H} {ps : List MemPlace} (hval : Value.okWide PR w r b0 27 v) (hd : DataW.Trod enc PR w base spare held 27 v d ps) : ∃ s : CfgV × Value × Value × List N3, v = B8A s.1 s.2.1 s.2.2.1 ∧ ScrRd w s.2.1 s.2.2.1 s.2.2.2 := by
 obtain ⟨cs', e, _⟩ := okWide_struct A9w.und hval
 obtain ⟨fuel, hf0⟩ := hd
 obtain ⟨xs, n, _, _, hl, hxl, hf⟩ := DataW.trod_struct A9w.und hf0
 have e : v = .agg cs' := e
 subst e
 have ec : (Value.agg cs').cells.toList = cs'.toList := rfl
 rw [ec] at hl hf
 generalize hcs : cs'.toList = cs at *
 have hl4 : cs.length = 7 := hl.trans (by kernel_rfl)
 have hx4 : xs.length = 3 := hxl.trans (by kernel_rfl)
 match cs, hl4 with
 | [c0, c1, c2, c3, c4, c5, c6], _ =>
  have f0 := hf 0 _ rfl
  have f1 := hf 1 _ rfl
  have f2 := hf 2 _ rfl
  rw [List.getElem?_eq_getElem (by omega)] at f0 f1 f2
  obtain ⟨c, e0, _⟩ := B8g f0
  obtain ⟨tv, ts, e1, ht1, ht2, ht3⟩ := A6a (f := A16) (k := 1) (Q := ThRd w) (fun _ => rfl) (by omega) Tryz.underlying24 (by kernel_rfl) f1 (fun n cs' y hy => B71 hy)
  have g0 : [c0, c1, c2, c3, c4] = [.int .i64 c.wk, .int .i64 c.sh, .int .i64 c.cp, .int .i64 c.idle, .int .i64 c.sl] := e0
  have g1 : [c5] = [tv] := e1
  have hpk : ∃ a n k, c6 = .slice a n k ∧ n ≤ 9223372036854775807 := by
   rcases Go.Deep.open_slice Tryz.underlying25 f2 with ⟨h, _⟩ | ⟨a, len, cap, m, n, D, Pl, h, hb, hl, hm, hmm, _, hx⟩
   ·have h : [c6] = [Value.slice none 0 0] := h
    exact ⟨none, 0, 0, by injection h, by omega⟩
   ·have h : [c6] = [Value.slice (some a) len cap] := h
    exact ⟨_, _, _, by injection h, by simp only [maxLen] at *; omega⟩
  clear e0 e1
  simp only [List.cons.injEq, and_true] at g0 g1
  obtain ⟨rfl, rfl, rfl, rfl, rfl⟩ := g0
  subst g1
  refine ⟨(c, c5, c6, ts), ?_, ht1, ht2, by simp only [maxLen] at ht3; omega, hpk⟩
  have : cs' = #[.int .i64 c.wk, .int .i64 c.sh, .int .i64 c.cp, .int .i64 c.idle, .int .i64 c.sl, c5, c6] := by
   rw [← Array.toList_inj]; exact hcs
  rw [this]; rfl
end
end Go.Proofs.YtlplkjgcfjdinaaGreat
namespace Go.Proofs.YtlplkjgcfjdinaaGreat
open Go
def A2n (l : List Nat) (i j : Nat) : List Nat := (l.set i (l.getD j 0)).set j (l.getD i 0)
theorem A5Z (l : List Nat) (i j : Nat) : (A2n l i j).length = l.length := by simp [A2n]
theorem B18 (l : List Nat) (i j x : Nat) (hi : i < l.length) : (l.set i x).getD j 0 = if j = i then x else l.getD j 0 := by
 simp only [List.getD_eq_getElem?_getD, List.getElem?_set]
 by_cases h : i = j
 ·subst h; simp [hi]
 ·rw [if_neg h, if_neg (Ne.symm h)]
theorem A5p (l : List Nat) (i j t : Nat) (hi : i < l.length) (hj : j < l.length) : (A2n l i j).getD t 0 = if t = j then l.getD i 0 else if t = i then l.getD j 0 else l.getD t 0 := by
 unfold A2n
 rw [B18 _ _ _ _ (by simpa using hj), B18 _ _ _ _ hi]
theorem A7j {l l' : List Nat} (h : l.length = l'.length) (he : ∀ t, t < l.length → l.getD t 0 = l'.getD t 0) : l = l' := by
 apply List.ext_getElem h
 intro t h1 h2
 have := he t h1
 simpa [List.getD_eq_getElem?_getD, List.getElem?_eq_getElem h1, List.getElem?_eq_getElem h2] using this
def Y8 (s m e t : Nat) : Nat := if t < s then t else if t < s + (e - m) then m + (t - s) else if t < e then t - (e - m) else t
def L0 (l : List Nat) (s m e : Nat) : List Nat := l.take s ++ ((l.drop m).take (e - m) ++ ((l.drop s).take (m - s) ++ l.drop e))
theorem d8 {l : List Nat} {s m e : Nat} (h1 : s ≤ m) (h2 : m ≤ e) (h3 : e ≤ l.length) : (L0 l s m e).length = l.length := by simp [L0]; omega
theorem A0Y (a b : List Nat) (t : Nat) : (a ++ b).getD t 0 = if t < a.length then a.getD t 0 else b.getD (t - a.length) 0 := by
 simp only [List.getD_eq_getElem?_getD, List.getElem?_append]; split <;> rfl
theorem x6 (l : List Nat) (n t : Nat) (h : t < n) : (l.take n).getD t 0 = l.getD t 0 := by
 simp only [List.getD_eq_getElem?_getD, List.getElem?_take_of_lt h]
theorem x5 (l : List Nat) (n t : Nat) : (l.drop n).getD t 0 = l.getD (n + t) 0 := by
 simp only [List.getD_eq_getElem?_getD, List.getElem?_drop]
theorem P8 {l : List Nat} {s m e : Nat} (h1 : s ≤ m) (h2 : m ≤ e) (h3 : e ≤ l.length) (t : Nat) : (L0 l s m e).getD t 0 = l.getD (Y8 s m e t) 0 := by
 have a1 : (l.take s).length = s := by simp; omega
 have a2 : ((l.drop m).take (e - m)).length = e - m := by simp; omega
 have a3 : ((l.drop s).take (m - s)).length = m - s := by simp; omega
 unfold L0 Y8
 rw [A0Y, a1]
 by_cases c1 : t < s
 ·rw [if_pos c1, if_pos c1, x6 _ _ _ c1]
 rw [if_neg c1, if_neg c1, A0Y, a2]
 by_cases c2 : t < s + (e - m)
 ·rw [if_pos (by omega), if_pos c2, x6 _ _ _ (by omega), x5]
 rw [if_neg (by omega), if_neg c2, A0Y, a3]
 by_cases c3 : t < e
 ·rw [if_pos (by omega), if_pos c3, x6 _ _ _ (by omega), x5]; congr 1; omega
 rw [if_neg (by omega), if_neg c3, x5]; congr 1; omega
theorem B6u {l : List Nat} {s m e : Nat} (h1 : s ≤ m) (h2 : m ≤ e) (h3 : e ≤ l.length) : (L0 l s m e).Perm l := by
 have e1 : l = l.take s ++ ((l.drop s).take (m - s) ++ ((l.drop m).take (e - m) ++ l.drop e)) := by
  apply A7j
  ·simp; omega
  ·intro t ht
   rw [A0Y, A0Y, A0Y]
   have a1 : (l.take s).length = s := by simp; omega
   have a2 : ((l.drop m).take (e - m)).length = e - m := by simp; omega
   have a3 : ((l.drop s).take (m - s)).length = m - s := by simp; omega
   rw [a1, a2, a3]
   by_cases c1 : t < s
   ·rw [if_pos c1, x6 _ _ _ c1]
   rw [if_neg c1]
   by_cases c2 : t - s < m - s
   ·rw [if_pos c2, x6 _ _ _ c2, x5]; congr 1; omega
   rw [if_neg c2]
   by_cases c3 : t - s - (m - s) < e - m
   ·rw [if_pos c3, x6 _ _ _ c3, x5]; congr 1; omega
   rw [if_neg c3, x5]; congr 1; omega
 conv => rhs; rw [e1]
 unfold L0
 refine List.Perm.append_left _ ?_
 rw [← List.append_assoc, ← List.append_assoc]
 exact List.Perm.append_right _ List.perm_append_comm
def Y4 (l : List Nat) (x y : Nat) : Nat → List Nat
 | 0 => l
 | n + 1 => A2n (Y4 l x y n) (x + n) (y + n)
def swI (x y n t : Nat) : Nat := if x ≤ t ∧ t < x + n then y + (t - x) else if y ≤ t ∧ t < y + n then x + (t - y) else t
theorem j7 (l : List Nat) (x y n : Nat) : (Y4 l x y n).length = l.length := by
 induction n with
 | zero => rfl
 | succ n ih => rw [Y4, A5Z, ih]
theorem A6H {l : List Nat} {x y n : Nat} (h1 : x + n ≤ y) (h2 : y + n ≤ l.length) (t : Nat) : (Y4 l x y n).getD t 0 = l.getD (swI x y n t) 0 := by
 induction n generalizing t with
 | zero =>
  have e : swI x y 0 t = t := by unfold swI; rw [if_neg (by omega), if_neg (by omega)]
  rw [e]; rfl
 | succ n ih =>
  have hl := j7 l x y n
  rw [Y4, A5p _ _ _ _ (by omega) (by omega), ih (by omega) (by omega), ih (by omega) (by omega), ih (by omega) (by omega)]
  by_cases c1 : t = y + n
  ·rw [if_pos c1]; congr 1; unfold swI; repeat' split
   all_goals omega
  rw [if_neg c1]
  by_cases c2 : t = x + n
  ·rw [if_pos c2]; congr 1; unfold swI; repeat' split
   all_goals omega
  rw [if_neg c2]; congr 1; unfold swI; repeat' split
  all_goals omega
theorem C0z {l : List Nat} {m i j : Nat} (hi : i ≤ m) (h : j < i) (hl : m + j ≤ l.length) : L0 (Y4 l (m - i) m j) (m - i + j) m (m + j) = L0 l (m - i) m (m + j) := by
 have e := j7 l (m - i) m j
 apply A7j
 ·rw [d8 (by omega) (by omega) (by omega), d8 (by omega) (by omega) (by omega), e]
 intro t ht
 rw [P8 (by omega) (by omega) (by omega), P8 (by omega) (by omega) (by omega), A6H (by omega) (by omega)]
 congr 1; unfold Y8 swI; repeat' split
 all_goals omega
theorem C1E {l : List Nat} {m i j : Nat} (hi : i ≤ m) (h : i < j) (hl : m + j ≤ l.length) : L0 (Y4 l (m - i) (m + j - i) i) (m - i) m (m + j - i) = L0 l (m - i) m (m + j) := by
 have e := j7 l (m - i) (m + j - i) i
 apply A7j
 ·rw [d8 (by omega) (by omega) (by omega), d8 (by omega) (by omega) (by omega), e]
 intro t ht
 rw [P8 (by omega) (by omega) (by omega), P8 (by omega) (by omega) (by omega), A6H (by omega) (by omega)]
 congr 1; unfold Y8 swI; repeat' split
 all_goals omega
theorem C0a {l : List Nat} {m i : Nat} (hi : i ≤ m) (hl : m + i ≤ l.length) : Y4 l (m - i) m i = L0 l (m - i) m (m + i) := by
 apply A7j
 ·rw [j7, d8 (by omega) (by omega) (by omega)]
 intro t ht
 rw [P8 (by omega) (by omega) (by omega), A6H (by omega) (by omega)]
 congr 1; unfold Y8 swI; repeat' split
 all_goals omega
def Y6 (key : Nat → Int) (x y : Nat) : Prop := key x < key y ∨ key x = key y ∧ x < y
theorem Y6.trans {key : Nat → Int} {x y z : Nat} (h : Y6 key x y) (h' : Y6 key y z) : Y6 key x z := by unfold Y6 at *; omega
def G6 (key : Nat → Int) (l : List Nat) (a b : Nat) : Prop := ∀ i j, a ≤ i → i < j → j < b → Y6 key (l.getD i 0) (l.getD j 0)
def St (key : Nat → Int) (l : List Nat) (a m b : Nat) : Prop := ∀ i j, a ≤ i → i < m → m ≤ j → j < b → key (l.getD i 0) = key (l.getD j 0) → l.getD i 0 < l.getD j 0
structure Mix (l : List Nat) (a b : Nat) (l' : List Nat) : Prop where
 len : l'.length = l.length
 out : ∀ i, i < a ∨ b ≤ i → l'.getD i 0 = l.getD i 0
 ins : ∀ i, a ≤ i → i < b → ∃ j, a ≤ j ∧ j < b ∧ l'.getD i 0 = l.getD j 0
 perm : l'.Perm l
theorem Mix.refl (l : List Nat) (a b : Nat) : Mix l a b l := ⟨rfl, fun _ _ => rfl, fun i h1 h2 => ⟨i, h1, h2, rfl⟩, List.Perm.refl _⟩
theorem Mix.trans {l l1 l2 : List Nat} {a b : Nat} (h : Mix l a b l1) (h' : Mix l1 a b l2) : Mix l a b l2 :=
 ⟨h'.len.trans h.len, fun i hi => (h'.out i hi).trans (h.out i hi), fun i h1 h2 => by
  obtain ⟨j, j1, j2, e⟩ := h'.ins i h1 h2
  obtain ⟨k, k1, k2, e'⟩ := h.ins j j1 j2
  exact ⟨k, k1, k2, e.trans e'⟩, h'.perm.trans h.perm⟩
theorem Mix.wide {l l' : List Nat} {a b a' b' : Nat} (h : Mix l a b l') (h1 : a' ≤ a) (h2 : b ≤ b') : Mix l a' b' l' :=
 ⟨h.len, fun i hi => h.out i (by omega), fun i i1 i2 => by
  by_cases c : a ≤ i ∧ i < b
  ·obtain ⟨j, j1, j2, e⟩ := h.ins i c.1 c.2
   exact ⟨j, by omega, by omega, e⟩
  ·exact ⟨i, i1, i2, h.out i (by omega)⟩, h.perm⟩
theorem B4E {s m e i : Nat} (h1 : s ≤ m) (h2 : m ≤ e) (i1 : s ≤ i) (i2 : i < e) : s ≤ Y8 s m e i ∧ Y8 s m e i < e := by
 unfold Y8; repeat' split
 all_goals omega
theorem B2A {s m e i : Nat} (h1 : s ≤ m) (h2 : m ≤ e) (h : i < s ∨ e ≤ i) : Y8 s m e i = i := by
 unfold Y8; repeat' split
 all_goals omega
theorem A9k {l : List Nat} {s m e : Nat} (h1 : s ≤ m) (h2 : m ≤ e) (h3 : e ≤ l.length) : Mix l s e (L0 l s m e) :=
 ⟨d8 h1 h2 h3, fun i hi => by rw [P8 h1 h2 h3, B2A h1 h2 hi], fun i i1 i2 => ⟨_, (B4E h1 h2 i1 i2).1, (B4E h1 h2 i1 i2).2, P8 h1 h2 h3 i⟩, B6u h1 h2 h3⟩
structure Halves (key : Nat → Int) (l : List Nat) (a s mid e b : Nat) : Prop where
 s1 : G6 key l a s
 s2 : G6 key l s mid
 st1 : St key l a s mid
 s3 : G6 key l mid e
 s4 : G6 key l e b
 st2 : St key l mid e b
 cross : ∀ i j, a ≤ i → i < mid → mid ≤ j → j < b → Y6 key (l.getD i 0) (l.getD j 0)
theorem B1c {s m e t : Nat} (h : t < s) : Y8 s m e t = t := by unfold Y8; rw [if_pos h]
theorem B1f {s m e t : Nat} (h : s ≤ t) (h' : t < s + (e - m)) : Y8 s m e t = m + (t - s) := by unfold Y8; rw [if_neg (by omega), if_pos h']
theorem A9S {s m e t : Nat} (h1 : s ≤ m) (h : s + (e - m) ≤ t) (h' : t < e) : Y8 s m e t = t - (e - m) := by unfold Y8; rw [if_neg (by omega), if_neg (by omega), if_pos h']
theorem A9f {s m e t : Nat} (h1 : s ≤ m) (h2 : m ≤ e) (h : e ≤ t) : Y8 s m e t = t := B2A h1 h2 (Or.inr h)
theorem C1C {key : Nat → Int} {l : List Nat} {a s m e b : Nat} (ha : a ≤ s) (h1 : s ≤ m) (h2 : m ≤ e) (hb : e ≤ b) (hl : b ≤ l.length) (hS1 : G6 key l a m) (hS2 : G6 key l m b) (hSt : St key l a m b)
  (hL : ∀ i j, a ≤ i → i < s → e ≤ j → j < b → Y6 key (l.getD i 0) (l.getD j 0)) (hR : ∀ i j, s ≤ i → i < m → m ≤ j → j < e → Y6 key (l.getD j 0) (l.getD i 0)) :
  Halves key (L0 l s m e) a s (s + (e - m)) e b := by
 have g := fun t => P8 (l := l) h1 h2 (by omega) t
 refine ⟨fun i j i1 i2 i3 => ?_, fun i j i1 i2 i3 => ?_, fun i j i1 i2 i3 i4 => ?_, fun i j i1 i2 i3 => ?_, fun i j i1 i2 i3 => ?_, fun i j i1 i2 i3 i4 => ?_, fun i j i1 i2 i3 i4 => ?_⟩
 ·rw [g, g, B1c (by omega), B1c (by omega)]; exact hS1 i j i1 i2 (by omega)
 ·rw [g, g, B1f (by omega) (by omega), B1f (by omega) (by omega)]; exact hS2 _ _ (by omega) (by omega) (by omega)
 ·rw [g, g, B1c (by omega), B1f (by omega) (by omega)]; exact hSt _ _ i1 (by omega) (by omega) (by omega)
 ·rw [g, g, A9S h1 (by omega) (by omega), A9S h1 (by omega) (by omega)]; exact hS1 _ _ (by omega) (by omega) (by omega)
 ·rw [g, g, A9f h1 h2 (by omega), A9f h1 h2 (by omega)]; exact hS2 _ _ (by omega) (by omega) (by omega)
 ·rw [g, g, A9S h1 (by omega) (by omega), A9f h1 h2 (by omega)]; exact hSt _ _ (by omega) (by omega) (by omega) (by omega)
 ·rw [g, g]
  by_cases c1 : i < s
  ·rw [B1c c1]
   by_cases c2 : j < e
   ·rw [A9S h1 (by omega) c2]; exact hS1 _ _ i1 (by omega) (by omega)
   ·rw [A9f h1 h2 (by omega)]; exact hL _ _ i1 c1 (by omega) i4
  ·rw [B1f (by omega) (by omega)]
   by_cases c2 : j < e
   ·rw [A9S h1 (by omega) c2]; exact hR _ _ (by omega) (by omega) (by omega) (by omega)
   ·rw [A9f h1 h2 (by omega)]; exact hS2 _ _ (by omega) (by omega) (by omega)
theorem A8U {key : Nat → Int} {l : List Nat} {a m b i j : Nat} (hSt : St key l a m b) (i1 : a ≤ i) (i2 : i < m) (j1 : m ≤ j) (j2 : j < b) : (key (l.getD j 0) < key (l.getD i 0) → Y6 key (l.getD j 0) (l.getD i 0)) ∧ (¬ key (l.getD j 0) < key (l.getD i 0) → Y6 key (l.getD i 0) (l.getD j 0)) := by
 have h := hSt i j i1 i2 j1 j2
 refine ⟨fun h => Or.inl h, fun hn => ?_⟩
 by_cases c : key (l.getD i 0) = key (l.getD j 0)
 ·exact Or.inr ⟨c, h c⟩
 ·exact Or.inl (by omega)
theorem G6.le {key : Nat → Int} {l : List Nat} {a b i j x : Nat} (h : G6 key l a b) (i1 : a ≤ i) (i2 : i ≤ j) (i3 : j < b) (hx : Y6 key (l.getD j 0) x) : Y6 key (l.getD i 0) x := by
 by_cases c : i = j
 ·subst c; exact hx
 ·exact (h i j i1 (by omega) i3).trans hx
theorem G6.ge {key : Nat → Int} {l : List Nat} {a b i j x : Nat} (h : G6 key l a b) (i1 : a ≤ i) (i2 : i ≤ j) (i3 : j < b) (hx : Y6 key x (l.getD i 0)) : Y6 key x (l.getD j 0) := by
 by_cases c : i = j
 ·subst c; exact hx
 ·exact hx.trans (h i j i1 (by omega) i3)
theorem A6B {key : Nat → Int} {l : List Nat} {a s m e b : Nat} (ha : a ≤ s) (h1 : s ≤ m) (h2 : m ≤ e) (hb : e ≤ b) (hl : b ≤ l.length) (hS1 : G6 key l a m) (hS2 : G6 key l m b) (hSt : St key l a m b)
  (hL : a < s → e < b → ¬ key (l.getD e 0) < key (l.getD (s - 1) 0)) (hR : s < m → m < e → key (l.getD (e - 1) 0) < key (l.getD s 0)) : Halves key (L0 l s m e) a s (s + (e - m)) e b := by
 refine C1C ha h1 h2 hb hl hS1 hS2 hSt (fun i j i1 i2 i3 i4 => ?_) (fun i j i1 i2 i3 i4 => ?_)
 ·have := (A8U hSt (i := s - 1) (j := e) (by omega) (by omega) h2 (by omega)).2 (hL (by omega) (by omega))
  exact hS1.le i1 (by omega) (by omega) (hS2.ge h2 i3 i4 this)
 ·have := (A8U hSt (i := s) (j := e - 1) (by omega) (by omega) (by omega) (by omega)).1 (hR (by omega) (by omega))
  exact hS2.le i3 (by omega) (by omega) (hS1.ge (by omega) i1 i2 this)
theorem B6q {key : Nat → Int} {l l1 l2 : List Nat} {a s mid e b : Nat} (h : Halves key l a s mid e b) (hm : a ≤ mid) (hb : mid ≤ b) (m1 : Mix l a mid l1) (g1 : G6 key l1 a mid) (m2 : Mix l1 mid b l2) (g2 : G6 key l2 mid b) : G6 key l2 a b ∧ Mix l a b l2 := by
 refine ⟨fun i j i1 i2 i3 => ?_, (m1.wide (by omega) hb).trans (m2.wide hm (by omega))⟩
 by_cases c1 : j < mid
 ·rw [m2.out i (by omega), m2.out j (by omega)]; exact g1 i j i1 i2 c1
 by_cases c2 : mid ≤ i
 ·exact g2 i j c2 i2 i3
 ·rw [m2.out i (by omega)]
  obtain ⟨i', p1, p2, e1⟩ := m1.ins i i1 (by omega)
  obtain ⟨j', q1, q2, e2⟩ := m2.ins j (by omega) i3
  rw [e1, e2, m1.out j' (by omega)]
  exact h.cross i' j' p1 p2 q1 q2
theorem G6.same {key : Nat → Int} {l l' : List Nat} {a b : Nat} (h : G6 key l a b) (he : ∀ i, a ≤ i → i < b → l'.getD i 0 = l.getD i 0) : G6 key l' a b := fun i j i1 i2 i3 => by
 rw [he i i1 (by omega), he j (by omega) i3]; exact h i j i1 i2 i3
theorem St.same {key : Nat → Int} {l l' : List Nat} {a m b : Nat} (h : St key l a m b) (he : ∀ i, a ≤ i → i < b → l'.getD i 0 = l.getD i 0) (hm : a ≤ m) (hb : m ≤ b) : St key l' a m b := fun i j i1 i2 i3 i4 => by
 rw [he i i1 (by omega), he j (by omega) i4]; exact h i j i1 i2 i3 i4
theorem A82 {key : Nat → Int} {l : List Nat} {a s m e b : Nat} (ha : a ≤ s) (h1 : s ≤ m) (h2 : m ≤ e) (hb : e ≤ b) (h : Halves key (L0 l s m e) a s (s + (e - m)) e b)
  (hA : ∀ i j, a ≤ i → i < s → s ≤ j → j < s + (e - m) → Y6 key ((L0 l s m e).getD i 0) ((L0 l s m e).getD j 0)) (hB : ∀ i j, s + (e - m) ≤ i → i < e → e ≤ j → j < b → Y6 key ((L0 l s m e).getD i 0) ((L0 l s m e).getD j 0)) : G6 key (L0 l s m e) a b := fun i j i1 i2 i3 => by
 by_cases c1 : j < s
 ·exact h.s1 i j i1 i2 c1
 by_cases c2 : j < s + (e - m)
 ·by_cases c3 : i < s
  ·exact hA i j i1 c3 (by omega) c2
  ·exact h.s2 i j (by omega) i2 c2
 by_cases c3 : i < s + (e - m)
 ·exact h.cross i j i1 c3 (by omega) i3
 by_cases c4 : j < e
 ·exact h.s3 i j (by omega) i2 c4
 by_cases c5 : i < e
 ·exact hB i j (by omega) c5 (by omega) i3
 ·exact h.s4 i j (by omega) i2 i3
def upL (l : List Nat) (a : Nat) : Nat → List Nat
 | 0 => l
 | n + 1 => A2n (upL l a n) (a + n) (a + n + 1)
theorem A9D (l : List Nat) (a n : Nat) : (upL l a n).length = l.length := by
 induction n with
 | zero => rfl
 | succ n ih => rw [upL, A5Z, ih]
theorem B97 {l : List Nat} {a n : Nat} (h : a + n < l.length) (t : Nat) : (upL l a n).getD t 0 = l.getD (if a ≤ t ∧ t < a + n then t + 1 else if t = a + n then a else t) 0 := by
 induction n generalizing t with
 | zero =>
  have e : (if a ≤ t ∧ t < a + 0 then t + 1 else if t = a + 0 then a else t) = t := by
   repeat' split
   all_goals omega
  rw [e]; rfl
 | succ n ih =>
  have hl := A9D l a n
  rw [upL, A5p _ _ _ _ (by omega) (by omega), ih (by omega), ih (by omega), ih (by omega)]
  by_cases c1 : t = a + n + 1
  ·rw [if_pos c1]; congr 1; repeat' split
   all_goals omega
  rw [if_neg c1]
  by_cases c2 : t = a + n
  ·rw [if_pos c2]; congr 1; repeat' split
   all_goals omega
  rw [if_neg c2]; congr 1; repeat' split
  all_goals omega
theorem B9u {l : List Nat} {a n : Nat} (h : a + n < l.length) : upL l a n = L0 l a (a + 1) (a + n + 1) := by
 apply A7j
 ·rw [A9D, d8 (by omega) (by omega) (by omega)]
 intro t ht
 rw [B97 h, P8 (by omega) (by omega) (by omega)]
 congr 1; unfold Y8; repeat' split
 all_goals omega
def M9 (l : List Nat) (m : Nat) : Nat → List Nat
 | 0 => l
 | n + 1 => A2n (M9 l m n) (m - n) (m - n - 1)
theorem A2u (l : List Nat) (m n : Nat) : (M9 l m n).length = l.length := by
 induction n with
 | zero => rfl
 | succ n ih => rw [M9, A5Z, ih]
theorem A51 {l : List Nat} {m n : Nat} (h : m < l.length) (hn : n ≤ m) (t : Nat) : (M9 l m n).getD t 0 = l.getD (if t = m - n then m else if m - n < t ∧ t ≤ m then t - 1 else t) 0 := by
 induction n generalizing t with
 | zero =>
  have e : (if t = m - 0 then m else if m - 0 < t ∧ t ≤ m then t - 1 else t) = t := by
   repeat' split
   all_goals omega
  rw [e]; rfl
 | succ n ih =>
  have hl := A2u l m n
  rw [M9, A5p _ _ _ _ (by omega) (by omega), ih (by omega), ih (by omega), ih (by omega)]
  by_cases c1 : t = m - n - 1
  ·rw [if_pos c1]; congr 1; repeat' split
   all_goals omega
  rw [if_neg c1]
  by_cases c2 : t = m - n
  ·rw [if_pos c2]; congr 1; repeat' split
   all_goals omega
  rw [if_neg c2]; congr 1; repeat' split
  all_goals omega
theorem B0G {l : List Nat} {m n : Nat} (h : m < l.length) (hn : n ≤ m) : M9 l m n = L0 l (m - n) m (m + 1) := by
 apply A7j
 ·rw [A2u, d8 (by omega) (by omega) (by omega)]
 intro t ht
 rw [A51 h hn, P8 (by omega) (by omega) (by omega)]
 congr 1; unfold Y8; repeat' split
 all_goals omega
theorem B0c {key : Nat → Int} {l : List Nat} {a s m : Nat} (ha : a ≤ s) (h1 : s ≤ m) (hl : m < l.length) (hS : G6 key l a m) (hSt : St key l a m (m + 1)) (hL : a < s → ¬ key (l.getD m 0) < key (l.getD (s - 1) 0)) (hR : s < m → key (l.getD m 0) < key (l.getD s 0)) :
  G6 key (L0 l s m (m + 1)) a (m + 1) ∧ Mix l a (m + 1) (L0 l s m (m + 1)) := by
 have hS2 : G6 key l m (m + 1) := fun i j _ _ _ => by omega
 have hh := A6B ha h1 (show m ≤ m + 1 by omega) (Nat.le_refl _) (by omega) hS hS2 hSt (fun _ h => by omega) (fun h _ => hR h)
 have g := fun t => P8 (l := l) h1 (show m ≤ m + 1 by omega) (by omega) t
 refine ⟨A82 ha h1 (by omega) (Nat.le_refl _) hh (fun i j i1 i2 i3 i4 => ?_) (fun i j _ _ _ _ => by omega), (A9k h1 (by omega) (by omega)).wide ha (Nat.le_refl _)⟩
 rw [g, g, B1c (by omega), B1f (by omega) (by omega), show m + (j - s) = m by omega]
 have := (A8U hSt (i := s - 1) (j := m) (by omega) (by omega) (Nat.le_refl _) (by omega)).2 (hL (by omega))
 exact hS.le i1 (by omega) (by omega) this
theorem B8H {key : Nat → Int} {l : List Nat} {a e b : Nat} (h2 : a + 1 ≤ e) (hb : e ≤ b) (hl : b ≤ l.length) (hS : G6 key l (a + 1) b) (hSt : St key l a (a + 1) b) (hL : e < b → ¬ key (l.getD e 0) < key (l.getD a 0)) (hR : a + 1 < e → key (l.getD (e - 1) 0) < key (l.getD a 0)) :
  G6 key (L0 l a (a + 1) e) a b ∧ Mix l a b (L0 l a (a + 1) e) := by
 have hS1 : G6 key l a (a + 1) := fun i j _ _ _ => by omega
 have hh := A6B (Nat.le_refl a) (show a ≤ a + 1 by omega) h2 hb hl hS1 hS hSt (fun h => by omega) (fun _ h => hR h)
 have g := fun t => P8 (l := l) (show a ≤ a + 1 by omega) h2 (by omega) t
 refine ⟨A82 (Nat.le_refl a) (by omega) h2 hb hh (fun i j _ _ _ _ => by omega) (fun i j i1 i2 i3 i4 => ?_), (A9k (by omega) h2 (by omega)).wide (Nat.le_refl a) hb⟩
 rw [g, g, A9S (by omega) i1 i2, A9f (by omega) h2 i3, show i - (e - (a + 1)) = a by omega]
 have := (A8U hSt (i := a) (j := e) (Nat.le_refl _) (by omega) (by omega) (by omega)).2 (hL (by omega))
 exact hS.ge (by omega) i3 i4 this
def Inc (l : List Nat) (a b : Nat) : Prop := ∀ i j, a ≤ i → i < j → j < b → l.getD i 0 < l.getD j 0
theorem Inc.st {key : Nat → Int} {l l' : List Nat} {a i b : Nat} (h : Inc l a b) (hm : Mix l a i l') (hi : i < b) : St key l' a i (i + 1) := fun p q p1 p2 q1 q2 _ => by
 obtain ⟨p', r1, r2, e⟩ := hm.ins p p1 p2
 rw [e, hm.out q (by omega)]
 exact h p' q r1 (by omega) (by omega)
theorem C0n {key : Nat → Int} {l l' : List Nat} (hp : l'.Perm l) (h : G6 key l 0 l.length) (h' : G6 key l' 0 l'.length) : l' = l := by
 have pw : ∀ m : List Nat, G6 key m 0 m.length → m.Pairwise (Y6 key) := fun m hm => List.pairwise_iff_getElem.2 fun i j hi hj hij => by
  have := hm i j (Nat.zero_le _) hij hj
  simpa [List.getD_eq_getElem?_getD, List.getElem?_eq_getElem hi, List.getElem?_eq_getElem hj] using this
 exact hp.eq_of_pairwise (fun a b _ _ h1 h2 => by unfold Y6 at h1 h2; omega) (pw l' h') (pw l h)
end Go.Proofs.YtlplkjgcfjdinaaGreat
namespace Go.Proofs.YtlplkjgcfjdinaaGreat
open Go
def A9a (key : Nat → Int) : List Nat → Nat → List Nat
 | [], i => [i]
 | p :: ps, i => if key p > key i then i :: p :: ps else p :: A9a key ps i
def B1Z (key : Nat → Int) (out : List Nat) (i : Nat) : List Nat := if 0 ≤ key i then A9a key out i else out
def N1 (key : Nat → Int) (n : Nat) : List Nat := (List.range n).foldl (B1Z key) []
def Z7 (key : Nat → Int) (n : Nat) : List Nat := (List.range n).filter fun i => decide (0 ≤ key i)
theorem B0f (key : Nat → Int) (n : Nat) : N1 key (n + 1) = B1Z key (N1 key n) n := by unfold N1; rw [List.range_succ, List.foldl_append]; rfl
theorem B1g (key : Nat → Int) (n : Nat) : Z7 key (n + 1) = if 0 ≤ key n then Z7 key n ++ [n] else Z7 key n := by
 unfold Z7; rw [List.range_succ, List.filter_append]
 by_cases h : 0 ≤ key n <;> simp [h]
theorem B0A (key : Nat → Int) (l : List Nat) (i : Nat) : (A9a key l i).Perm (l ++ [i]) := by
 induction l with
 | nil => exact List.Perm.refl _
 | cons p ps ih =>
  unfold A9a
  split
  ·exact (List.perm_append_comm (l₁ := [i]) (l₂ := p :: ps))
  ·exact ih.cons p
theorem B9B (key : Nat → Int) (l : List Nat) (i : Nat) (h : l.Pairwise (Y6 key)) (hi : ∀ p ∈ l, p < i) : (A9a key l i).Pairwise (Y6 key) := by
 induction l with
 | nil => exact List.pairwise_singleton _ _
 | cons p ps ih =>
  have hh := List.pairwise_cons.1 h
  unfold A9a
  split
  ·rename_i hg
   refine List.pairwise_cons.2 ⟨fun x hx => ?_, h⟩
   rcases List.mem_cons.1 hx with rfl | hx
   ·exact Or.inl hg
   ·exact (show Y6 key i p from Or.inl hg).trans (hh.1 x hx)
  ·rename_i hg
   refine List.pairwise_cons.2 ⟨fun x hx => ?_, ih hh.2 fun q hq => hi q (List.mem_cons_of_mem _ hq)⟩
   have := (B0A key ps i).mem_iff.1 hx
   rcases List.mem_append.1 this with hx | hx
   ·exact hh.1 x hx
   ·obtain rfl : x = i := by simpa using hx
    have := hi p List.mem_cons_self
    unfold Y6; omega
theorem A6A (key : Nat → Int) (n : Nat) : (N1 key n).Perm (Z7 key n) := by
 induction n with
 | zero => exact List.Perm.refl _
 | succ n ih =>
  rw [B0f, B1g]
  unfold B1Z
  split
  ·exact (B0A _ _ _).trans (ih.append_right _)
  ·exact ih
theorem B55 {key : Nat → Int} {n i : Nat} (h : i ∈ Z7 key n) : i < n ∧ 0 ≤ key i := by simpa [Z7] using h
theorem A6c {key : Nat → Int} {n i : Nat} (h : i ∈ N1 key n) : i < n ∧ 0 ≤ key i := B55 ((A6A key n).mem_iff.1 h)
theorem B3u (key : Nat → Int) (n : Nat) : (N1 key n).Pairwise (Y6 key) := by
 induction n with
 | zero => exact List.Pairwise.nil
 | succ n ih =>
  rw [B0f]
  unfold B1Z
  split
  ·exact B9B key _ _ ih fun p hp => (A6c hp).1
  ·exact ih
theorem B1e (key : Nat → Int) (n : Nat) : (Z7 key n).length ≤ n := by
 have := List.length_filter_le (fun i => decide (0 ≤ key i)) (List.range n)
 rw [List.length_range] at this
 exact this
theorem B2l (key : Nat → Int) (n : Nat) : (N1 key n).length = (Z7 key n).length := (A6A key n).length_eq
theorem A0U {l : List Nat} {i : Nat} (h : i < l.length) : l.getD i 0 = l[i] := by simp [List.getD_eq_getElem?_getD, List.getElem?_eq_getElem h]
theorem B0T {key : Nat → Int} {l : List Nat} (h : l.Pairwise (Y6 key)) : G6 key l 0 l.length := fun i j _ h2 h3 => by
 rw [A0U (by omega), A0U h3]
 exact List.pairwise_iff_getElem.1 h i j (by omega) h3 h2
theorem B9S (key : Nat → Int) (n : Nat) : Inc (Z7 key n) 0 (Z7 key n).length := fun i j _ h2 h3 => by
 rw [A0U (by omega), A0U h3]
 have h : (Z7 key n).Pairwise (· < ·) := List.pairwise_lt_range.filter _
 exact List.pairwise_iff_getElem.1 h i j (by omega) h3 h2
theorem A8k {key : Nat → Int} {n : Nat} {l : List Nat} (hp : l.Perm (Z7 key n)) (h : G6 key l 0 (Z7 key n).length) : l = N1 key n :=
 C0n (hp.trans (A6A key n).symm) (B0T (B3u key n)) (by rw [hp.length_eq]; exact h)
theorem Inc.mono {l : List Nat} {a b a' b' : Nat} (h : Inc l a b) (h1 : a ≤ a') (h2 : b' ≤ b) : Inc l a' b' := fun i j i1 i2 i3 => h i j (by omega) i2 (by omega)
theorem Inc.st2 {key : Nat → Int} {l l1 l2 : List Nat} {a m b : Nat} (h : Inc l a b) (m1 : Mix l a m l1) (m2 : Mix l1 m b l2) : St key l2 a m b := fun p q p1 p2 q1 q2 _ => by
 rw [m2.out p (by omega)]
 obtain ⟨p', r1, r2, e⟩ := m1.ins p p1 p2
 obtain ⟨q', s1, s2, e'⟩ := m2.ins q q1 q2
 rw [e, e', m1.out q' (by omega)]
 exact h p' q' r1 (by omega) s2
end Go.Proofs.YtlplkjgcfjdinaaGreat
namespace Go.Proofs.YtlplkjgcfjdinaaGreat
open Go
def A2C (ts : List N3) (x : RecV) : Bool := decide (0 ≤ x.th) && decide (x.th < ts.length) && (decide (0 ≤ x.op) && decide (x.op < ((ts.getD x.th.toNat (.nilIface, [])).2.length)))
def B4Z (ts : List N3) (x : RecV) : OpV × Value := (ts.getD x.th.toNat (.nilIface, [])).2.getD x.op.toNat (⟨0, ⟨#[]⟩, [], 0⟩, .nilIface)
def W3 (s : MoS) (o : OpV) (x : RecV) : MoS × AnsV :=
 if (o.kind = 0 ∧ x.th = 0) ∨ (o.kind = 1 ∧ x.th ≠ 0) then (s, ⟨1, 0, false, 0⟩) else if o.kind = 1 ∧ 0 ≤ x.en ∧ x.an = ⟨13, 0, false, 0⟩ then (s, ⟨13, 0, false, 0⟩) else m9 s o x.nw
def stepL (ts : List N3) (s : MoS) (x : RecV) : MoS × Bool :=
 if A2C ts x then ((W3 s (B4Z ts x).1 x).1, decide (x.en < 0) || decide (x.an = (W3 s (B4Z ts x).1 x).2)) else (s, false)
def stL (ts : List N3) (s : MoS) (l : List RecV) : MoS := l.foldl (fun s x => (stepL ts s x).1) s
def u6 (ts : List N3) : MoS → List RecV → List Bool
 | _, [] => []
 | s, x :: xs => (stepL ts s x).2 :: u6 ts (stepL ts s x).1 xs
theorem A6Z (ts : List N3) (l : List RecV) : ∀ s, (u6 ts s l).length = l.length := by
 induction l with
 | nil => intro s; rfl
 | cons x xs ih => intro s; simp [u6, ih]
theorem B9b (ts : List N3) (a b : List RecV) : ∀ s, u6 ts s (a ++ b) = u6 ts s a ++ u6 ts (stL ts s a) b := by
 induction a with
 | nil => intro s; rfl
 | cons x xs ih => intro s; simp only [List.cons_append, u6, ih]; rfl
theorem C03 (ts : List N3) (s : MoS) {l : List RecV} {i : Nat} {x : RecV} (hx : l[i]? = some x) : (u6 ts s l)[i]? = some (stepL ts (stL ts s (l.take i)) x).2 := by
 obtain ⟨hi, rfl⟩ := List.getElem?_eq_some_iff.1 hx
 have e : l = l.take i ++ (l[i] :: l.drop (i + 1)) := by rw [← List.drop_eq_getElem_cons hi, List.take_append_drop]
 conv => lhs; rw [e]
 rw [B9b, List.getElem?_append_right (by rw [A6Z, List.length_take]; omega), A6Z, List.length_take, show i - min i l.length = 0 by omega]
 rfl
theorem B7k (ts : List N3) (s : MoS) {l : List RecV} {i : Nat} {x : RecV} (hx : l[i]? = some x) : stL ts s (l.take (i + 1)) = (stepL ts (stL ts s (l.take i)) x).1 := by
 unfold stL
 rw [List.take_add_one, hx, List.foldl_append]; rfl
def K9 : List Bool → Int → Int
 | [], _ => -1
 | b :: l, n => if b then K9 l (n + 1) else n
theorem B4m {l : List Bool} (h : ∀ b ∈ l, b = true) : ∀ n, K9 l n = -1 := by
 induction l with
 | nil => intro n; rfl
 | cons b l ih => intro n; rw [K9, if_pos (h b List.mem_cons_self)]; exact ih (fun b hb => h b (List.mem_cons_of_mem _ hb)) _
theorem B5w {l : List Bool} : ∀ {i : Nat} (n : Int), l[i]? = some false → (∀ j, j < i → l[j]? = some true) → K9 l n = n + i := by
 induction l with
 | nil => intro i n h; simp at h
 | cons b l ih =>
  intro i n h hj
  cases i with
  | zero =>
   have : b = false := by simpa using h
   rw [K9, this]; simp
  | succ i =>
   have hb : b = true := by simpa using hj 0 (by omega)
   rw [K9, if_pos hb, ih (n + 1) (by simpa using h) (fun j hj' => by simpa using hj (j + 1) (by omega))]
   omega
def G9 (l : List RecV) : List RecV := (N1 (E9 l) l.length).map fun i => l.getD i z6
def S6 (c : CfgV) (ts : List N3) (l : List RecV) : Int := if S8 c then K9 (u6 ts ⟨c, [], r8 c⟩ (G9 l)) 0 else 0
end Go.Proofs.YtlplkjgcfjdinaaGreat
namespace Go.Proofs.YtlplkjgcfjdinaaGreat
open Go
def A13 (X : Nat → Prop) (t0 : Value) (R : Value → WP) : WP :=
 B1 PR X (Instr.box 32 t0) fun t1 =>
 jn (n := 2) (fun t3 t8 =>
 A0 PR (Instr.makeFunc (.func 21) #[] #[t1]) fun t22 =>
 B7 PR X 20 [t3, t22] fun t23 =>
 R t3) fun J1 =>
 A6 PR (Instr.loadAt 32 t1) fun t6 =>
 A0 PR (A8 .len #[32] 0 [t6]) fun t7 =>
 lp (n := 2) (fun L2 t3_1 t8_1 =>
 A0 PR (binOp .lss 3 t8_1 t7) fun t9 =>
 jn (n := 0) (
 jn (n := 1) (fun t3_2 =>
 A0 PR (binOp .add 3 t8_1 (.int .i64 1)) fun t20 =>
 L2 t3_2 t20) fun J3 =>
 A0 PR (Instr.indexAt 32 t6 t8_1) fun t11 =>
 A6 PR (Instr.loadAt 47 t11) fun t12 =>
 B1 PR X (Instr.alloc 47 true (.tuple #[])) fun t5 =>
 B8 PR X (Instr.storeAt 47 t5 t12) <|
 A0 PR (Instr.fieldAt 47 t5 3) fun t13 =>
 A6 PR (Instr.loadAt 3 t13) fun t14 =>
 A0 PR (binOp .geq 3 t14 (.int .i64 0)) fun t15 =>
 B6 t15 (
 B1 PR X (Instr.buildSlice 35 1 #[(0, t8_1)]) fun t18 =>
 B1 PR X (A8 .append #[35, 35] 35 [t3_1, t18]) fun t19 =>
 J3 t19) (
 J3 t3_1)) fun J4 =>
 B6 t9 (
 J4) (
 J1 t3_1 t8_1)) (.slice none 0 0) (.int .i64 0)
theorem p4 : B0 PR 11 := A7 Tryz.func11 (by kernel_rfl) rfl
theorem A7Z {X : Nat → Prop} {t0 : Value} {R : Value → WP} {w : World} (h : A13 X t0 R w) : Fn PR X 11 #[t0] w R := C8 (args := [t0]) mixed Tryz.func11 (by kernel_rfl) h
def A47 (X : Nat → Prop) (t0 : Value) (R : Value → WP) : WP :=
 B1 PR X (Instr.makeMap 59 none) fun t6 =>
 jn (n := 2) (fun t2 t9 =>
 R (.bool true)) fun J1 =>
 A0 PR (A8 .len #[32] 0 [t0]) fun t8 =>
 lp (n := 2) (fun L2 t2_1 t9_1 =>
 A0 PR (binOp .lss 3 t9_1 t8) fun t10 =>
 jn (n := 0) (
 jn (n := 1) (fun t2_2 =>
 A0 PR (binOp .add 3 t9_1 (.int .i64 1)) fun t49 =>
 L2 t2_2 t49) fun J3 =>
 A0 PR (Instr.indexAt 32 t0 t9_1) fun t11 =>
 A6 PR (Instr.loadAt 47 t11) fun t12 =>
 B1 PR X (Instr.alloc 47 true (.tuple #[])) fun t5 =>
 B8 PR X (Instr.storeAt 47 t5 t12) <|
 jn (n := 2) (fun t26 t2_3 =>
 A0 PR (Instr.fieldAt 47 t5 3) fun t47 =>
 A6 PR (Instr.loadAt 3 t47) fun t48 =>
 B8 PR X (Instr.mapUpdate 59 t6 t48 (.bool true)) <|
 J3 t2_3) fun J4 =>
 A0 PR (Instr.fieldAt 47 t5 3) fun t14 =>
 A6 PR (Instr.loadAt 3 t14) fun t15 =>
 A0 PR (binOp .lss 3 t15 (.int .i64 0)) fun t16 =>
 gj t16 true (fun J => A0 PR (Instr.fieldAt 47 t5 4) J) fun t18 =>
 gj t16 true (fun J => A6 PR (Instr.loadAt 3 t18) J) fun t19 =>
 gj t16 true (fun J => A0 PR (binOp .geq 3 t19 (.int .i64 0)) J) fun t20 =>
 A0 PR (do pure (if ← asBool t16 then t20 else (.bool false))) fun t21 =>
 B6 t21 (
 R (.bool false)) (
 A0 PR (Instr.fieldAt 47 t5 3) fun t23 =>
 A6 PR (Instr.loadAt 3 t23) fun t24 =>
 A0 PR (binOp .lss 3 t24 (.int .i64 0)) fun t25 =>
 B6 t25 (
 J3 t2_1) (
 jn (n := 1) (fun t26_1 =>
 B6 t26_1 (
 R (.bool false)) (
 J4 t26_1 t2_1)) fun J5 =>
 A0 PR (Instr.fieldAt 47 t5 2) fun t27 =>
 A6 PR (Instr.loadAt 3 t27) fun t28 =>
 A0 PR (Instr.fieldAt 47 t5 3) fun t29 =>
 A6 PR (Instr.loadAt 3 t29) fun t30 =>
 A0 PR (binOp .gtr 3 t28 t30) fun t31 =>
 B6 t31 (
 J5 t31) (
 A0 PR (Instr.fieldAt 47 t5 4) fun t32 =>
 A6 PR (Instr.loadAt 3 t32) fun t33 =>
 A0 PR (binOp .geq 3 t33 (.int .i64 0)) fun t34 =>
 gj t34 true (fun J => A0 PR (Instr.fieldAt 47 t5 3) J) fun t36 =>
 gj t34 true (fun J => A6 PR (Instr.loadAt 3 t36) J) fun t37 =>
 gj t34 true (fun J => A0 PR (Instr.fieldAt 47 t5 4) J) fun t38 =>
 gj t34 true (fun J => A6 PR (Instr.loadAt 3 t38) J) fun t39 =>
 gj t34 true (fun J => A0 PR (binOp .gtr 3 t37 t39) J) fun t40 =>
 A0 PR (do pure (if ← asBool t34 then t40 else (.bool false))) fun t41 =>
 B6 t41 (
 J5 t41) (
 A0 PR (Instr.fieldAt 47 t5 3) fun t43 =>
 A6 PR (Instr.loadAt 3 t43) fun t44 =>
 A6 PR (Instr.lookup 59 t6 t44 false) fun t45 =>
 J5 t45))))) fun J6 =>
 B6 t10 (
 J6) (
 J1 t2_1 t9_1)) (.bool false) (.int .i64 0)
theorem A3v : B0 PR 14 := A7 Tryz.func14 (by kernel_rfl) rfl
theorem B09 {X : Nat → Prop} {t0 : Value} {R : Value → WP} {w : World} (h : A47 X t0 R w) : Fn PR X 14 #[t0] w R := C8 (args := [t0]) mixed Tryz.func14 (by kernel_rfl) h
def A3l (X : Nat → Prop) (t0 t1 t2 : Value) (R : Value → WP) : WP :=
 B1 PR X (Instr.box 23 t0) fun t3 =>
 B1 PR X (Instr.alloc 3 true (.tuple #[])) fun t6 =>
 A6 PR (Instr.loadAt 23 t3) fun t12 =>
 B7 PR X 24 [t12] fun t13 =>
 A0 PR (Instr.extract t13 0) fun t14 =>
 A0 PR (Instr.extract t13 1) fun t15 =>
 jn (n := 0) (
 jn (n := 0) (
 B8 PR X (Instr.storeAt 3 t6 (.int .i64 (-1))) <|
 U5 (A6 PR (D2 [.c 3 t6]) R)) fun J1 =>
 B7 PR X 25 [t14, t1, t2] fun t21 =>
 rng (N := 2) PR X (fun t22 t23 K2 =>
 bgn <|
 A0 PR (Op.unary .not t23) fun t25 =>
 B6 t25 (
 B8 PR (fun _ => False) (Instr.storeAt 3 t6 t22) <|
 K2 (some .ret)) (
 K2 none)) t21 (fun j => match j with | none => (J1) | some (.exit i) => (match Nat.beq i 0 with | true => (J1) | false => (E7)) | some .ret => (U5 (A6 PR (D2 [.c 3 t6]) R)) | some _ => E7)) fun J3 =>
 A0 PR (binOp .neq 42 t15 (.int .i64 0)) fun t17 =>
 B6 t17 (
 B8 PR X (Instr.storeAt 3 t6 (.int .i64 0)) <|
 U5 (A6 PR (D2 [.c 3 t6]) R)) (
 J3)
theorem N4 : B0 PR 15 := A7 Tryz.func15 (by kernel_rfl) rfl
theorem A9b {X : Nat → Prop} {t0 t1 t2 : Value} {R : Value → WP} {w : World} (h : A3l X t0 t1 t2 R w) : Fn PR X 15 #[t0, t1, t2] w R := C8 (args := [t0, t1, t2]) mixed Tryz.func15 (by kernel_rfl) h
def A0K (X : Nat → Prop) (t0 t1 t2 : Value) (R : Value → WP) : WP :=
 drw <|
 A6 PR (Instr.loadAt 32 t2) fun t6 =>
 A0 PR (Instr.indexAt 32 t6 t0) fun t8 =>
 A0 PR (Instr.fieldAt 47 t8 3) fun t9 =>
 A6 PR (Instr.loadAt 3 t9) fun t10 =>
 A6 PR (Instr.loadAt 32 t2) fun t11 =>
 A0 PR (Instr.indexAt 32 t11 t1) fun t13 =>
 A0 PR (Instr.fieldAt 47 t13 3) fun t14 =>
 A6 PR (Instr.loadAt 3 t14) fun t15 =>
 B7 PR X 22 [t10, t15] fun t16 =>
 R t16
theorem T0 : B0 PR 21 := A7 Tryz.func21 (by kernel_rfl) rfl
theorem A5E {X : Nat → Prop} {t0 t1 t2 : Value} {R : Value → WP} {w : World} (h : A0K X t0 t1 t2 R w) : Fn PR X 21 #[t0, t1, t2] w R := C8 (args := [t0, t1, t2]) mixed Tryz.func21 (by kernel_rfl) h
def A2q (X : Nat → Prop) (t0 t1 t2 : Value) (R : Value → WP) : WP :=
 B1 PR X (Instr.box 60 t0) fun t3 =>
 B1 PR X (Instr.box 24 t1) fun t4 =>
 B1 PR X (Instr.box 32 t2) fun t5 =>
 A0 PR (Instr.makeFunc (.func 34) #[] #[t4]) fun t8 =>
 B1 PR X (Instr.alloc 85 true (.tuple #[])) fun t7 =>
 B8 PR X (Instr.storeAt 85 t7 t8) <|
 A0 PR (Instr.makeFunc (.func 35) #[] #[t5, t7, t3, t4]) fun t9 =>
 R t9
theorem A70 : B0 PR 25 := A7 Tryz.func25 (by kernel_rfl) rfl
theorem A8q {X : Nat → Prop} {t0 t1 t2 : Value} {R : Value → WP} {w : World} (h : A2q X t0 t1 t2 R w) : Fn PR X 25 #[t0, t1, t2] w R := C8 (args := [t0, t1, t2]) mixed Tryz.func25 (by kernel_rfl) h
def A04 (X : Nat → Prop) (t0 t1 : Value) (R : Value → WP) : WP :=
 B1 PR X (Instr.box 47 t0) fun t2 =>
 drw <|
 A0 PR (Instr.fieldAt 47 t2 0) fun t4 =>
 A6 PR (Instr.loadAt 3 t4) fun t5 =>
 A0 PR (binOp .geq 3 t5 (.int .i64 0)) fun t6 =>
 gj t6 true (fun J => A0 PR (Instr.fieldAt 47 t2 0) J) fun t8 =>
 gj t6 true (fun J => A6 PR (Instr.loadAt 3 t8) J) fun t9 =>
 gj t6 true (fun J => A6 PR (Instr.loadAt 24 t1) J) fun t10 =>
 gj t6 true (fun J => A0 PR (A8 .len #[24] 0 [t10]) J) fun t11 =>
 gj t6 true (fun J => A0 PR (binOp .lss 3 t9 t11) J) fun t12 =>
 A0 PR (do pure (if ← asBool t6 then t12 else (.bool false))) fun t13 =>
 gj t13 true (fun J => A0 PR (Instr.fieldAt 47 t2 1) J) fun t15 =>
 gj t13 true (fun J => A6 PR (Instr.loadAt 3 t15) J) fun t16 =>
 gj t13 true (fun J => A0 PR (binOp .geq 3 t16 (.int .i64 0)) J) fun t17 =>
 A0 PR (do pure (if ← asBool t13 then t17 else (.bool false))) fun t18 =>
 gj t18 true (fun J => A0 PR (Instr.fieldAt 47 t2 1) J) fun t20 =>
 gj t18 true (fun J => A6 PR (Instr.loadAt 3 t20) J) fun t21 =>
 gj t18 true (fun J => A6 PR (Instr.loadAt 24 t1) J) fun t22 =>
 gj t18 true (fun J => A0 PR (Instr.fieldAt 47 t2 0) J) fun t23 =>
 gj t18 true (fun J => A6 PR (Instr.loadAt 3 t23) J) fun t24 =>
 gj t18 true (fun J => A0 PR (Instr.indexAt 24 t22 t24) J) fun t25 =>
 gj t18 true (fun J => A6 PR (Instr.loadAt 53 t25) J) fun t26 =>
 gj t18 true (fun J => A0 PR (A8 .len #[53] 0 [t26]) J) fun t27 =>
 gj t18 true (fun J => A0 PR (binOp .lss 3 t21 t27) J) fun t28 =>
 A0 PR (do pure (if ← asBool t18 then t28 else (.bool false))) fun t29 =>
 R t29
theorem A5N : B0 PR 34 := A7 Tryz.func34 (by kernel_rfl) rfl
theorem A6P {X : Nat → Prop} {t0 t1 : Value} {R : Value → WP} {w : World} (h : A04 X t0 t1 R w) : Fn PR X 34 #[t0, t1] w R := C8 (args := [t0, t1]) mixed Tryz.func34 (by kernel_rfl) h
def A1B (X : Nat → Prop) (t0 t1 t2 t3 t4 : Value) (R : Value → WP) : WP :=
 A6 PR (Instr.loadAt 32 t1) fun t11 =>
 B7 PR X 11 [t11] fun t12 =>
 A0 PR (A8 .len #[35] 0 [t12]) fun t13 =>
 lp (n := 1) (fun L1 t14 =>
 A0 PR (binOp .lss 3 t14 t13) fun t15 =>
 jn (n := 0) (
 jn (n := 1) (fun t9 =>
 A0 PR (binOp .add 3 t14 (.int .i64 1)) fun t53 =>
 L1 t53) fun J2 =>
 A0 PR (Instr.indexAt 35 t12 t14) fun t17 =>
 A6 PR (Instr.loadAt 3 t17) fun t18 =>
 A6 PR (Instr.loadAt 32 t1) fun t19 =>
 A0 PR (Instr.indexAt 32 t19 t18) fun t21 =>
 A6 PR (Instr.loadAt 47 t21) fun t22 =>
 B1 PR X (Instr.alloc 47 true (.tuple #[])) fun t8 =>
 B8 PR X (Instr.storeAt 47 t8 t22) <|
 A6 PR (Instr.loadAt 85 t2) fun t23 =>
 A6 PR (Instr.loadAt 47 t8) fun t24 =>
 F5 PR X t23 [t24] fun t25 =>
 jn (n := 1) (fun t9_1 =>
 F5 PR X t0 [t14, t9_1] fun t51 =>
 A0 PR (Op.unary .not t51) fun t52 =>
 B6 t52 (
 R (.tuple #[])) (
 J2 t9_1)) fun J3 =>
 B6 t25 (
 drw <|
 kt (n := 1) (fun t10 =>
 A0 PR (Instr.fieldAt 47 t8 4) fun t39 =>
 A6 PR (Instr.loadAt 3 t39) fun t40 =>
 A0 PR (binOp .lss 3 t40 (.int .i64 0)) fun t41 =>
 gj t41 false (fun J => A0 PR (Instr.fieldAt 47 t8 6) J) fun t43 =>
 gj t41 false (fun J => A6 PR (Instr.loadAt 44 t43) J) fun t44 =>
 gj t41 false (fun J => A6 PR (Instr.loadAt 44 t10) J) fun t45 =>
 gj t41 false (fun J => A6 PR (q6 .eql 44 (.tmp 44) (.tmp 45) t44 t45) J) fun t46 =>
 A0 PR (do pure (if ← asBool t41 then (.bool true) else t46)) fun t47 =>
 J3 t47) fun C4 =>
 A6 PR (Instr.loadAt 60 t3) fun t27_1 =>
 A6 PR (Instr.loadAt 24 t4) fun t28_1 =>
 A0 PR (Instr.fieldAt 47 t8 0) fun t29_1 =>
 A6 PR (Instr.loadAt 3 t29_1) fun t30_1 =>
 A0 PR (Instr.indexAt 24 t28_1 t30_1) fun t31_1 =>
 A6 PR (Instr.loadAt 53 t31_1) fun t32_1 =>
 A0 PR (Instr.fieldAt 47 t8 1) fun t33_1 =>
 A6 PR (Instr.loadAt 3 t33_1) fun t34_1 =>
 A0 PR (Instr.indexAt 53 t32_1 t34_1) fun t35_1 =>
 A6 PR (Instr.loadAt 52 t35_1) fun t36_1 =>
 A6 PR (Instr.loadAt 47 t8) fun t37_1 =>
 both (B7 PR X 36 [t27_1, t36_1, t37_1] fun t38_2 =>
 B1 PR X (Instr.alloc 44 true (.tuple #[])) fun t10_2 =>
 B8 PR X (Instr.storeAt 44 t10_2 t38_2) <|
 C4 t10_2) (both (B1 PR X (Instr.alloc 44 true (.tuple #[])) fun t10_1 =>
 watch PR [(none, (Instr.loadAt 47 t8), t37_1), (none, (Instr.loadAt 52 t35_1), t36_1), (none, (Instr.loadAt 3 t33_1), t34_1), (none, (Instr.loadAt 53 t31_1), t32_1), (none, (Instr.loadAt 3 t29_1), t30_1), (none, (Instr.loadAt 24 t4), t28_1), (none, (Instr.loadAt 60 t3), t27_1)] <|
 B7 PR X 36 [t27_1, t36_1, t37_1] fun t38_1 =>
 B8 PR X (Instr.storeAt 44 t10_1 t38_1) <|
 C4 t10_1) ((fun _ => True)))) (
 J3 t25)) fun J5 =>
 B6 t15 (
 J5) (
 R (.tuple #[]))) (.int .i64 0)
theorem A5Q : B0 PR 35 := A7 Tryz.func35 (by kernel_rfl) rfl
theorem A5l {X : Nat → Prop} {t0 t1 t2 t3 t4 : Value} {R : Value → WP} {w : World} (h : A1B X t0 t1 t2 t3 t4 R w) : Fn PR X 35 #[t0, t1, t2, t3, t4] w R := C8 (args := [t0, t1, t2, t3, t4]) mixed Tryz.func35 (by kernel_rfl) h
theorem A5T {X : Nat → Prop} {t0 t1 t2 t3 t4 : Value} {K : Value → WP} {w : World} (h : Fn PR X 35 #[t0, t1, t2, t3, t4] w K) : s7 PR X 35 [t0, t1, t2, t3, t4] K w := ⟨A5Q, h⟩
def A1Y (X : Nat → Prop) (t0 t1 t2 : Value) (R : Value → WP) : WP :=
 B1 PR X (Instr.box 52 t1) fun t4 =>
 B1 PR X (Instr.box 47 t2) fun t5 =>
 B1 PR X (Instr.alloc 44 true (.tuple #[])) fun t6 =>
 A0 PR (Instr.makeFunc (.func 42) #[] #[t5]) fun t8 =>
 jn (n := 1) (fun t9 =>
 A6 PR (Instr.loadAt 52 t4) fun t37 =>
 A0 PR (Instr.fieldAt 47 t5 5) fun t38 =>
 A6 PR (Instr.loadAt 3 t38) fun t39 =>
 B7 PR X 44 [t0, t37, t39] fun t40 =>
 B8 PR X (Instr.storeAt 44 t6 t40) <|
 A6 PR (D2 [.c 44 t6]) R) fun J1 =>
 jn (n := 1) (fun t9_1 =>
 B6 t9_1 (
 B7 PR X 43 [(.int .i64 1)] fun t26 =>
 B8 PR X (Instr.storeAt 44 t6 t26) <|
 A6 PR (D2 [.c 44 t6]) R) (
 A0 PR (Instr.fieldAt 52 t4 0) fun t28 =>
 A6 PR (Instr.loadAt 3 t28) fun t29 =>
 A0 PR (binOp .eql 3 t29 (.int .i64 1)) fun t30 =>
 gj t30 true (fun J => J t8) fun t32 =>
 gj t30 true (fun J => F5 PR X t32 [] J) fun t33 =>
 A0 PR (do pure (if ← asBool t30 then t33 else (.bool false))) fun t34 =>
 B6 t34 (
 B7 PR X 43 [(.int .i64 13)] fun t35 =>
 B8 PR X (Instr.storeAt 44 t6 t35) <|
 A6 PR (D2 [.c 44 t6]) R) (
 J1 t9_1))) fun J2 =>
 A0 PR (Instr.fieldAt 52 t4 0) fun t10 =>
 A6 PR (Instr.loadAt 3 t10) fun t11 =>
 A0 PR (binOp .eql 3 t11 (.int .i64 0)) fun t12 =>
 gj t12 true (fun J => A0 PR (Instr.fieldAt 47 t5 0) J) fun t14 =>
 gj t12 true (fun J => A6 PR (Instr.loadAt 3 t14) J) fun t15 =>
 gj t12 true (fun J => A0 PR (binOp .eql 3 t15 (.int .i64 0)) J) fun t16 =>
 A0 PR (do pure (if ← asBool t12 then t16 else (.bool false))) fun t17 =>
 B6 t17 (
 J2 t17) (
 A0 PR (Instr.fieldAt 52 t4 0) fun t18 =>
 A6 PR (Instr.loadAt 3 t18) fun t19 =>
 A0 PR (binOp .eql 3 t19 (.int .i64 1)) fun t20 =>
 gj t20 true (fun J => A0 PR (Instr.fieldAt 47 t5 0) J) fun t22 =>
 gj t20 true (fun J => A6 PR (Instr.loadAt 3 t22) J) fun t23 =>
 gj t20 true (fun J => A0 PR (binOp .neq 3 t23 (.int .i64 0)) J) fun t24 =>
 A0 PR (do pure (if ← asBool t20 then t24 else (.bool false))) fun t25 =>
 J2 t25)
theorem A05 : B0 PR 36 := A7 Tryz.func36 (by kernel_rfl) rfl
theorem A6y {X : Nat → Prop} {t0 t1 t2 : Value} {R : Value → WP} {w : World} (h : A1Y X t0 t1 t2 R w) : Fn PR X 36 #[t0, t1, t2] w R := C8 (args := [t0, t1, t2]) mixed Tryz.func36 (by kernel_rfl) h
def y4 (X : Nat → Prop) (t0 : Value) (R : Value → WP) : WP :=
 drw <|
 A0 PR (Instr.fieldAt 47 t0 4) fun t2 =>
 A6 PR (Instr.loadAt 3 t2) fun t3 =>
 A0 PR (binOp .geq 3 t3 (.int .i64 0)) fun t4 =>
 gj t4 true (fun J => A0 PR (Instr.fieldAt 47 t0 6) J) fun t6 =>
 gj t4 true (fun J => A6 PR (Instr.loadAt 44 t6) J) fun t7 =>
 gj t4 true (fun J => B7 PR X 43 [(.int .i64 13)] J) fun t8 =>
 watch PR [((some (t4, true)), (Instr.loadAt 44 t6), t7)] <|
 gj t4 true (fun J => A6 PR (q6 .eql 44 (.tmp 7) (.tmp 8) t7 t8) J) fun t9 =>
 A0 PR (do pure (if ← asBool t4 then t9 else (.bool false))) fun t10 =>
 R t10
theorem A3s : B0 PR 42 := A7 Tryz.func42 (by kernel_rfl) rfl
theorem A4a {X : Nat → Prop} {t0 : Value} {R : Value → WP} {w : World} (h : y4 X t0 R w) : Fn PR X 42 #[t0] w R := C8 (args := [t0]) mixed Tryz.func42 (by kernel_rfl) h
def A3e (X : Nat → Prop) (t0 : Value) (R : Value → WP) : WP :=
 B1 PR X (Instr.alloc 44 true (.tuple #[])) fun t2 =>
 A0 PR (Instr.build 44 #[(0, t0)]) fun t4 =>
 B8 PR X (Instr.storeAt 44 t2 t4) <|
 A6 PR (D2 [.c 44 t2]) R
theorem j5 : B0 PR 43 := A7 Tryz.func43 (by kernel_rfl) rfl
theorem A9r {X : Nat → Prop} {t0 : Value} {R : Value → WP} {w : World} (h : A3e X t0 R w) : Fn PR X 43 #[t0] w R := C8 (args := [t0]) mixed Tryz.func43 (by kernel_rfl) h
end Go.Proofs.YtlplkjgcfjdinaaGreat
namespace Go.Proofs.YtlplkjgcfjdinaaGreat
open Go
def u5 (X : Nat → Prop) (t0 : Value) (R : Value → WP) : WP :=
 B1 PR X (Instr.box 27 t0) fun t1 =>
 jn (n := 1) (fun t2 =>
 jn (n := 3) (fun t3 t2_1 t4 =>
 A0 PR (Instr.fieldAt 27 t1 0) fun t41 =>
 A6 PR (Instr.loadAt 23 t41) fun t42 =>
 B7 PR X 19 [t42] fun t43 =>
 R t43) fun J1 =>
 lp (n := 3) (fun L2 t3_1 t2_2 t4_1 =>
 jn (n := 0) (
 jn (n := 2) (fun t3_2 t2_3 =>
 A0 PR (binOp .add 3 t4_1 (.int .i64 1)) fun t21 =>
 L2 t3_2 t2_3 t21) fun J3 =>
 A0 PR (Instr.fieldAt 27 t1 1) fun t23 =>
 A6 PR (Instr.loadAt 24 t23) fun t24 =>
 A0 PR (Instr.indexAt 24 t24 t4_1) fun t26 =>
 A6 PR (Instr.loadAt 53 t26) fun t27 =>
 A0 PR (A8 .len #[53] 0 [t27]) fun t28 =>
 A0 PR (binOp .add 3 t3_1 t28) fun t29 =>
 A0 PR (binOp .gtr 3 t29 (.int .i64 24)) fun t31 =>
 gj t31 false (fun J => A0 PR (Instr.fieldAt 27 t1 1) J) fun t33 =>
 gj t31 false (fun J => A6 PR (Instr.loadAt 24 t33) J) fun t34 =>
 gj t31 false (fun J => J t4_1) fun t35 =>
 gj t31 false (fun J => A0 PR (Instr.indexAt 24 t34 t35) J) fun t36 =>
 gj t31 false (fun J => A6 PR (Instr.loadAt 53 t36) J) fun t37 =>
 gj t31 false (fun J => B7 PR X 18 [t37, (.int .i64 24)] J) fun t38 =>
 gj t31 false (fun J => A0 PR (Op.unary .not t38) J) fun t39 =>
 A0 PR (do pure (if ← asBool t31 then (.bool true) else t39)) fun t40 =>
 B6 t40 (
 R (.bool false)) (
 J3 t29 t2_2)) fun J4 =>
 A0 PR (Instr.fieldAt 27 t1 1) fun t16 =>
 A6 PR (Instr.loadAt 24 t16) fun t17 =>
 A0 PR (A8 .len #[24] 0 [t17]) fun t18 =>
 A0 PR (binOp .lss 3 t4_1 t18) fun t19 =>
 B6 t19 (
 J4) (
 J1 t3_1 t2_2 t4_1)) (.int .i64 0) t2 (.int .i64 0)) fun J5 =>
 A0 PR (Instr.fieldAt 27 t1 1) fun t5 =>
 A6 PR (Instr.loadAt 24 t5) fun t6 =>
 A0 PR (A8 .len #[24] 0 [t6]) fun t7 =>
 A0 PR (binOp .gtr 3 t7 (.int .i64 7)) fun t8 =>
 gj t8 false (fun J => A0 PR (Instr.fieldAt 27 t1 2) J) fun t10 =>
 gj t8 false (fun J => A6 PR (Instr.loadAt 25 t10) J) fun t11 =>
 gj t8 false (fun J => A0 PR (A8 .len #[25] 0 [t11]) J) fun t12 =>
 gj t8 false (fun J => A0 PR (binOp .gtr 3 t12 (.int .i64 400)) J) fun t13 =>
 A0 PR (do pure (if ← asBool t8 then (.bool true) else t13)) fun t14 =>
 B6 t14 (
 R (.bool false)) (
 J5 (.bool false))
theorem A3E : B0 PR 7 := A7 Tryz.func7 (by kernel_rfl) rfl
theorem A3Z {X : Nat → Prop} {t0 : Value} {R : Value → WP} {w : World} (h : u5 X t0 R w) : Fn PR X 7 #[t0] w R := C8 (args := [t0]) mixed Tryz.func7 (by kernel_rfl) h
end Go.Proofs.YtlplkjgcfjdinaaGreat
namespace Go.Proofs.YtlplkjgcfjdinaaGreat
open Go
def u4 (X : Nat → Prop) (t0 : Value) (R : Value → WP) : WP :=
 A0 PR (A8 .len #[28] 0 [t0]) fun t4 =>
 A0 PR (binOp .leq 3 t4 (.int .i64 24)) fun t5 =>
 R t5
theorem A3B : B0 PR 8 := A7 Tryz.func8 (by kernel_rfl) rfl
theorem A3d {X : Nat → Prop} {t0 : Value} {R : Value → WP} {w : World} (h : u4 X t0 R w) : Fn PR X 8 #[t0] w R := C8 (args := [t0]) mixed Tryz.func8 (by kernel_rfl) h
end Go.Proofs.YtlplkjgcfjdinaaGreat
namespace Go.Proofs.YtlplkjgcfjdinaaGreat
open Go
end Go.Proofs.YtlplkjgcfjdinaaGreat
namespace Go.Proofs.YtlplkjgcfjdinaaGreat
open Go
def Y1 (X : Nat → Prop) (t0 t1 t2 : Value) (R : Value → WP) : WP :=
 B1 PR X (Instr.box 27 t0) fun t3 =>
 B7 PR X 6 [] fun t14 =>
 jn (n := 1) (fun t6 =>
 jn (n := 1) (fun t6_1 =>
 B7 PR X 9 [t1] fun t27 =>
 B7 PR X 11 [t27] fun t29 =>
 jn (n := 1) (fun t6_2 =>
 jn (n := 3) (fun t6_3 t10 t11 =>
 drw <|
 A0 PR (Instr.fieldAt 27 t3 0) fun t68 =>
 A6 PR (Instr.loadAt 23 t68) fun t69 =>
 A0 PR (Instr.fieldAt 27 t3 1) fun t70 =>
 A6 PR (Instr.loadAt 24 t70) fun t71 =>
 A0 PR (Instr.fieldAt 27 t3 0) fun t74 =>
 A6 PR (Instr.loadAt 23 t74) fun t75 =>
 A0 PR (Instr.fieldAt 27 t3 1) fun t76 =>
 A6 PR (Instr.loadAt 24 t76) fun t77 =>
 B7 PR X 15 [t69, t71, t27] fun t73 =>
 watch PR [(none, (Instr.loadAt 24 t76), t77), (none, (Instr.loadAt 23 t74), t75)] <|
 B7 PR X 15 [t75, t77, t10] fun t79 =>
 jn (n := 1) (fun t6_4 =>
 gj t14 true (fun J => J t79) fun t100 =>
 gj t14 true (fun J => J t73) fun t101 =>
 gj t14 true (fun J => A0 PR (binOp .eql 3 t100 t101) J) fun t102 =>
 A0 PR (do pure (if ← asBool t14 then t102 else (.bool false))) fun t103 =>
 R t103) fun J1 =>
 A0 PR (binOp .lss 3 t73 (.int .i64 0)) fun t81 =>
 gj t81 false (fun J => J t2) fun t83 =>
 gj t81 false (fun J => J t73) fun t84 =>
 gj t81 false (fun J => A0 PR (binOp .leq 3 t83 t84) J) fun t85 =>
 gj t81 false (fun J => J t85) fun t86 =>
 gj t86 true (fun J => A0 PR (Instr.fieldAt 27 t3 0) J) fun t87 =>
 gj t86 true (fun J => A6 PR (Instr.loadAt 23 t87) J) fun t88 =>
 gj t86 true (fun J => B7 PR X 17 [t88] J) fun t89 =>
 gj t86 true (fun J => A0 PR (binOp .eql 42 t89 (.int .i64 0)) J) fun t90 =>
 gj t81 false (fun J => A0 PR (do pure (if ← asBool t86 then t90 else (.bool false))) J) fun t91 =>
 A0 PR (do pure (if ← asBool t81 then (.bool true) else t91)) fun t92 =>
 B6 t92 (
 gj t14 true (fun J => J t79) fun t95 =>
 gj t14 true (fun J => A0 PR (binOp .eql 3 t95 (.int .i64 (-1))) J) fun t96 =>
 A0 PR (do pure (if ← asBool t14 then t96 else (.bool false))) fun t97 =>
 R t97) (
 J1 t6_3)) fun J2 =>
 lp (n := 3) (fun L3 t6_5 t10_1 t11_1 =>
 jn (n := 0) (
 jn (n := 2) (fun t6_6 t10_2 =>
 A0 PR (binOp .add 3 t11_1 (.int .i64 1)) fun t43 =>
 L3 t6_6 t10_2 t43) fun J4 =>
 jn (n := 1) (fun t6_7 =>
 A0 PR (Instr.indexAt 35 t29 t11_1) fun t62 =>
 A6 PR (Instr.loadAt 3 t62) fun t63 =>
 A0 PR (Instr.indexAt 32 t27 t63) fun t64 =>
 A6 PR (Instr.loadAt 47 t64) fun t65 =>
 B1 PR X (Instr.buildSlice 32 1 #[(0, t65)]) fun t66 =>
 B1 PR X (A8 .append #[32, 32] 32 [t10_1, t66]) fun t67 =>
 J4 t6_7 t67) fun J5 =>
 A0 PR (Instr.indexAt 35 t29 t11_1) fun t46 =>
 A6 PR (Instr.loadAt 3 t46) fun t47 =>
 A0 PR (binOp .lss 3 t47 (.int .i64 0)) fun t48 =>
 gj t48 false (fun J => J t29) fun t50 =>
 gj t48 false (fun J => J t11_1) fun t51 =>
 gj t48 false (fun J => A0 PR (Instr.indexAt 35 t50 t51) J) fun t52 =>
 gj t48 false (fun J => A6 PR (Instr.loadAt 3 t52) J) fun t53 =>
 gj t48 false (fun J => J t27) fun t54 =>
 gj t48 false (fun J => A0 PR (A8 .len #[32] 0 [t54]) J) fun t55 =>
 gj t48 false (fun J => A0 PR (binOp .geq 3 t53 t55) J) fun t56 =>
 A0 PR (do pure (if ← asBool t48 then (.bool true) else t56)) fun t57 =>
 B6 t57 (
 R (.bool false)) (
 J5 t6_5)) fun J6 =>
 A0 PR (binOp .lss 3 t11_1 t2) fun t41 =>
 B6 t41 (
 J6) (
 J2 t6_5 t10_1 t11_1)) t6_2 (.slice none 0 0) (.int .i64 0)) fun J7 =>
 A0 PR (binOp .lss 3 t2 (.int .i64 0)) fun t31 =>
 gj t31 false (fun J => J t2) fun t33 =>
 gj t31 false (fun J => J t29) fun t34 =>
 gj t31 false (fun J => A0 PR (A8 .len #[35] 0 [t34]) J) fun t35 =>
 gj t31 false (fun J => A0 PR (binOp .gtr 3 t33 t35) J) fun t36 =>
 A0 PR (do pure (if ← asBool t31 then (.bool true) else t36)) fun t37 =>
 B6 t37 (
 R t14) (
 J7 t6_1)) fun J8 =>
 A6 PR (Instr.loadAt 27 t3) fun t17 =>
 B7 PR X 7 [t17] fun t18 =>
 A0 PR (Op.unary .not t18) fun t19 =>
 gj t19 false (fun J => J t1) fun t21 =>
 gj t19 false (fun J => B7 PR X 8 [t21] J) fun t22 =>
 gj t19 false (fun J => A0 PR (Op.unary .not t22) J) fun t23 =>
 A0 PR (do pure (if ← asBool t19 then (.bool true) else t23)) fun t24 =>
 B6 t24 (
 R t14) (
 J8 t6)) fun J9 =>
 A0 PR (Op.unary .not t14) fun t16 =>
 B6 t16 (
 R (.bool false)) (
 J9 (.bool false))
theorem A0C {X : Nat → Prop} {t0 t1 t2 : Value} {R : Value → WP} {w : World} (h : Y1 X t0 t1 t2 R w) : Fn PR X 5 #[t0, t1, t2] w R := C8 (args := [t0, t1, t2]) mixed Tryz.func5 (by kernel_rfl) h
def n4 (X : Nat → Prop) (R : Value → WP) : WP :=
 A0 PR (Instr.build 23 #[(0, (.int .i64 1)), (1, (.int .i64 1)), (2, (.int .i64 1)), (3, (.int .i64 5)), (4, (.int .i64 2))]) fun t6 =>
 B1 PR X (Instr.alloc 23 true (.tuple #[])) fun t1 =>
 B8 PR X (Instr.storeAt 23 t1 t6) <|
 A0 PR (Instr.build 52 #[(0, (.int .i64 1))]) fun t7 =>
 B1 PR X (Instr.buildSlice 53 1 #[(0, t7)]) fun t8 =>
 B1 PR X (Instr.buildSlice 24 1 #[(0, t8)]) fun t9 =>
 A0 PR (Instr.build 47 #[(2, (.int .i64 0)), (3, (.int .i64 1)), (4, (.int .i64 2))]) fun t10 =>
 B1 PR X (Instr.buildSlice 32 1 #[(0, t10)]) fun t11 =>
 A0 PR (Instr.build 44 #[(0, (.int .i64 1))]) fun t12 =>
 A0 PR (Instr.build 47 #[(2, (.int .i64 0)), (3, (.int .i64 1)), (4, (.int .i64 2)), (6, t12)]) fun t13 =>
 B1 PR X (Instr.buildSlice 32 1 #[(0, t13)]) fun t14 =>
 A0 PR (Instr.build 44 #[(0, (.int .i64 13))]) fun t15 =>
 A0 PR (Instr.build 47 #[(2, (.int .i64 0)), (3, (.int .i64 1)), (4, (.int .i64 1)), (6, t15)]) fun t16 =>
 B1 PR X (Instr.buildSlice 32 1 #[(0, t16)]) fun t17 =>
 A6 PR (Instr.loadAt 23 t1) fun t18 =>
 B7 PR X 15 [t18, (.slice none 0 0), (.slice none 0 0)] fun t19 =>
 A0 PR (binOp .eql 3 t19 (.int .i64 (-1))) fun t20 =>
 gj t20 true (fun J => A6 PR (Instr.loadAt 23 t1) J) fun t22 =>
 gj t20 true (fun J => J t9) fun t23 =>
 gj t20 true (fun J => J t11) fun t24 =>
 gj t20 true (fun J => B7 PR X 15 [t22, t23, t24] J) fun t25 =>
 gj t20 true (fun J => A0 PR (binOp .eql 3 t25 (.int .i64 (-1))) J) fun t26 =>
 A0 PR (do pure (if ← asBool t20 then t26 else (.bool false))) fun t27 =>
 gj t27 true (fun J => A6 PR (Instr.loadAt 23 t1) J) fun t29 =>
 gj t27 true (fun J => J t9) fun t30 =>
 gj t27 true (fun J => J t14) fun t31 =>
 gj t27 true (fun J => B7 PR X 15 [t29, t30, t31] J) fun t32 =>
 gj t27 true (fun J => A0 PR (binOp .eql 3 t32 (.int .i64 0)) J) fun t33 =>
 A0 PR (do pure (if ← asBool t27 then t33 else (.bool false))) fun t34 =>
 gj t34 true (fun J => A6 PR (Instr.loadAt 23 t1) J) fun t36 =>
 gj t34 true (fun J => J t9) fun t37 =>
 gj t34 true (fun J => J t17) fun t38 =>
 gj t34 true (fun J => B7 PR X 15 [t36, t37, t38] J) fun t39 =>
 gj t34 true (fun J => A0 PR (binOp .eql 3 t39 (.int .i64 (-1))) J) fun t40 =>
 A0 PR (do pure (if ← asBool t34 then t40 else (.bool false))) fun t41 =>
 gj t41 true (fun J => A6 PR (Instr.loadAt 23 t1) J) fun t43 =>
 gj t41 true (fun J => J t11) fun t44 =>
 gj t41 true (fun J => B7 PR X 15 [t43, (.slice none 0 0), t44] J) fun t45 =>
 gj t41 true (fun J => A0 PR (binOp .eql 3 t45 (.int .i64 0)) J) fun t46 =>
 A0 PR (do pure (if ← asBool t41 then t46 else (.bool false))) fun t47 =>
 gj t47 true (fun J => J t11) fun t49 =>
 gj t47 true (fun J => B7 PR X 14 [t49] J) fun t50 =>
 A0 PR (do pure (if ← asBool t47 then t50 else (.bool false))) fun t51 =>
 gj t51 true (fun J => A0 PR (Instr.build 47 #[(3, (.int .i64 (-1))), (4, (.int .i64 0))]) J) fun t53 =>
 gj t51 true (fun J => B1 PR X (Instr.buildSlice 32 1 #[(0, t53)]) J) fun t54 =>
 gj t51 true (fun J => B7 PR X 14 [t54] J) fun t55 =>
 gj t51 true (fun J => A0 PR (Op.unary .not t55) J) fun t56 =>
 A0 PR (do pure (if ← asBool t51 then t56 else (.bool false))) fun t57 =>
 gj t57 true (fun J => J t11) fun t59 =>
 gj t57 true (fun J => B7 PR X 11 [t59] J) fun t60 =>
 gj t57 true (fun J => A0 PR (A8 .len #[35] 0 [t60]) J) fun t61 =>
 gj t57 true (fun J => A0 PR (binOp .eql 3 t61 (.int .i64 1)) J) fun t62 =>
 A0 PR (do pure (if ← asBool t57 then t62 else (.bool false))) fun t63 =>
 R t63
theorem A15 : B0 PR 6 := A7 Tryz.func6 (by kernel_rfl) rfl
theorem A2K {X : Nat → Prop} {R : Value → WP} {w : World} (h : n4 X R w) : Fn PR X 6 #[] w R := C8 (args := []) mixed Tryz.func6 (by kernel_rfl) h
def j6 (X : Nat → Prop) (t0 : Value) (R : Value → WP) : WP :=
 jn (n := 2) (fun t3 t4 =>
 R t3) fun J1 =>
 lp (n := 2) (fun L2 t3_1 t4_1 =>
 jn (n := 0) (
 jn (n := 1) (fun t3_2 =>
 A0 PR (binOp .add 3 t4_1 (.int .i64 1)) fun t10 =>
 L2 t3_2 t10) fun J3 =>
 A0 PR (Instr.indexAt 28 t0 t4_1) fun t14 =>
 A6 PR (Instr.loadAt 46 t14) fun t15 =>
 B1 PR X (Instr.buildSlice 32 1 #[(0, t15)]) fun t16 =>
 B1 PR X (A8 .append #[32, 32] 32 [t3_1, t16]) fun t17 =>
 J3 t17) fun J4 =>
 A0 PR (A8 .len #[28] 0 [t0]) fun t7 =>
 A0 PR (binOp .lss 3 t4_1 t7) fun t8 =>
 B6 t8 (
 J4) (
 J1 t3_1 t4_1)) (.slice none 0 0) (.int .i64 0)
theorem A1L : B0 PR 9 := A7 Tryz.func9 (by kernel_rfl) rfl
theorem A1j {X : Nat → Prop} {t0 : Value} {R : Value → WP} {w : World} (h : j6 X t0 R w) : Fn PR X 9 #[t0] w R := C8 (args := [t0]) mixed Tryz.func9 (by kernel_rfl) h
end Go.Proofs.YtlplkjgcfjdinaaGreat
namespace Go.Proofs.YtlplkjgcfjdinaaGreat
open Go
def P6 (l : List Nat) : List Value := l.map fun n : Nat => .int .i64 (n : Int)
theorem B17 (l : List Nat) : (P6 l).length = l.length := by simp [P6]
theorem B8M {l : List Nat} {x : Nat} (h : x < l.length) : (P6 l)[x]? = some (.int .i64 (l.getD x 0 : Nat)) := by
 unfold P6
 rw [List.getElem?_map, List.getElem?_eq_getElem h, List.getD_eq_getElem?_getD, List.getElem?_eq_getElem h]; rfl
theorem B8r {l : List Nat} {x y : Nat} (h : x < l.length) : p6 (P6 l) x [.int .i64 (y : Int)] = P6 (l.set x y) := by
 rw [B10 (by rw [B17]; exact h), P6, P6, List.map_set]
def ix (l : List Nat) (i : Nat) : Nat := l.getD i 0
theorem N7 {l : List Nat} {x : Nat} (h : x < l.length) : (P6 l)[x]? = some (.int .i64 (ix l x : Nat)) := B8M h
theorem A4M (l : List Nat) (i j : Nat) : A2n l i j = (l.set i (ix l j)).set j (ix l i) := rfl
abbrev OI (g q c : Nat) (l : List Nat) : Res := .own 3 1 (.slice (some ⟨g, 0, none⟩) q c) q (P6 l)
theorem A09 {κ : Bool} {S : List Nat} {w0 : World} {Hr : List Res} {K0 : WP} {g q c x y : Nat} {l : List Nat} (hx : x < l.length) (hK : TW κ S w0 (OI g q c (l.set x y) :: Hr) K0) :
  TW κ S w0 (OI g q c l :: Hr) (B8 PR B5 (Instr.storeAt 3 (.pointer (some ⟨g, x, none⟩)) (.int .i64 (y : Int))) K0) := by
 have ev : (Value.int IntKind.i64 (y : Int)).cells.toList = [.int .i64 (y : Int)] := rfl
 have e := B8r (l := l) (x := x) (y := y) hx
 rw [← ev] at e
 exact W6 (n := 1) (e := 3) (k := 1) (q := q) (c := c) (xs := P6 l) Up.here rfl (by rw [B17]; exact hx) rfl (by rw [e]; exact hK)
theorem A2G (w : World) (g c : Nat) (l : List Nat) (x y n : Nat) (F : Value) (h1 : x + n ≤ y) (h2 : y + n ≤ l.length) (hl : l.length ≤ 1000) (hw : LW false (B2 [OI g l.length c l]) w [OI g l.length c l] w) :
  Fn PR B5 69 #[.slice (some ⟨g, 0, none⟩) l.length c, .int .i64 (x : Int), .int .i64 (y : Int), .int .i64 (n : Int), F] w (Rn (B2 [OI g l.length c l]) w (fun (_ : Unit) u => u = .tuple #[]) fun _ => [OI g l.length c (Y4 l x y n)]) := by
 refine y5 (TW.goH (κ := false) (S := B2 [OI g l.length c l]) ?_ hw)
 unfold W1
 generalize hS : B2 [OI g l.length c l] = S
 refine B31 n (fun i (_ : Unit) => [OI g l.length c (Y4 l x y i)]) (fun _ _ => True) () trivial ?_
 rintro i _ hi _ L hL
 by_cases hlt : i < n
 ·have e := j7 l x y i
  have g1 := N7 (l := Y4 l x y i) (x := x + i) (by omega)
  have g2 := N7 (l := Y4 l x y i) (x := y + i) (by omega)
  have h := hL hlt () trivial
  rw [Y4, A4M] at h
  generalize Y4 l x y i = m at *
  have hx1 : ((x : Int) + i).toNat = x + i := by omega
  have hy1 : ((y : Int) + i).toNat = y + i := by omega
  (have zz:=trivial;repeat((first|clear zz|with_reducible first|refine A3 ?_|refine A5 fun _=>?_|refine A4 fun _=>?_);try simp(disch:=first|omega|assumption|((repeat(first|exact A1|exact uH|apply A2|apply uT));first|done|fail)|(simp;first|done|omega|fail))[hlt, hx1, hy1, g1, g2]))
  refine A09 (y := ix m (y + i)) (by omega) ?_
  (have zz:=trivial;repeat((first|clear zz|with_reducible first|refine A3 ?_|refine A5 fun _=>?_|refine A4 fun _=>?_);try simp(disch:=first|omega|assumption|((repeat(first|exact A1|exact uH|apply A2|apply uT));first|done|fail)|(simp;first|done|omega|fail))[hlt, hx1, hy1]))
  refine A09 (y := ix m (x + i)) (by simp; omega) ?_
  (have zz:=trivial;repeat((first|clear zz|with_reducible first|refine A3 ?_|refine A5 fun _=>?_|refine A4 fun _=>?_);try simp(disch:=first|omega|assumption|((repeat(first|exact A1|exact uH|apply A2|apply uT));first|done|fail)|(simp;first|done|omega|fail))[]))
  exact h
 ·obtain rfl : i = n := by omega
  (have zz:=trivial;repeat((first|clear zz|with_reducible first|refine A3 ?_|refine A5 fun _=>?_|refine A4 fun _=>?_);try simp(disch:=first|omega|assumption|((repeat(first|exact A1|exact uH|apply A2|apply uT));first|done|fail)|(simp;first|done|omega|fail))[]))
  exact C3 () rfl (by (repeat' constructor))
theorem B60 (w : World) (g c : Nat) (l : List Nat) (a m b : Nat) (F : Value) (h1 : a < m) (h2 : m < b) (h3 : b ≤ l.length) (hl : l.length ≤ 1000) (hw : LW false (B2 [OI g l.length c l]) w [OI g l.length c l] w) :
  Fn PR B5 51 #[.slice (some ⟨g, 0, none⟩) l.length c, .int .i64 (a : Int), .int .i64 (m : Int), .int .i64 (b : Int), F] w (Rn (B2 [OI g l.length c l]) w (fun (_ : Unit) u => u = .tuple #[]) fun _ => [OI g l.length c (L0 l a m b)]) := by
 refine A00 (TW.goH (κ := false) (S := B2 [OI g l.length c l]) ?_ hw)
 unfold Z9
 generalize hS : B2 [OI g l.length c l] = S
 have e1 : ((m : Int) - a) = ((m - a : Nat) : Int) := by omega
 have e2 : ((b : Int) - m) = ((b - m : Nat) : Int) := by omega
 (have zz:=trivial;repeat((first|clear zz|with_reducible first|refine A3 ?_|refine A5 fun _=>?_|refine A4 fun _=>?_);try simp(disch:=first|omega|assumption|((repeat(first|exact A1|exact uH|apply A2|apply uT));first|done|fail)|(simp;first|done|omega|fail))[]))
 rw [e1, e2]
 refine A1e (fun z : Nat × Nat × List Nat => [OI g l.length c z.2.2]) (fun z => 0 < z.1 ∧ 0 < z.2.1 ∧ z.1 ≤ m ∧ m + z.2.1 ≤ l.length ∧ z.2.2.length = l.length ∧ L0 z.2.2 (m - z.1) m (m + z.2.1) = L0 l a m b) (fun z => z.1 + z.2.1) (m - a, b - m, l) (fun z => .int .i64 (z.1 : Nat)) (fun z => .int .i64 (z.2.1 : Nat)) ⟨by simp only; omega, by simp only; omega, by simp only; omega, by simp only; omega, rfl, by simp only; congr 1 <;> omega⟩ ?_
 rintro ⟨i, j, p⟩ ⟨i0, j0, i1, i2, hp, hr⟩ L hL
 simp only at i0 j0 i1 i2 hp hr hL ⊢
 rw [← hp] at i2 hl
 have eA : ((m : Int) - i) = ((m - i : Nat) : Int) := by omega
 by_cases c1 : i = j
 ·subst c1
  (have zz:=trivial;repeat((first|clear zz|with_reducible first|refine A3 ?_|refine A5 fun _=>?_|refine A4 fun _=>?_);try simp(disch:=first|omega|assumption|((repeat(first|exact A1|exact uH|apply A2|apply uT));first|done|fail)|(simp;first|done|omega|fail))[]))
  rw [eA, ← hp]
  refine E5 (Hc := [OI g p.length c p]) N2 (fun w' hw hs => A2G w' g c p (m - i) m i F (by omega) (by omega) hl hs) (by (repeat' constructor)) ?_
  rintro _ _ rfl
  rw [C0a i1 i2, hr]
  (have zz:=trivial;repeat((first|clear zz|with_reducible first|refine A3 ?_|refine A5 fun _=>?_|refine A4 fun _=>?_);try simp(disch:=first|omega|assumption|((repeat(first|exact A1|exact uH|apply A2|apply uT));first|done|fail)|(simp;first|done|omega|fail))[]))
  exact C3 () rfl (by (repeat' constructor))
 have c1' : ¬ (i : Int) = (j : Int) := by omega
 by_cases c2 : j < i
 ·have c2' : (j : Int) < i := by omega
  have eB : ((i : Int) - j) = ((i - j : Nat) : Int) := by omega
  have h := hL (i - j, j, Y4 p (m - i) m j) ⟨by simp only; omega, j0, by simp only; omega, by simp only; omega, by simp only; rw [j7, hp], by simp only; rw [← hr, ← C0z i1 c2 i2]; congr 1; omega⟩ (by simp only; omega)
  (have zz:=trivial;repeat((first|clear zz|with_reducible first|refine A3 ?_|refine A5 fun _=>?_|refine A4 fun _=>?_);try simp(disch:=first|omega|assumption|((repeat(first|exact A1|exact uH|apply A2|apply uT));first|done|fail)|(simp;first|done|omega|fail))[c1, c1', c2, c2']))
  rw [eA, ← hp]
  refine E5 (Hc := [OI g p.length c p]) N2 (fun w' hw hs => A2G w' g c p (m - i) m j F (by omega) (by omega) hl hs) (by (repeat' constructor)) ?_
  rintro _ _ rfl
  (have zz:=trivial;repeat((first|clear zz|with_reducible first|refine A3 ?_|refine A5 fun _=>?_|refine A4 fun _=>?_);try simp(disch:=first|omega|assumption|((repeat(first|exact A1|exact uH|apply A2|apply uT));first|done|fail)|(simp;first|done|omega|fail))[]))
  rw [eB, hp]
  exact h
 ·have c2' : ¬ (j : Int) < i := by omega
  have eB : ((j : Int) - i) = ((j - i : Nat) : Int) := by omega
  have eC : ((m : Int) + j - i) = ((m + j - i : Nat) : Int) := by omega
  have h := hL (i, j - i, Y4 p (m - i) (m + j - i) i) ⟨i0, by simp only; omega, i1, by simp only; omega, by simp only; rw [j7, hp], by simp only; rw [← hr, ← C1E i1 (by omega) i2]; congr 1; omega⟩ (by simp only; omega)
  (have zz:=trivial;repeat((first|clear zz|with_reducible first|refine A3 ?_|refine A5 fun _=>?_|refine A4 fun _=>?_);try simp(disch:=first|omega|assumption|((repeat(first|exact A1|exact uH|apply A2|apply uT));first|done|fail)|(simp;first|done|omega|fail))[c1, c1', c2, c2']))
  rw [eA, eC, ← hp]
  refine E5 (Hc := [OI g p.length c p]) N2 (fun w' hw hs => A2G w' g c p (m - i) (m + j - i) i F (by omega) (by omega) hl hs) (by (repeat' constructor)) ?_
  rintro _ _ rfl
  (have zz:=trivial;repeat((first|clear zz|with_reducible first|refine A3 ?_|refine A5 fun _=>?_|refine A4 fun _=>?_);try simp(disch:=first|omega|assumption|((repeat(first|exact A1|exact uH|apply A2|apply uT));first|done|fail)|(simp;first|done|omega|fail))[]))
  rw [eB, hp]
  exact h
theorem A4Y (a b : Int) : H8 a b < 0 ↔ a < b := by
 unfold H8; repeat' split
 all_goals omega
abbrev A95 (b : Nat) : Value := .func (.func 21) #[] #[.pointer (some ⟨b, 0, none⟩)]
abbrev A7w (w : World) (S : List Nat) (bw : Nat) (key : Nat → Int) (l : List Nat) : Prop := ∀ w', KS false S w w' → ∀ x y, x ∈ l → y ∈ l →
 Fn PR B5 21 #[.int .i64 (x : Int), .int .i64 (y : Int), .pointer (some ⟨bw, 0, none⟩)] w' (fun v w'' => v = .int .i64 (H8 (key x) (key y)) ∧ C6 [] w' w'')
theorem A5j {l : List Nat} {i : Nat} (h : i < l.length) : ix l i ∈ l := by
 unfold ix; rw [List.getD_eq_getElem?_getD, List.getElem?_eq_getElem h]; exact List.getElem_mem h
theorem A8B (w : World) (g c : Nat) (l : List Nat) (a b bw : Nat) (key : Nat → Int) (hc : A7w w (B2 [OI g l.length c l]) bw key l) (hI : Inc l a b) (hab : a ≤ b) (hb : b ≤ l.length) (hl : l.length ≤ 1000) (hw : LW false (B2 [OI g l.length c l]) w [OI g l.length c l] w) :
  Fn PR B5 40 #[.slice (some ⟨g, 0, none⟩) l.length c, .int .i64 (a : Int), .int .i64 (b : Int), A95 bw] w (Rn (B2 [OI g l.length c l]) w (fun (l' : List Nat) u => u = .tuple #[] ∧ G6 key l' a b ∧ Mix l a b l') fun l' => [OI g l.length c l']) := by
 refine S2 (TW.goH (κ := false) (S := B2 [OI g l.length c l]) ?_ hw)
 unfold L6
 generalize hS : B2 [OI g l.length c l] = S at *
 (have zz:=trivial;repeat((first|clear zz|with_reducible first|refine A3 ?_|refine A5 fun _=>?_|refine A4 fun _=>?_);try simp(disch:=first|omega|assumption|((repeat(first|exact A1|exact uH|apply A2|apply uT));first|done|fail)|(simp;first|done|omega|fail))[]))
 refine A4l (fun z : Nat × List Nat => [OI g l.length c z.2]) (fun z => a + 1 ≤ z.1 ∧ (z.1 ≤ b ∨ z.1 = a + 1 ∧ z.2 = l) ∧ G6 key z.2 a z.1 ∧ Mix l a z.1 z.2) (fun z => b - z.1) (a + 1, l) (fun z => .int .i64 (z.1 : Nat)) ⟨Nat.le_refl _, Or.inr ⟨rfl, rfl⟩, fun i j _ _ _ => by simp only at *; omega, Mix.refl ..⟩ ?_
 rintro ⟨i, p⟩ ⟨i0, i1, hs, hm⟩ L hL
 simp only at i0 i1 hs hm hL ⊢
 by_cases c0 : i < b
 case neg =>
  have c0' : ¬ (i : Int) < b := by omega
  (have zz:=trivial;repeat((first|clear zz|with_reducible first|refine A3 ?_|refine A5 fun _=>?_|refine A4 fun _=>?_);try simp(disch:=first|omega|assumption|((repeat(first|exact A1|exact uH|apply A2|apply uT));first|done|fail)|(simp;first|done|omega|fail))[c0, c0']))
  refine C3 p ⟨rfl, ?_⟩ (by (repeat' constructor))
  rcases i1 with h | ⟨h, rfl⟩
  ·obtain rfl : i = b := by omega
   exact ⟨hs, hm⟩
  ·by_cases hib : i = b
   ·subst hib; exact ⟨hs, hm⟩
   ·exact ⟨fun x y _ _ _ => by omega, Mix.refl ..⟩
 have hpl := hm.len
 have hmem : ∀ x, x < p.length → ix p x ∈ l := fun x hx => hm.perm.mem_iff.1 (A5j hx)
 (have zz:=trivial;repeat((first|clear zz|with_reducible first|refine A3 ?_|refine A5 fun _=>?_|refine A4 fun _=>?_);try simp(disch:=first|omega|assumption|((repeat(first|exact A1|exact uH|apply A2|apply uT));first|done|fail)|(simp;first|done|omega|fail))[c0]))
 have hex : ∀ n, n ≤ i - a → (0 < n → key (ix p i) < key (ix p (i - n))) → (a < i - n → ¬ key (ix p i) < key (ix p (i - n - 1))) → TW false S w [OI g l.length c (M9 p i n)] (L (.int .i64 ((i : Int) + 1))) := fun n n1 n2 n3 => by
  have h := B0c (key := key) (l := p) (a := a) (s := i - n) (m := i) (by omega) (by omega) (by omega) hs (hI.st hm c0) n3 (fun hh => n2 (by omega))
  rw [← B0G (by omega) (by omega)] at h
  exact hL (i + 1, M9 p i n) ⟨by simp only; omega, Or.inl (by simp only; omega), h.1, (hm.wide (Nat.le_refl _) (by omega)).trans h.2⟩ (by simp only; omega)
 refine A4l (fun n : Nat => [OI g l.length c (M9 p i n)]) (fun n => n ≤ i - a ∧ (0 < n → key (ix p i) < key (ix p (i - n)))) (fun n => i - n) 0 (fun n => .int .i64 ((i - n : Nat) : Int)) ⟨Nat.zero_le _, fun h => by omega⟩ ?_
 rintro n ⟨n1, n2⟩ L3 hL3
 have hq := A2u p i n
 have hlen : l.length = (M9 p i n).length := by omega
 obtain ⟨j, hj⟩ : ∃ j, j = i - n := ⟨_, rfl⟩
 rw [← hj] at n2 ⊢
 by_cases c1 : a < j
 case neg =>
  have c1' : ¬ (a : Int) < j := by omega
  (have zz:=trivial;repeat((first|clear zz|with_reducible first|refine A3 ?_|refine A5 fun _=>?_|refine A4 fun _=>?_);try simp(disch:=first|omega|assumption|((repeat(first|exact A1|exact uH|apply A2|apply uT));first|done|fail)|(simp;first|done|omega|fail))[c1, c1']))
  exact hex n n1 (by rw [← hj]; exact n2) (fun h => by omega)
 have c1' : (a : Int) < j := by omega
 have ej : ((j : Int) - 1) = ((j - 1 : Nat) : Int) := by omega
 have v1 : ix (M9 p i n) j = ix p i := by unfold ix; rw [A51 (by omega) (by omega), if_pos hj]
 have v2 : ix (M9 p i n) (j - 1) = ix p (j - 1) := by unfold ix; rw [A51 (by omega) (by omega), if_neg (by omega), if_neg (by omega)]
 have g1 := N7 (l := M9 p i n) (x := j) (by omega)
 have g2 := N7 (l := M9 p i n) (x := j - 1) (by omega)
 rw [v1] at g1
 rw [v2] at g2
 have hnext : M9 p i (n + 1) = (((M9 p i n).set j (ix p (j - 1))).set (j - 1) (ix p i)) := by
  rw [M9, ← hj, A4M, v1, v2]
 have hdl : (M9 p i n).length = l.length := by omega
 have hL3' := hL3 (n + 1)
 rw [hnext] at hL3'
 have hexn := hex n n1 (by rw [← hj]; exact n2)
 rw [← hj] at hexn
 have hij : i - (n + 1) = j - 1 := by omega
 have hlt0 : i - (n + 1) < i - n := by omega
 rw [hij] at hL3'
 generalize M9 p i n = q at *
 (have zz:=trivial;repeat((first|clear zz|with_reducible first|refine A3 ?_|refine A5 fun _=>?_|refine A4 fun _=>?_);try simp(disch:=first|omega|assumption|((repeat(first|exact A1|exact uH|apply A2|apply uT));first|done|fail)|(simp;first|done|omega|fail))[c1, c1', ej, g1, g2]))
 refine C5 T0 (fun w' hw' => hc w' hw'.ks _ _ (hmem i (by omega)) (hmem (j - 1) (by omega))) ?_
 have hcm := A4Y (key (ix p i)) (key (ix p (j - 1)))
 by_cases c2 : key (ix p i) < key (ix p (j - 1))
 ·have c2' := hcm.2 c2
  generalize H8 (key (ix p i)) (key (ix p (j - 1))) = z at *
  (have zz:=trivial;repeat((first|clear zz|with_reducible first|refine A3 ?_|refine A5 fun _=>?_|refine A4 fun _=>?_);try simp(disch:=first|omega|assumption|((repeat(first|exact A1|exact uH|apply A2|apply uT));first|done|fail)|(simp;first|done|omega|fail))[c1, c1', c2', ej, g1, g2]))
  refine A09 (y := ix p (j - 1)) (by omega) ?_
  (have zz:=trivial;repeat((first|clear zz|with_reducible first|refine A3 ?_|refine A5 fun _=>?_|refine A4 fun _=>?_);try simp(disch:=first|omega|assumption|((repeat(first|exact A1|exact uH|apply A2|apply uT));first|done|fail)|(simp;first|done|omega|fail))[c1, c1', ej]))
  refine A09 (y := ix p i) (by simp; omega) ?_
  (have zz:=trivial;repeat((first|clear zz|with_reducible first|refine A3 ?_|refine A5 fun _=>?_|refine A4 fun _=>?_);try simp(disch:=first|omega|assumption|((repeat(first|exact A1|exact uH|apply A2|apply uT));first|done|fail)|(simp;first|done|omega|fail))[ej]))
  exact hL3' ⟨by omega, fun _ => c2⟩ (by omega)
 ·have c2' : ¬ H8 (key (ix p i)) (key (ix p (j - 1))) < 0 := fun h => c2 (hcm.1 h)
  generalize H8 (key (ix p i)) (key (ix p (j - 1))) = z at *
  (have zz:=trivial;repeat((first|clear zz|with_reducible first|refine A3 ?_|refine A5 fun _=>?_|refine A4 fun _=>?_);try simp(disch:=first|omega|assumption|((repeat(first|exact A1|exact uH|apply A2|apply uT));first|done|fail)|(simp;first|done|omega|fail))[c1, c1', c2']))
  exact hexn fun _ => c2
end Go.Proofs.YtlplkjgcfjdinaaGreat
namespace Go.Proofs.YtlplkjgcfjdinaaGreat
open Go
theorem A2c (i j : Nat) : ((i : Int) + j).fdiv (2 ^ min 1 IntKind.u64.bits) = (((i + j) / 2 : Nat) : Int) := by
 rw [show (2 : Int) ^ min 1 IntKind.u64.bits = 2 from rfl, Int.fdiv_eq_ediv_of_nonneg _ (by omega)]; omega
abbrev C0y (g bw : Nat) (key : Nat → Int) (w : World) (c : Nat) (l : List Nat) (a m b : Nat) : Prop :=
 A7w w (B2 [OI g l.length c l]) bw key l → G6 key l a m → G6 key l m b → St key l a m b → LW false (B2 [OI g l.length c l]) w [OI g l.length c l] w →
  Fn PR B5 41 #[.slice (some ⟨g, 0, none⟩) l.length c, .int .i64 (a : Int), .int .i64 (m : Int), .int .i64 (b : Int), A95 bw] w
   (Rn (B2 [OI g l.length c l]) w (fun (l' : List Nat) u => u = .tuple #[] ∧ G6 key l' a b ∧ Mix l a b l') fun l' => [OI g l.length c l'])
abbrev C4p (g bw : Nat) (key : Nat → Int) (k : Nat) : Prop := ∀ (w : World) (c : Nat) (l : List Nat) (a m b : Nat), b - a ≤ k → a < m → m < b → b ≤ l.length → l.length ≤ 1000 → C0y g bw key w c l a m b
theorem B52 {κ : Bool} {S : List Nat} {w0 : World} {H : List Res} {F : WP} {A : WP → WP} {α : Type} (φ : α → Prop) (Hj : α → List Res) (hF : ∀ x, φ x → TW κ S w0 (Hj x) F) (hA : ∀ J : WP, (∀ x, φ x → TW κ S w0 (Hj x) J) → TW κ S w0 H (A J)) : TW κ S w0 H (jn (n := 0) F A) := hA F hF
theorem C1l {κ : Bool} {S : List Nat} {w0 : World} {H : List Res} {P : Prop} [Decidable P] {A : Value → Value → WP} {a1 a2 b1 b2 s r : Value} (h1 : P → a1 = s ∧ a2 = r) (h2 : ¬ P → b1 = s ∧ b2 = r) (h : TW κ S w0 H (A s r)) : if P then TW κ S w0 H (A a1 a2) else TW κ S w0 H (A b1 b2) := by
 split
 ·rename_i hp; rw [(h1 hp).1, (h1 hp).2]; exact h
 ·rename_i hp; rw [(h2 hp).1, (h2 hp).2]; exact h
theorem B95 {l : List Nat} {s m e : Nat} (h1 : s ≤ m) (h2 : m ≤ e) (h3 : e ≤ l.length) (h : ¬ (s < m ∧ m < e)) : L0 l s m e = l := by
 apply A7j
 ·rw [d8 h1 h2 h3]
 intro t ht
 rw [P8 h1 h2 h3]
 congr 1; unfold Y8; repeat' split
 all_goals omega
set_option maxHeartbeats 2000000 in
theorem B6f (g bw : Nat) (key : Nat → Int) (k : Nat) (ih : C4p g bw key k) (w : World) (c : Nat) (l : List Nat) (a m b : Nat) (hk : b - a ≤ k + 1) (ham : a + 1 < m) (hmb : m + 1 < b) (hbl : b ≤ l.length) (hl : l.length ≤ 1000) : C0y g bw key w c l a m b := by
 intro hc hS1 hS2 hSt hw
 refine Y0 (TW.goH (κ := false) (S := B2 [OI g l.length c l]) ?_ hw)
 unfold P2
 generalize hS : B2 [OI g l.length c l] = S at *
 have hmem : ∀ x, x < l.length → ix l x ∈ l := fun x hx => A5j hx
 have c1' : ¬ (m : Int) - a = 1 := by omega
 have c5' : ¬ (b : Int) - m = 1 := by omega
 obtain ⟨md, hmd⟩ : ∃ md, md = (a + b) / 2 := ⟨_, rfl⟩
 have eh := A2c a b
 rw [← hmd] at eh
 obtain ⟨s0, hs0⟩ : ∃ s0 : Nat, s0 = if md < m then md + m - b else a := ⟨_, rfl⟩
 obtain ⟨r0, hr0⟩ : ∃ r0 : Nat, r0 = if md < m then md else m := ⟨_, rfl⟩
 obtain ⟨q, hq⟩ : ∃ q : Nat, q = md + m - 1 := ⟨_, rfl⟩
 have w1 : IntKind.i64.wrap ((md : Int) + m - 1) = (q : Nat) := by rw [d9 (by omega) (by omega)]; omega
 have w2 : IntKind.i64.wrap ((md : Int) + m) = ((md + m : Nat) : Int) := by rw [d9 (by omega) (by omega)]; omega
 have w3 : IntKind.i64.wrap (md : Int) = (md : Nat) := d9 (by omega) (by omega)
 have hs1 : md < m → s0 = md + m - b ∧ r0 = md := fun h => by rw [hs0, hr0, if_pos h, if_pos h]; exact ⟨rfl, rfl⟩
 have hs2 : ¬ md < m → s0 = a ∧ r0 = m := fun h => by rw [hs0, hr0, if_neg h, if_neg h]; exact ⟨rfl, rfl⟩
 clear hs0 hr0
 (have zz:=trivial;repeat((first|clear zz|with_reducible first|refine A3 ?_|refine A5 fun _=>?_|refine A4 fun _=>?_);try simp(disch:=first|omega|assumption|((repeat(first|exact A1|exact uH|apply A2|apply uT));first|done|fail)|(simp;first|done|omega|fail))[c1', c5', eh]))
 refine C1l (s := .int .i64 (s0 : Nat)) (r := .int .i64 (r0 : Nat)) (fun h => ?_) (fun h => ?_) ?_
 ·have := hs1 h
  refine ⟨?_, ?_⟩
  ·congr 1; omega
  ·congr 1; omega
 ·have := hs2 h
  refine ⟨?_, ?_⟩
  ·congr 1; omega
  ·congr 1; omega
 rw [w1, w2, w3]
 have hsr : s0 ≤ r0 ∧ a ≤ s0 ∧ r0 ≤ m ∧ r0 ≤ md ∧ md + m - s0 ≤ b := by
  by_cases h : md < m
  ·have := hs1 h; omega
  ·have := hs2 h; omega
 obtain ⟨z1, z2, z3, z4, z5⟩ := hsr
 refine A1e (fun _ : Nat × Nat => [OI g l.length c l]) (fun z => s0 ≤ z.1 ∧ z.1 ≤ z.2 ∧ z.2 ≤ r0 ∧ (s0 < z.1 → ¬ key (ix l (q - (z.1 - 1))) < key (ix l (z.1 - 1))) ∧ (z.2 < r0 → key (ix l (q - z.2)) < key (ix l z.2))) (fun z => z.2 - z.1) (s0, r0) (fun z => .int .i64 (z.1 : Nat)) (fun z => .int .i64 (z.2 : Nat)) ⟨Nat.le_refl _, by simp only; omega, Nat.le_refl _, fun h => by simp only at h; omega, fun h => by simp only at h; omega⟩ ?_
 rintro ⟨i, j⟩ ⟨i1, i2, i3, p1, p2⟩ L hL
 simp only at i1 i2 i3 p1 p2 hL ⊢
 by_cases c2 : i < j
 ·have eh2 := A2c i j
  obtain ⟨h, hh⟩ : ∃ h, h = (i + j) / 2 := ⟨_, rfl⟩
  rw [← hh] at eh2
  have h1 : i ≤ h := by omega
  have h2 : h < j := by omega
  have eq1 : ((q : Int) - h) = ((q - h : Nat) : Int) := by omega
  have g1 := N7 (l := l) (x := q - h) (by omega)
  have g2 := N7 (l := l) (x := h) (by omega)
  have hcm := A4Y (key (ix l (q - h))) (key (ix l h))
  have hL1 := hL (h + 1, j)
  have hL2 := hL (i, h)
  simp only at hL1 hL2
  clear hL hh hs1 hs2
  have hqh : q - h < l.length := by omega
  (have zz:=trivial;repeat((first|clear zz|with_reducible first|refine A3 ?_|refine A5 fun _=>?_|refine A4 fun _=>?_);try simp(disch:=first|omega|assumption|((repeat(first|exact A1|exact uH|apply A2|apply uT));first|done|fail)|(simp;first|done|omega|fail))[c2, eh2, eq1, g1, g2]))
  refine C5 T0 (fun w' hw' => hc w' hw'.ks _ _ (hmem (q - h) (by omega)) (hmem h (by omega))) ?_
  by_cases c3 : key (ix l (q - h)) < key (ix l h)
  ·have c3' := hcm.2 c3
   generalize H8 (key (ix l (q - h))) (key (ix l h)) = z at *
   (have zz:=trivial;repeat((first|clear zz|with_reducible first|refine A3 ?_|refine A5 fun _=>?_|refine A4 fun _=>?_);try simp(disch:=first|omega|assumption|((repeat(first|exact A1|exact uH|apply A2|apply uT));first|done|fail)|(simp;first|done|omega|fail))[c3']))
   exact hL2 ⟨i1, h1, by omega, p1, fun _ => c3⟩ (by omega)
  ·have c3' : ¬ H8 (key (ix l (q - h))) (key (ix l h)) < 0 := fun h => c3 (hcm.1 h)
   generalize H8 (key (ix l (q - h))) (key (ix l h)) = z at *
   (have zz:=trivial;repeat((first|clear zz|with_reducible first|refine A3 ?_|refine A5 fun _=>?_|refine A4 fun _=>?_);try simp(disch:=first|omega|assumption|((repeat(first|exact A1|exact uH|apply A2|apply uT));first|done|fail)|(simp;first|done|omega|fail))[c3']))
   exact hL1 ⟨by omega, by omega, i3, fun _ => c3, p2⟩ (by omega)
 obtain rfl : i = j := by omega
 clear hL
 obtain ⟨e, he⟩ : ∃ e : Nat, e = md + m - i := ⟨_, rfl⟩
 have eE : ((md + m : Nat) : Int) - (i : Int) = (e : Nat) := by omega
 have eE' : ((md : Int) + (m : Int) - (i : Int)) = (e : Nat) := by omega
 have him : i ≤ m := by omega
 have hme : m ≤ e := by omega
 have heb : e ≤ b := by omega
 have hH := A6B (key := key) (l := l) (a := a) (s := i) (m := m) (e := e) (b := b) (by omega) him hme heb hbl hS1 hS2 hSt
  (fun h1 h2 => by
   have h3 : s0 < i := by
    by_cases h : md < m
    ·have := hs1 h; omega
    ·have := hs2 h; omega
   have := p1 h3
   rwa [show q - (i - 1) = e by omega] at this)
  (fun h1 h2 => by
   have h3 : i < r0 := by
    by_cases h : md < m
    ·have := hs1 h; omega
    ·have := hs2 h; omega
   have := p2 h3
   rwa [show q - i = e - 1 by omega] at this)
 have hmid : i + (e - m) = md := by omega
 rw [hmid] at hH
 have hrm := (A9k (l := l) him hme (by omega)).wide (show a ≤ i by omega) heb
 have hc0 : ¬ (i : Int) < (i : Int) := by omega
 clear p1 p2 hs1 hs2
 rw [A4V]
 (have zz:=trivial;repeat((first|clear zz|with_reducible first|refine A3 ?_|refine A5 fun _=>?_|refine A4 fun _=>?_);try simp(disch:=first|omega|assumption|((repeat(first|exact A1|exact uH|apply A2|apply uT));first|done|fail)|(simp;first|done|omega|fail))[-A4V, hc0, eE, eE']))
 refine B52 (φ := fun l1 => l1 = L0 l i m e) (fun l1 => [OI g l.length c l1]) ?_ ?_
 case refine_2 =>
  intro J hJ
  by_cases cR : i < m ∧ m < e
  ·obtain ⟨cR1, cR2⟩ := cR
   (have zz:=trivial;repeat((first|clear zz|with_reducible first|refine A3 ?_|refine A5 fun _=>?_|refine A4 fun _=>?_);try simp(disch:=first|omega|assumption|((repeat(first|exact A1|exact uH|apply A2|apply uT));first|done|fail)|(simp;first|done|omega|fail))[cR1, cR2, eE, eE']))
   refine E5 (Hc := [OI g l.length c l]) A0Q (fun w' hw hs => B60 w' g c l i m e (A95 bw) cR1 cR2 (by omega) hl hs) (by (repeat' constructor)) ?_
   rintro _ _ rfl
   exact hJ _ rfl
  ·have e1 := B95 him hme (show e ≤ l.length by omega) cR
   have h := hJ l e1.symm
   by_cases cA : i < m
   ·have cB : ¬ m < e := fun h => cR ⟨cA, h⟩
    (have zz:=trivial;repeat((first|clear zz|with_reducible first|refine A3 ?_|refine A5 fun _=>?_|refine A4 fun _=>?_);try simp(disch:=first|omega|assumption|((repeat(first|exact A1|exact uH|apply A2|apply uT));first|done|fail)|(simp;first|done|omega|fail))[cA, cB, eE, eE']))
    exact h
   ·(have zz:=trivial;repeat((first|clear zz|with_reducible first|refine A3 ?_|refine A5 fun _=>?_|refine A4 fun _=>?_);try simp(disch:=first|omega|assumption|((repeat(first|exact A1|exact uH|apply A2|apply uT));first|done|fail)|(simp;first|done|omega|fail))[cA, eE, eE']))
    exact h
 rintro l1 rfl
 generalize L0 l i m e = l1 at *
 have hl1 := hrm.len
 have hmem1 : ∀ x, x ∈ l1 → x ∈ l := fun x hx => hrm.perm.mem_iff.1 hx
 refine B52 (φ := fun l2 => Mix l1 a md l2 ∧ G6 key l2 a md) (fun l2 => [OI g l.length c l2]) ?_ ?_
 case refine_2 =>
  intro J hJ
  by_cases cL : a < i ∧ i < md
  ·obtain ⟨cL1, cL2⟩ := cL
   (have zz:=trivial;repeat((first|clear zz|with_reducible first|refine A3 ?_|refine A5 fun _=>?_|refine A4 fun _=>?_);try simp(disch:=first|omega|assumption|((repeat(first|exact A1|exact uH|apply A2|apply uT));first|done|fail)|(simp;first|done|omega|fail))[cL1, cL2, eE, eE']))
   rw [← hl1]
   refine E5 (Hc := [OI g l1.length c l1]) N5 (fun w' hw hs => ih w' c l1 a i md (by omega) cL1 cL2 (by omega) (by omega) (fun w'' hw'' x y hx hy => hc w'' ((hw.ks.low.trans (by rw [← hS]; exact hw''))) x y (hmem1 x hx) (hmem1 y hy)) hH.s1 hH.s2 hH.st1 hs) (by (repeat' constructor)) ?_
   rintro l2 _ ⟨rfl, h1, h2⟩
   rw [hl1]
   exact hJ l2 ⟨h2, h1⟩
  ·have h := hJ l1 ⟨Mix.refl .., fun x y x1 x2 x3 => by
    by_cases h : a < i
    ·exact hH.s1 x y x1 x2 (by omega)
    ·exact hH.s2 x y (by omega) x2 x3⟩
   by_cases cA : a < i
   ·have cB : ¬ i < md := fun h => cL ⟨cA, h⟩
    (have zz:=trivial;repeat((first|clear zz|with_reducible first|refine A3 ?_|refine A5 fun _=>?_|refine A4 fun _=>?_);try simp(disch:=first|omega|assumption|((repeat(first|exact A1|exact uH|apply A2|apply uT));first|done|fail)|(simp;first|done|omega|fail))[cA, cB, eE, eE']))
    exact h
   ·(have zz:=trivial;repeat((first|clear zz|with_reducible first|refine A3 ?_|refine A5 fun _=>?_|refine A4 fun _=>?_);try simp(disch:=first|omega|assumption|((repeat(first|exact A1|exact uH|apply A2|apply uT));first|done|fail)|(simp;first|done|omega|fail))[cA, eE, eE']))
    exact h
 rintro l2 ⟨hm2, hs2⟩
 have hl2 := hm2.len
 have hmem2 : ∀ x, x ∈ l2 → x ∈ l := fun x hx => hmem1 x (hm2.perm.mem_iff.1 hx)
 have t3 : G6 key l2 md e := hH.s3.same fun x x1 x2 => hm2.out x (by omega)
 have t4 : G6 key l2 e b := hH.s4.same fun x x1 x2 => hm2.out x (by omega)
 have tt : St key l2 md e b := hH.st2.same (fun x x1 x2 => hm2.out x (by omega)) (by omega) heb
 by_cases cL : md < e ∧ e < b
 ·obtain ⟨cL1, cL2⟩ := cL
  (have zz:=trivial;repeat((first|clear zz|with_reducible first|refine A3 ?_|refine A5 fun _=>?_|refine A4 fun _=>?_);try simp(disch:=first|omega|assumption|((repeat(first|exact A1|exact uH|apply A2|apply uT));first|done|fail)|(simp;first|done|omega|fail))[cL1, cL2, eE, eE']))
  rw [← hl1, ← hl2]
  refine E5 (Hc := [OI g l2.length c l2]) N5 (fun w' hw hs => ih w' c l2 md e b (by omega) cL1 cL2 (by omega) (by omega) (fun w'' hw'' x y hx hy => hc w'' ((hw.ks.low.trans (by rw [← hS]; exact hw''))) x y (hmem2 x hx) (hmem2 y hy)) t3 t4 tt hs) (by (repeat' constructor)) ?_
  rintro l3 _ ⟨rfl, h1, h2⟩
  have hfin := B6q hH (by omega) (by omega) hm2 hs2 h2 h1
  exact C3 _ ⟨rfl, hfin.1, hrm.trans hfin.2⟩ (by (repeat' constructor))
 ·have hfin := B6q hH (by omega) (by omega) hm2 hs2 (Mix.refl _ md b) (fun x y x1 x2 x3 => by
    by_cases h : md < e
    ·exact t3 x y x1 x2 (by omega)
    ·exact t4 x y (by omega) x2 x3)
  by_cases cA : md < e
  ·have cB : ¬ e < b := fun h => cL ⟨cA, h⟩
   (have zz:=trivial;repeat((first|clear zz|with_reducible first|refine A3 ?_|refine A5 fun _=>?_|refine A4 fun _=>?_);try simp(disch:=first|omega|assumption|((repeat(first|exact A1|exact uH|apply A2|apply uT));first|done|fail)|(simp;first|done|omega|fail))[cA, cB, eE, eE']))
   exact C3 _ ⟨rfl, hfin.1, hrm.trans hfin.2⟩ (by (repeat' constructor))
  ·(have zz:=trivial;repeat((first|clear zz|with_reducible first|refine A3 ?_|refine A5 fun _=>?_|refine A4 fun _=>?_);try simp(disch:=first|omega|assumption|((repeat(first|exact A1|exact uH|apply A2|apply uT));first|done|fail)|(simp;first|done|omega|fail))[cA, eE, eE']))
   exact C3 _ ⟨rfl, hfin.1, hrm.trans hfin.2⟩ (by (repeat' constructor))
set_option maxHeartbeats 2000000 in
theorem B3c (g bw : Nat) (key : Nat → Int) : ∀ (k : Nat) (w : World) (c : Nat) (l : List Nat) (a m b : Nat), b - a ≤ k → a < m → m < b → b ≤ l.length → l.length ≤ 1000 → A7w w (B2 [OI g l.length c l]) bw key l → G6 key l a m → G6 key l m b → St key l a m b →
  LW false (B2 [OI g l.length c l]) w [OI g l.length c l] w → Fn PR B5 41 #[.slice (some ⟨g, 0, none⟩) l.length c, .int .i64 (a : Int), .int .i64 (m : Int), .int .i64 (b : Int), A95 bw] w
   (Rn (B2 [OI g l.length c l]) w (fun (l' : List Nat) u => u = .tuple #[] ∧ G6 key l' a b ∧ Mix l a b l') fun l' => [OI g l.length c l']) := by
 intro k
 induction k with
 | zero => intro w c l a m b h1 h2 h3; omega
 | succ k ih =>
 intro w c l a m b hk ham hmb hbl hl hc hS1 hS2 hSt hw
 by_cases hgen : a + 1 < m ∧ m + 1 < b
 ·exact B6f g bw key k ih w c l a m b hk hgen.1 hgen.2 hbl hl hc hS1 hS2 hSt hw
 refine Y0 (TW.goH (κ := false) (S := B2 [OI g l.length c l]) ?_ hw)
 unfold P2
 generalize hS : B2 [OI g l.length c l] = S at *
 have hmem : ∀ x, x < l.length → ix l x ∈ l := fun x hx => A5j hx
 by_cases c1 : m = a + 1
 ·have e1 : (m : Int) - a = 1 := by omega
  (have zz:=trivial;repeat((first|clear zz|with_reducible first|refine A3 ?_|refine A5 fun _=>?_|refine A4 fun _=>?_);try simp(disch:=first|omega|assumption|((repeat(first|exact A1|exact uH|apply A2|apply uT));first|done|fail)|(simp;first|done|omega|fail))[e1]))
  refine A1e (fun _ : Nat × Nat => [OI g l.length c l]) (fun z => m ≤ z.1 ∧ z.1 ≤ z.2 ∧ z.2 ≤ b ∧ (m < z.1 → key (ix l (z.1 - 1)) < key (ix l a)) ∧ (z.2 < b → ¬ key (ix l z.2) < key (ix l a))) (fun z => z.2 - z.1) (m, b) (fun z => .int .i64 (z.1 : Nat)) (fun z => .int .i64 (z.2 : Nat)) ⟨Nat.le_refl _, by simp only; omega, Nat.le_refl _, fun h => by simp only at h; omega, fun h => by simp only at h; omega⟩ ?_
  rintro ⟨i, j⟩ ⟨i1, i2, i3, p1, p2⟩ L hL
  simp only at i1 i2 i3 p1 p2 hL ⊢
  by_cases c2 : i < j
  ·have eh := A2c i j
   have g1 := N7 (l := l) (x := (i + j) / 2) (by omega)
   have g2 := N7 (l := l) (x := a) (by omega)
   obtain ⟨h, hh⟩ : ∃ h, h = (i + j) / 2 := ⟨_, rfl⟩
   have h1 : i ≤ h := by omega
   have h2 : h < j := by omega
   rw [← hh] at eh g1
   have hcm := A4Y (key (ix l h)) (key (ix l a))
   have hL1 := hL (h + 1, j)
   have hL2 := hL (i, h)
   simp only at hL1 hL2
   clear hL hh
   (have zz:=trivial;repeat((first|clear zz|with_reducible first|refine A3 ?_|refine A5 fun _=>?_|refine A4 fun _=>?_);try simp(disch:=first|omega|assumption|((repeat(first|exact A1|exact uH|apply A2|apply uT));first|done|fail)|(simp;first|done|omega|fail))[c2, eh, g1, g2]))
   refine C5 T0 (fun w' hw' => hc w' hw'.ks _ _ (hmem h (by omega)) (hmem a (by omega))) ?_
   by_cases c3 : key (ix l h) < key (ix l a)
   ·have c3' := hcm.2 c3
    generalize H8 (key (ix l h)) (key (ix l a)) = z at *
    (have zz:=trivial;repeat((first|clear zz|with_reducible first|refine A3 ?_|refine A5 fun _=>?_|refine A4 fun _=>?_);try simp(disch:=first|omega|assumption|((repeat(first|exact A1|exact uH|apply A2|apply uT));first|done|fail)|(simp;first|done|omega|fail))[c3']))
    exact hL1 ⟨by omega, by omega, i3, fun _ => c3, p2⟩ (by omega)
   ·have c3' : ¬ H8 (key (ix l h)) (key (ix l a)) < 0 := fun h => c3 (hcm.1 h)
    generalize H8 (key (ix l h)) (key (ix l a)) = z at *
    (have zz:=trivial;repeat((first|clear zz|with_reducible first|refine A3 ?_|refine A5 fun _=>?_|refine A4 fun _=>?_);try simp(disch:=first|omega|assumption|((repeat(first|exact A1|exact uH|apply A2|apply uT));first|done|fail)|(simp;first|done|omega|fail))[c3']))
    exact hL2 ⟨i1, h1, by omega, p1, fun _ => c3⟩ (by omega)
  ·obtain rfl : i = j := by omega
   have hfin := B8H (key := key) (l := l) (a := a) (e := i) (b := b) (by omega) i3 hbl (by rw [← c1]; exact hS2) (by rw [← c1]; exact hSt) p2 (fun h => p1 (by omega))
   rw [← show upL l a (i - a - 1) = L0 l a (a + 1) i by rw [B9u (by omega)]; congr 1; omega] at hfin
   (have zz:=trivial;repeat((first|clear zz|with_reducible first|refine A3 ?_|refine A5 fun _=>?_|refine A4 fun _=>?_);try simp(disch:=first|omega|assumption|((repeat(first|exact A1|exact uH|apply A2|apply uT));first|done|fail)|(simp;first|done|omega|fail))[c2]))
   clear hL
   refine A4l (fun n : Nat => [OI g l.length c (upL l a n)]) (fun n => n ≤ i - a - 1) (fun n => i - n) 0 (fun n => .int .i64 ((a + n : Nat) : Int)) (Nat.zero_le _) ?_
   intro n hn L hL
   have hq := A9D l a n
   obtain ⟨j, hj⟩ : ∃ j, j = a + n := ⟨_, rfl⟩
   have hL' := hL (n + 1)
   rw [upL, A4M, ← hj] at hL'
   rw [show a + (n + 1) = j + 1 by omega] at hL'
   rw [← hj]
   clear hL
   by_cases c4 : j < i - 1
   ·have c4' : (j : Int) < (i : Int) - 1 := by omega
    have ej : ((j : Int) + 1).toNat = j + 1 := by omega
    have g1 := N7 (l := upL l a n) (x := j) (by omega)
    have g2 := N7 (l := upL l a n) (x := j + 1) (by omega)
    generalize upL l a n = q at *
    (have zz:=trivial;repeat((first|clear zz|with_reducible first|refine A3 ?_|refine A5 fun _=>?_|refine A4 fun _=>?_);try simp(disch:=first|omega|assumption|((repeat(first|exact A1|exact uH|apply A2|apply uT));first|done|fail)|(simp;first|done|omega|fail))[c4', ej, g1, g2]))
    refine A09 (y := ix q (j + 1)) (by omega) ?_
    (have zz:=trivial;repeat((first|clear zz|with_reducible first|refine A3 ?_|refine A5 fun _=>?_|refine A4 fun _=>?_);try simp(disch:=first|omega|assumption|((repeat(first|exact A1|exact uH|apply A2|apply uT));first|done|fail)|(simp;first|done|omega|fail))[ej]))
    refine A09 (y := ix q j) (by simp; omega) ?_
    (have zz:=trivial;repeat((first|clear zz|with_reducible first|refine A3 ?_|refine A5 fun _=>?_|refine A4 fun _=>?_);try simp(disch:=first|omega|assumption|((repeat(first|exact A1|exact uH|apply A2|apply uT));first|done|fail)|(simp;first|done|omega|fail))[]))
    exact hL' (by omega) (by omega)
   ·have c4' : ¬ (j : Int) < (i : Int) - 1 := by omega
    obtain rfl : n = i - a - 1 := by omega
    (have zz:=trivial;repeat((first|clear zz|with_reducible first|refine A3 ?_|refine A5 fun _=>?_|refine A4 fun _=>?_);try simp(disch:=first|omega|assumption|((repeat(first|exact A1|exact uH|apply A2|apply uT));first|done|fail)|(simp;first|done|omega|fail))[c4']))
    exact C3 _ ⟨rfl, hfin⟩ (by (repeat' constructor))
 have c1' : ¬ (m : Int) - a = 1 := by omega
 by_cases c5 : b = m + 1
 ·have e1 : (b : Int) - m = 1 := by omega
  (have zz:=trivial;repeat((first|clear zz|with_reducible first|refine A3 ?_|refine A5 fun _=>?_|refine A4 fun _=>?_);try simp(disch:=first|omega|assumption|((repeat(first|exact A1|exact uH|apply A2|apply uT));first|done|fail)|(simp;first|done|omega|fail))[c1', e1]))
  refine A1e (fun _ : Nat × Nat => [OI g l.length c l]) (fun z => a ≤ z.1 ∧ z.1 ≤ z.2 ∧ z.2 ≤ m ∧ (a < z.1 → ¬ key (ix l m) < key (ix l (z.1 - 1))) ∧ (z.2 < m → key (ix l m) < key (ix l z.2))) (fun z => z.2 - z.1) (a, m) (fun z => .int .i64 (z.1 : Nat)) (fun z => .int .i64 (z.2 : Nat)) ⟨Nat.le_refl _, by simp only; omega, Nat.le_refl _, fun h => by simp only at h; omega, fun h => by simp only at h; omega⟩ ?_
  rintro ⟨i, j⟩ ⟨i1, i2, i3, p1, p2⟩ L hL
  simp only at i1 i2 i3 p1 p2 hL ⊢
  by_cases c2 : i < j
  ·have eh := A2c i j
   have g1 := N7 (l := l) (x := (i + j) / 2) (by omega)
   have g2 := N7 (l := l) (x := m) (by omega)
   obtain ⟨h, hh⟩ : ∃ h, h = (i + j) / 2 := ⟨_, rfl⟩
   have h1 : i ≤ h := by omega
   have h2 : h < j := by omega
   rw [← hh] at eh g1
   have hcm := A4Y (key (ix l m)) (key (ix l h))
   have hL1 := hL (h + 1, j)
   have hL2 := hL (i, h)
   simp only at hL1 hL2
   clear hL hh
   (have zz:=trivial;repeat((first|clear zz|with_reducible first|refine A3 ?_|refine A5 fun _=>?_|refine A4 fun _=>?_);try simp(disch:=first|omega|assumption|((repeat(first|exact A1|exact uH|apply A2|apply uT));first|done|fail)|(simp;first|done|omega|fail))[c2, eh, g1, g2]))
   refine C5 T0 (fun w' hw' => hc w' hw'.ks _ _ (hmem m (by omega)) (hmem h (by omega))) ?_
   by_cases c3 : key (ix l m) < key (ix l h)
   ·have c3' := hcm.2 c3
    generalize H8 (key (ix l m)) (key (ix l h)) = z at *
    (have zz:=trivial;repeat((first|clear zz|with_reducible first|refine A3 ?_|refine A5 fun _=>?_|refine A4 fun _=>?_);try simp(disch:=first|omega|assumption|((repeat(first|exact A1|exact uH|apply A2|apply uT));first|done|fail)|(simp;first|done|omega|fail))[c3']))
    exact hL2 ⟨i1, h1, by omega, p1, fun _ => c3⟩ (by omega)
   ·have c3' : ¬ H8 (key (ix l m)) (key (ix l h)) < 0 := fun h => c3 (hcm.1 h)
    generalize H8 (key (ix l m)) (key (ix l h)) = z at *
    (have zz:=trivial;repeat((first|clear zz|with_reducible first|refine A3 ?_|refine A5 fun _=>?_|refine A4 fun _=>?_);try simp(disch:=first|omega|assumption|((repeat(first|exact A1|exact uH|apply A2|apply uT));first|done|fail)|(simp;first|done|omega|fail))[c3']))
    exact hL1 ⟨by omega, by omega, i3, fun _ => c3, p2⟩ (by omega)
  ·obtain rfl : i = j := by omega
   subst c5
   have hfin := B0c (key := key) (l := l) (a := a) (s := i) (m := m) i1 i3 (by omega) hS1 hSt p1 p2
   have hrot := B0G (l := l) (m := m) (n := m - i) (by omega) (by omega)
   rw [show m - (m - i) = i by omega] at hrot
   rw [← hrot] at hfin
   (have zz:=trivial;repeat((first|clear zz|with_reducible first|refine A3 ?_|refine A5 fun _=>?_|refine A4 fun _=>?_);try simp(disch:=first|omega|assumption|((repeat(first|exact A1|exact uH|apply A2|apply uT));first|done|fail)|(simp;first|done|omega|fail))[c2]))
   clear hL
   refine A4l (fun n : Nat => [OI g l.length c (M9 l m n)]) (fun n => n ≤ m - i) (fun n => m - n) 0 (fun n => .int .i64 ((m - n : Nat) : Int)) (Nat.zero_le _) ?_
   intro n hn L hL
   have hq := A2u l m n
   obtain ⟨j, hj⟩ : ∃ j, j = m - n := ⟨_, rfl⟩
   have hL' := hL (n + 1)
   rw [M9, A4M, ← hj] at hL'
   rw [show m - (n + 1) = j - 1 by omega] at hL'
   rw [← hj]
   clear hL
   by_cases c4 : i < j
   ·have c4' : (i : Int) < (j : Int) := by omega
    have ej : ((j : Int) - 1) = ((j - 1 : Nat) : Int) := by omega
    have g1 := N7 (l := M9 l m n) (x := j) (by omega)
    have g2 := N7 (l := M9 l m n) (x := j - 1) (by omega)
    have hm2 : j - 1 < j := by omega
    generalize M9 l m n = q at *
    (have zz:=trivial;repeat((first|clear zz|with_reducible first|refine A3 ?_|refine A5 fun _=>?_|refine A4 fun _=>?_);try simp(disch:=first|omega|assumption|((repeat(first|exact A1|exact uH|apply A2|apply uT));first|done|fail)|(simp;first|done|omega|fail))[c4, c4', ej, g1, g2]))
    refine A09 (y := ix q (j - 1)) (by omega) ?_
    (have zz:=trivial;repeat((first|clear zz|with_reducible first|refine A3 ?_|refine A5 fun _=>?_|refine A4 fun _=>?_);try simp(disch:=first|omega|assumption|((repeat(first|exact A1|exact uH|apply A2|apply uT));first|done|fail)|(simp;first|done|omega|fail))[ej]))
    refine A09 (y := ix q j) (by simp; omega) ?_
    (have zz:=trivial;repeat((first|clear zz|with_reducible first|refine A3 ?_|refine A5 fun _=>?_|refine A4 fun _=>?_);try simp(disch:=first|omega|assumption|((repeat(first|exact A1|exact uH|apply A2|apply uT));first|done|fail)|(simp;first|done|omega|fail))[ej]))
    exact hL' (by omega) (by omega)
   ·have c4' : ¬ (i : Int) < (j : Int) := by omega
    obtain rfl : n = m - i := by omega
    (have zz:=trivial;repeat((first|clear zz|with_reducible first|refine A3 ?_|refine A5 fun _=>?_|refine A4 fun _=>?_);try simp(disch:=first|omega|assumption|((repeat(first|exact A1|exact uH|apply A2|apply uT));first|done|fail)|(simp;first|done|omega|fail))[c4, c4']))
    exact C3 _ ⟨rfl, hfin⟩ (by (repeat' constructor))
 exact absurd (show a + 1 < m ∧ m + 1 < b by omega) hgen
end Go.Proofs.YtlplkjgcfjdinaaGreat
namespace Go.Proofs.YtlplkjgcfjdinaaGreat
open Go
theorem G6.nil {key : Nat → Int} {l : List Nat} {a : Nat} : G6 key l a a := fun i j _ _ _ => by omega
theorem B6C (w : World) (g c : Nat) (l : List Nat) (bw : Nat) (key : Nat → Int) (hc : A7w w (B2 [OI g l.length c l]) bw key l) (hI : Inc l 0 l.length) (hl : l.length ≤ 30) (hw : LW false (B2 [OI g l.length c l]) w [OI g l.length c l] w) :
  Fn PR B5 31 #[.slice (some ⟨g, 0, none⟩) l.length c, .int .i64 (l.length : Int), A95 bw] w (Rn (B2 [OI g l.length c l]) w (fun (l' : List Nat) u => u = .tuple #[] ∧ G6 key l' 0 l.length ∧ l'.Perm l) fun l' => [OI g l.length c l']) := by
 refine Z6 (TW.goH (κ := false) (S := B2 [OI g l.length c l]) ?_ hw)
 unfold Q0
 generalize hS : B2 [OI g l.length c l] = S at *
 have hmm : ∀ {p : List Nat}, p.Perm l → A7w w S bw key p := fun {p} hp w' hw' x y hx hy => hc w' hw' x y (hp.mem_iff.1 hx) (hp.mem_iff.1 hy)
 have hcall : ∀ {w' : World} {p : List Nat} {Hk : List Res}, LW false S w Hk w' → p.length = l.length → p.Perm l → A7w w' (B2 [OI g p.length c p]) bw key p := fun {w'} {p} {Hk} hw' hpl hp w'' hw'' => hmm hp w'' (hw'.ks.trans (by rw [← hS]; exact hw''))
 (have zz:=trivial;repeat((first|clear zz|with_reducible first|refine A3 ?_|refine A5 fun _=>?_|refine A4 fun _=>?_);try simp(disch:=first|omega|assumption|((repeat(first|exact A1|exact uH|apply A2|apply uT));first|done|fail)|(simp;first|done|omega|fail))[]))
 refine A1e (fun z : Nat × List Nat => [OI g l.length c z.2]) (fun z => (z.1 = 0 ∧ z.2 = l) ∨ (z.1 = 20 ∧ 20 ≤ l.length ∧ G6 key z.2 0 20 ∧ Mix l 0 20 z.2)) (fun z => 40 - z.1) (0, l) (fun z => .int .i64 (z.1 : Nat)) (fun z => .int .i64 ((z.1 + 20 : Nat) : Int)) (Or.inl ⟨rfl, rfl⟩) ?_
 rintro ⟨a, p⟩ hz L hL
 simp only at hz hL ⊢
 by_cases hgo : a = 0 ∧ 20 ≤ l.length
 ·obtain ⟨rfl, h20⟩ := hgo
  have hpl : p = l := by
   rcases hz with h | h
   ·exact h.2
   ·omega
  subst hpl
  have c1 : (20 : Int) ≤ (p.length : Nat) := by omega
  have h := fun q : List Nat => hL (20, q)
  simp only at h
  clear hL hz
  (have zz:=trivial;repeat((first|clear zz|with_reducible first|refine A3 ?_|refine A5 fun _=>?_|refine A4 fun _=>?_);try simp(disch:=first|omega|assumption|((repeat(first|exact A1|exact uH|apply A2|apply uT));first|done|fail)|(simp;first|done|omega|fail))[c1]))
  refine E5 (Hc := [OI g p.length c p]) K3 (fun w' hw hs => A8B w' g c p 0 20 bw key (hcall hw rfl (List.Perm.refl _)) (hI.mono (Nat.le_refl _) h20) (by omega) h20 (by omega) hs) (by (repeat' constructor)) ?_
  rintro q _ ⟨rfl, h1, h2⟩
  (have zz:=trivial;repeat((first|clear zz|with_reducible first|refine A3 ?_|refine A5 fun _=>?_|refine A4 fun _=>?_);try simp(disch:=first|omega|assumption|((repeat(first|exact A1|exact uH|apply A2|apply uT));first|done|fail)|(simp;first|done|omega|fail))[]))
  exact h q (Or.inr ⟨trivial, h20, h1, h2⟩) (by omega)
 have hend : a ≤ l.length ∧ ¬ (a + 20 ≤ l.length) ∧ p.length = l.length ∧ p.Perm l ∧ Mix l 0 a p ∧ G6 key p 0 a := by
  rcases hz with ⟨rfl, rfl⟩ | ⟨rfl, h1, h2, h3⟩
  ·exact ⟨by omega, by omega, rfl, List.Perm.refl _, Mix.refl .., G6.nil⟩
  ·exact ⟨h1, by omega, h3.len, h3.perm, h3, h2⟩
 obtain ⟨ha, hb, hpl, hpp, hpm, hps⟩ := hend
 have ha0 : a = 0 ∨ a = 20 := by rcases hz with h | h <;> omega
 have hpI : Inc p a l.length := fun x y x1 x2 x3 => by rw [hpm.out x (by omega), hpm.out y (by omega)]; exact hI x y (by omega) x2 x3
 clear hL hz
 have c1 : ¬ ((a : Int) + 20 ≤ (l.length : Nat)) := by omega
 (have zz:=trivial;repeat((first|clear zz|with_reducible first|refine A3 ?_|refine A5 fun _=>?_|refine A4 fun _=>?_);try simp(disch:=first|omega|assumption|((repeat(first|exact A1|exact uH|apply A2|apply uT));first|done|fail)|(simp;first|done|omega|fail))[c1]))
 rw [← hpl]
 refine E5 (Hc := [OI g p.length c p]) K3 (fun w' hw hs => A8B w' g c p a p.length bw key (hcall hw hpl hpp) (by rw [hpl]; exact hpI) (by omega) (by omega) (by omega) hs) (by (repeat' constructor)) ?_
 rintro q _ ⟨rfl, h1, h2⟩
 have hql : q.length = p.length := h2.len
 have hqp : q.Perm l := h2.perm.trans hpp
 (have zz:=trivial;repeat((first|clear zz|with_reducible first|refine A3 ?_|refine A5 fun _=>?_|refine A4 fun _=>?_);try simp(disch:=first|omega|assumption|((repeat(first|exact A1|exact uH|apply A2|apply uT));first|done|fail)|(simp;first|done|omega|fail))[]))
 refine B4V (fun z : Nat × Nat × Nat × List Nat => [OI g p.length c z.2.2.2]) (fun z => z = (a, a + 20, 20, q) ∨ (z.2.2.1 = 40 ∧ G6 key z.2.2.2 0 p.length ∧ z.2.2.2.Perm l)) (fun z => 60 - z.2.2.1) (a, a + 20, 20, q) (fun z => .int .i64 (z.1 : Nat)) (fun z => .int .i64 (z.2.1 : Nat)) (fun z => .int .i64 (z.2.2.1 : Nat)) (Or.inl rfl) ?_
 rintro ⟨a1, b1, bs, q1⟩ hz L hL
 simp only at hz hL ⊢
 by_cases hbs : bs < p.length
 ·have hz1 : (a1, b1, bs, q1) = (a, a + 20, 20, q) := by
   rcases hz with h | ⟨h, _⟩
   ·exact h
   ·omega
  injection hz1 with e1 hz1
  injection hz1 with e2 hz1
  injection hz1 with e3 e4
  subst e1 e2 e3 e4
  obtain rfl : a1 = 20 := by omega
  have c2 : (20 : Int) < (p.length : Nat) := by omega
  have c3 : ¬ (40 : Int) ≤ (p.length : Nat) := by omega
  have h := fun q : List Nat => hL (0, 40, 40, q)
  simp only at h
  clear hL hz
  have hS1 : G6 key q1 0 20 := hps.same fun x _ x2 => h2.out x (by omega)
  have hSt : St key q1 0 20 p.length := (hI.mono (b' := p.length) (Nat.le_refl _) (by omega)).st2 hpm h2
  (have zz:=trivial;repeat((first|clear zz|with_reducible first|refine A3 ?_|refine A5 fun _=>?_|refine A4 fun _=>?_);try simp(disch:=first|omega|assumption|((repeat(first|exact A1|exact uH|apply A2|apply uT));first|done|fail)|(simp;first|done|omega|fail))[c2, c3]))
  refine A1e (fun _ : Unit => [OI g p.length c q1]) (fun _ => True) (fun _ => 0) () (fun _ => .int .i64 0) (fun _ => .int .i64 40) trivial ?_
  rintro _ _ L2 _
  (have zz:=trivial;repeat((first|clear zz|with_reducible first|refine A3 ?_|refine A5 fun _=>?_|refine A4 fun _=>?_);try simp(disch:=first|omega|assumption|((repeat(first|exact A1|exact uH|apply A2|apply uT));first|done|fail)|(simp;first|done|omega|fail))[c2, c3]))
  rw [← hql]
  refine E5 (Hc := [OI g q1.length c q1]) N5 (fun w' hw hs => B3c g bw key q1.length w' c q1 0 20 q1.length (by omega) (by omega) (by omega) (Nat.le_refl _) (by omega) (hcall hw (by omega) hqp) hS1 (by rw [hql]; exact h1) (by rw [hql]; exact hSt) hs) (by (repeat' constructor)) ?_
  rintro q2 _ ⟨rfl, g1, g2⟩
  rw [hql] at g1 ⊢
  (have zz:=trivial;repeat((first|clear zz|with_reducible first|refine A3 ?_|refine A5 fun _=>?_|refine A4 fun _=>?_);try simp(disch:=first|omega|assumption|((repeat(first|exact A1|exact uH|apply A2|apply uT));first|done|fail)|(simp;first|done|omega|fail))[]))
  exact h q2 (Or.inr ⟨trivial, g1, g2.perm.trans hqp⟩) (by omega)
 ·have c2 : ¬ (bs : Int) < (p.length : Nat) := by omega
  have hfin : G6 key q1 0 p.length ∧ q1.Perm l := by
   rcases hz with h | ⟨_, h⟩
   ·injection h with e1 h
    injection h with e2 h
    injection h with e3 e4
    subst e1 e2 e3 e4
    refine ⟨?_, hqp⟩
    rcases ha0 with rfl | rfl
    ·exact h1
    ·have : p.length = 20 := by omega
     rw [this]
     exact hps.same fun x _ x2 => h2.out x (by omega)
   ·exact h
  (have zz:=trivial;repeat((first|clear zz|with_reducible first|refine A3 ?_|refine A5 fun _=>?_|refine A4 fun _=>?_);try simp(disch:=first|omega|assumption|((repeat(first|exact A1|exact uH|apply A2|apply uT));first|done|fail)|(simp;first|done|omega|fail))[c2]))
  exact C3 q1 ⟨rfl, hfin.1, hfin.2⟩ (by (repeat' constructor))
end Go.Proofs.YtlplkjgcfjdinaaGreat
namespace Go.Proofs.YtlplkjgcfjdinaaGreat
open Go
theorem C1L (w : World) (bw : Nat) (v : Value) (l : List RecV) (x y : Nat) (hx : x < l.length) (hy : y < l.length) (hl : l.length ≤ 1000000) (hv : E4 w v l.length (l.flatMap F4)) (hb : w.cell? ⟨bw, 0, none⟩ = some v) :
  Fn PR B5 21 #[.int .i64 (x : Int), .int .i64 (y : Int), .pointer (some ⟨bw, 0, none⟩)] w (fun u w' => u = .int .i64 (H8 (E9 l x) (E9 l y)) ∧ C6 [] w w') := by
 refine Fn.pure (A5E (TW.go (κ := false) (S := []) ?_))
 unfold A0K
 obtain ⟨a, c, rfl, hr⟩ := hv.form
 obtain ⟨b, o, rfl, hrow⟩ := hr (by omega)
 have h1 := hrow.cellAt (f := F4) (k := 10) (j := 3) (fun _ => rfl) (List.getElem?_eq_getElem hx) rfl
 have h2 := hrow.cellAt (f := F4) (k := 10) (j := 3) (fun _ => rfl) (List.getElem?_eq_getElem hy) rfl
 rw [← A88 hx] at h1
 rw [← A88 hy] at h2
 generalize E9 l x = p at *
 generalize E9 l y = q at *
 (have zz:=trivial;repeat((first|clear zz|with_reducible first|refine A3 ?_|refine A5 fun _=>?_|refine A4 fun _=>?_);try simp(disch:=first|omega|assumption|((repeat(first|exact A1|exact uH|apply A2|apply uT));first|done|fail)|(simp;first|done|omega|fail))[hb, hx, hy, h1, h2]))
 refine C5 (u := .int .i64 (H8 p q)) A0F (fun w' _ => (B2w w' p q).mono fun v w'' ⟨h, e⟩ => ⟨h, by rw [e]; exact C6.refl _ _⟩) ?_
 (have zz:=trivial;repeat((first|clear zz|with_reducible first|refine A3 ?_|refine A5 fun _=>?_|refine A4 fun _=>?_);try simp(disch:=first|omega|assumption|((repeat(first|exact A1|exact uH|apply A2|apply uT));first|done|fail)|(simp;first|done|omega|fail))[]))
 exact A9 rfl
theorem B4a (w : World) (F : Value) : Fn PR B5 20 #[.slice none 0 0, F] w (fun v w' => v = .tuple #[] ∧ C6 [] w w') := by
 have h40 : ∀ w', Fn PR B5 40 #[.slice none 0 0, .int .i64 0, .int .i64 0, F] w' (fun v w'' => v = .tuple #[] ∧ C6 [] w' w'') := fun w' => by
  refine Fn.pure (S2 (TW.go (κ := false) (S := []) ?_))
  unfold L6
  (have zz:=trivial;repeat((first|clear zz|with_reducible first|refine A3 ?_|refine A5 fun _=>?_|refine A4 fun _=>?_);try simp(disch:=first|omega|assumption|((repeat(first|exact A1|exact uH|apply A2|apply uT));first|done|fail)|(simp;first|done|omega|fail))[]))
  refine A4l (fun _ : Unit => []) (fun _ => True) (fun _ => 0) () (fun _ => .int .i64 1) trivial ?_
  rintro _ _ L _
  (have zz:=trivial;repeat((first|clear zz|with_reducible first|refine A3 ?_|refine A5 fun _=>?_|refine A4 fun _=>?_);try simp(disch:=first|omega|assumption|((repeat(first|exact A1|exact uH|apply A2|apply uT));first|done|fail)|(simp;first|done|omega|fail))[]))
  exact A9 rfl
 have h31 : ∀ w', Fn PR B5 31 #[.slice none 0 0, .int .i64 0, F] w' (fun v w'' => v = .tuple #[] ∧ C6 [] w' w'') := fun w' => by
  refine Fn.pure (Z6 (TW.go (κ := false) (S := []) ?_))
  unfold Q0
  (have zz:=trivial;repeat((first|clear zz|with_reducible first|refine A3 ?_|refine A5 fun _=>?_|refine A4 fun _=>?_);try simp(disch:=first|omega|assumption|((repeat(first|exact A1|exact uH|apply A2|apply uT));first|done|fail)|(simp;first|done|omega|fail))[]))
  refine A1e (fun _ : Unit => []) (fun _ => True) (fun _ => 0) () (fun _ => .int .i64 0) (fun _ => .int .i64 20) trivial ?_
  rintro _ _ L _
  (have zz:=trivial;repeat((first|clear zz|with_reducible first|refine A3 ?_|refine A5 fun _=>?_|refine A4 fun _=>?_);try simp(disch:=first|omega|assumption|((repeat(first|exact A1|exact uH|apply A2|apply uT));first|done|fail)|(simp;first|done|omega|fail))[]))
  refine C5 K3 (fun w' _ => h40 w') ?_
  (have zz:=trivial;repeat((first|clear zz|with_reducible first|refine A3 ?_|refine A5 fun _=>?_|refine A4 fun _=>?_);try simp(disch:=first|omega|assumption|((repeat(first|exact A1|exact uH|apply A2|apply uT));first|done|fail)|(simp;first|done|omega|fail))[]))
  refine B4V (fun _ : Unit => []) (fun _ => True) (fun _ => 0) () (fun _ => .int .i64 0) (fun _ => .int .i64 20) (fun _ => .int .i64 20) trivial ?_
  rintro _ _ L2 _
  (have zz:=trivial;repeat((first|clear zz|with_reducible first|refine A3 ?_|refine A5 fun _=>?_|refine A4 fun _=>?_);try simp(disch:=first|omega|assumption|((repeat(first|exact A1|exact uH|apply A2|apply uT));first|done|fail)|(simp;first|done|omega|fail))[]))
  exact A9 rfl
 refine Fn.pure (T6 (TW.go (κ := false) (S := []) ?_))
 unfold M5
 (have zz:=trivial;repeat((first|clear zz|with_reducible first|refine A3 ?_|refine A5 fun _=>?_|refine A4 fun _=>?_);try simp(disch:=first|omega|assumption|((repeat(first|exact A1|exact uH|apply A2|apply uT));first|done|fail)|(simp;first|done|omega|fail))[]))
 refine C5 Z0 (fun w' _ => h31 w') ?_
 (have zz:=trivial;repeat((first|clear zz|with_reducible first|refine A3 ?_|refine A5 fun _=>?_|refine A4 fun _=>?_);try simp(disch:=first|omega|assumption|((repeat(first|exact A1|exact uH|apply A2|apply uT));first|done|fail)|(simp;first|done|omega|fail))[]))
 exact A9 rfl
theorem B6w (w : World) (g c : Nat) (l : List Nat) (bw : Nat) (key : Nat → Int) (hc : A7w w (B2 [OI g l.length c l]) bw key l) (hI : Inc l 0 l.length) (hl : l.length ≤ 30) (hw : LW false (B2 [OI g l.length c l]) w [OI g l.length c l] w) :
  Fn PR B5 20 #[.slice (some ⟨g, 0, none⟩) l.length c, A95 bw] w (Rn (B2 [OI g l.length c l]) w (fun (l' : List Nat) u => u = .tuple #[] ∧ G6 key l' 0 l.length ∧ l'.Perm l) fun l' => [OI g l.length c l']) := by
 refine T6 (TW.goH (κ := false) (S := B2 [OI g l.length c l]) ?_ hw)
 unfold M5
 (have zz:=trivial;repeat((first|clear zz|with_reducible first|refine A3 ?_|refine A5 fun _=>?_|refine A4 fun _=>?_);try simp(disch:=first|omega|assumption|((repeat(first|exact A1|exact uH|apply A2|apply uT));first|done|fail)|(simp;first|done|omega|fail))[]))
 refine E5 (Hc := [OI g l.length c l]) Z0 (fun w' hw hs => B6C w' g c l bw key (fun w'' hw'' x y hx hy => hc w'' (hw.ks.low.trans hw'') x y hx hy) hI hl hs) (by (repeat' constructor)) ?_
 rintro l' _ ⟨rfl, h1, h2⟩
 (have zz:=trivial;repeat((first|clear zz|with_reducible first|refine A3 ?_|refine A5 fun _=>?_|refine A4 fun _=>?_);try simp(disch:=first|omega|assumption|((repeat(first|exact A1|exact uH|apply A2|apply uT));first|done|fail)|(simp;first|done|omega|fail))[]))
 exact C3 l' ⟨rfl, h1, h2⟩ (by (repeat' constructor))
theorem A4p (w : World) (v : Value) (l : List RecV) (hl : l.length ≤ 24) (hv : E4 w v l.length (l.flatMap F4)) :
  Fn PR B5 11 #[v] w (Rn [] w (fun r u => u = r) fun r => [.own 3 1 r (N1 (E9 l) l.length).length (P6 (N1 (E9 l) l.length))]) := by
 refine A7Z (TW.go (κ := false) (S := []) ?_)
 unfold A13
 obtain ⟨a, c, rfl, hr⟩ := hv.form
 (have zz:=trivial;repeat((first|clear zz|with_reducible first|refine A3 ?_|refine A5 fun _=>?_|refine A4 fun _=>?_);try simp(disch:=first|omega|assumption|((repeat(first|exact A1|exact uH|apply A2|apply uT));first|done|fail)|(simp;first|done|omega|fail))[]))
 rename_i bw
 refine A1g 3 1 ?_
 refine q7 l.length (fun i (x : Option Addr × Nat) => .slice x.1 (Z7 (E9 l) i).length x.2) (fun i x => [.own 3 1 (.slice x.1 (Z7 (E9 l) i).length x.2) (Z7 (E9 l) i).length (P6 (Z7 (E9 l) i)), .pt bw (.cells #[.slice a l.length c] 32)]) (fun i x => (Z7 (E9 l) i).length = 0 → x = (none, 0)) (none, 0) (fun _ => rfl) ?_
 rintro i ⟨xa, xc⟩ hi hx L hL
 by_cases hlt : i < l.length
 ·obtain ⟨b, o, rfl, hrow⟩ := hr (by omega)
  have h1 := hrow.at (f := F4) (k := 10) (fun _ => rfl) (List.getElem?_eq_getElem hlt)
  have hk := A88 hlt
  rw [F4] at h1
  generalize l[i] = y at *
  have hst := B1g (E9 l) i
  have hle := B1e (E9 l) i
  rw [hk] at hst
  have h := hL hlt
  rw [hst] at h
  clear hL
  generalize Z7 (E9 l) i = p at *
  by_cases c1 : 0 ≤ y.tk
  ·rw [if_pos c1] at h
   (have zz:=trivial;repeat((first|clear zz|with_reducible first|refine A3 ?_|refine A5 fun _=>?_|refine A4 fun _=>?_|refine E1 fun _=>?_|refine E3 (hK:=fun _=>?_)|refine D9 (hK:=fun _=>?_)|refine E2 (hK:=fun _=>?_)|refine D8 (hK:=fun _=>?_)|refine E0 (hK:=fun _=>?_));try simp(disch:=first|omega|assumption|((repeat(first|exact A1|exact uH|apply A2|apply uT));first|done|fail)|(simp;first|done|omega|fail))[hlt, h1, c1]))
   refine A1b (e := 3) (k := 1) (q := p.length) (r := 1) (xs := P6 p) (news := [.int .i64 (i : Int)]) (by (repeat constructor)) (H2.own (by (repeat constructor))) (by decide) (by simp) (by simp) (by simp only [maxLen]; omega) (by omega) fun a' c' => ?_
   (have zz:=trivial;repeat((first|clear zz|with_reducible first|refine A3 ?_|refine A5 fun _=>?_|refine A4 fun _=>?_);try simp(disch:=first|omega|assumption|((repeat(first|exact A1|exact uH|apply A2|apply uT));first|done|fail)|(simp;first|done|omega|fail))[]))
   have h := h (a', c') (fun e => by simp at e)
   rw [show P6 (p ++ [i]) = P6 p ++ [.int .i64 (i : Int)] by simp [P6], show (p ++ [i]).length = p.length + 1 by simp] at h
   exact Sels.tw (by (repeat' constructor)) h
  ·rw [if_neg c1] at h
   (have zz:=trivial;repeat((first|clear zz|with_reducible first|refine A3 ?_|refine A5 fun _=>?_|refine A4 fun _=>?_);try simp(disch:=first|omega|assumption|((repeat(first|exact A1|exact uH|apply A2|apply uT));first|done|fail)|(simp;first|done|omega|fail))[hlt, h1, c1]))
   exact Sels.tw (by (repeat' constructor)) (h (xa, xc) hx)
 ·obtain rfl : i = l.length := by omega
  clear hL
  have hinc := B9S (E9 l) l.length
  have hle := B1e (E9 l) l.length
  have hlt' : ∀ x ∈ Z7 (E9 l) l.length, x < l.length := fun x h => (B55 h).1
  have hfin : ∀ q : List Nat, q.Perm (Z7 (E9 l) l.length) → G6 (E9 l) q 0 (Z7 (E9 l) l.length).length → q = N1 (E9 l) l.length := fun q => A8k
  have hwl := B2l (E9 l) l.length
  generalize Z7 (E9 l) l.length = p at *
  (have zz:=trivial;repeat((first|clear zz|with_reducible first|refine A3 ?_|refine A5 fun _=>?_|refine A4 fun _=>?_);try simp(disch:=first|omega|assumption|((repeat(first|exact A1|exact uH|apply A2|apply uT));first|done|fail)|(simp;first|done|omega|fail))[]))
  by_cases h0 : p.length = 0
  ·obtain rfl : p = [] := List.length_eq_zero_iff.1 h0
   have := hx rfl
   injection this with e1 e2
   subst e1 e2
   have hw0 := hfin [] (List.Perm.refl _) (fun i j _ _ h => by simp at h)
   refine C5 T2 (fun w' _ => B4a w' _) ?_
   (have zz:=trivial;repeat((first|clear zz|with_reducible first|refine A3 ?_|refine A5 fun _=>?_|refine A4 fun _=>?_);try simp(disch:=first|omega|assumption|((repeat(first|exact A1|exact uH|apply A2|apply uT));first|done|fail)|(simp;first|done|omega|fail))[]))
   refine C3 (.slice none 0 0) rfl ?_
   rw [← hw0]
   (repeat' constructor)
  ·refine r7 (e := 3) (k := 1) (v := .slice xa p.length xc) (q := p.length) (xs := P6 p) (by (repeat constructor)) (by omega) fun g gc hg => ?_
   cases hg
   refine E5 (Hc := [OI g p.length xc p]) T2 (fun w' hw hs => B6w w' g xc p bw (E9 l) (fun w'' hw'' x y hx hy => ?_) hinc (by omega) hs) (by (repeat' constructor)) ?_
   ·have h2 := hw.part (Hn := []) (w' := w'') ⟨hw'', by simp, by simp, .nil⟩
    exact C1L w'' bw (.slice a l.length c) l x y (hlt' x hx) (hlt' y hy) (by omega) (hv.ks h2.ks (by simp)) (h2.cell1 (by (repeat constructor)))
   rintro q _ ⟨rfl, h1, h2⟩
   have hq := hfin q h2 h1
   subst hq
   (have zz:=trivial;repeat((first|clear zz|with_reducible first|refine A3 ?_|refine A5 fun _=>?_|refine A4 fun _=>?_);try simp(disch:=first|omega|assumption|((repeat(first|exact A1|exact uH|apply A2|apply uT));first|done|fail)|(simp;first|done|omega|fail))[]))
   refine C3 (.slice (some ⟨g, 0, none⟩) p.length xc) rfl ?_
   rw [hwl]
   (repeat' constructor)
end Go.Proofs.YtlplkjgcfjdinaaGreat
namespace Go.Proofs.YtlplkjgcfjdinaaGreat
open Go
def j4 (l : List RecV) (i : Nat) (x : RecV) : Bool :=
 if x.tk < 0 then decide (x.en < 0) else decide (x.st ≤ x.tk) && (decide (x.en < 0) || decide (x.tk ≤ x.en)) && !((l.take i).any fun y => decide (y.tk = x.tk))
def A0j (l : List RecV) : Bool := (List.range l.length).all fun i => j4 l i (l.getD i z6)
theorem B77 {l : List RecV} {i : Nat} {x : RecV} (hx : l[i]? = some x) (h : j4 l i x = false) : A0j l = false := by
 have hi := (List.getElem?_eq_some_iff.1 hx).1
 unfold A0j
 rw [List.all_eq_false]
 exact ⟨i, List.mem_range.2 hi, by rw [List.getD_eq_getElem?_getD, hx]; simp [h]⟩
theorem B63 {l : List RecV} (h : ∀ i x, l[i]? = some x → j4 l i x = true) : A0j l = true := by
 unfold A0j
 rw [List.all_eq_true]
 intro i hi
 have hi := List.mem_range.1 hi
 rw [List.getD_eq_getElem?_getD, List.getElem?_eq_getElem hi]
 exact h i _ (List.getElem?_eq_getElem hi)
theorem B3z (w : World) (v : Value) (l : List RecV) (hn : l.length ≤ 1000000) (hv : E4 w v l.length (l.flatMap F4)) :
  Fn PR B5 14 #[v] w (fun r w' => r = .bool (A0j l) ∧ C6 [] w w') := by
 refine Fn.pure (B09 (TW.go (κ := false) (S := []) ?_))
 unfold A47
 obtain ⟨a, c, rfl, hr⟩ := hv.form
 refine A9M (Value.int .i64) fun r => ?_
 (have zz:=trivial;repeat((first|clear zz|with_reducible first|refine A3 ?_|refine A5 fun _=>?_|refine A4 fun _=>?_);try simp(disch:=first|omega|assumption|((repeat(first|exact A1|exact uH|apply A2|apply uT));first|done|fail)|(simp;first|done|omega|fail))[]))
 refine q7 (α := List (Int × Value)) l.length (fun _ _ => .bool false) (fun _ M => [.pt r (d3 (Value.int .i64) M)]) (fun i M => (∀ k, 0 ≤ k → T4 k M = if (l.take i).any (fun x => decide (x.tk = k)) then some (.bool true) else none) ∧ ∀ j x, j < i → l[j]? = some x → j4 l j x = true) [] (by simp [T4]) ?_
 rintro i M hi ⟨hM, hok⟩ L hL
 by_cases hlt : i < l.length
 ·obtain ⟨b, o, rfl, hrow⟩ := hr (by omega)
  obtain ⟨x, hx⟩ : ∃ x, l[i]? = some x := ⟨_, List.getElem?_eq_getElem (by omega)⟩
  have h1 := hrow.at (f := F4) (k := 10) (fun _ => rfl) hx
  rw [F4] at h1
  have hbad : j4 l i x = false → A0j l = false := B77 hx
  have hnext : ∀ M', (∀ k, 0 ≤ k → T4 k M' = if (l.take (i + 1)).any (fun x => decide (x.tk = k)) then some (.bool true) else none) → j4 l i x = true → (∀ k, 0 ≤ k → T4 k M' = if (l.take (i + 1)).any (fun x => decide (x.tk = k)) then some (.bool true) else none) ∧ ∀ j y, j < i + 1 → l[j]? = some y → j4 l j y = true := fun M' h1 h2 => ⟨h1, fun j y hj hy => by
   by_cases e : j < i
   ·exact hok j y e hy
   ·obtain rfl : j = i := by omega
    rw [hx] at hy; injection hy with hy; subst hy; exact h2⟩
  have htake : ∀ k, (l.take (i + 1)).any (fun x => decide (x.tk = k)) = ((l.take i).any (fun x => decide (x.tk = k)) || decide (x.tk = k)) := fun k => by
   rw [List.take_add_one, hx, List.any_append]; simp
  by_cases c1 : x.tk < 0
  ·by_cases c2 : x.en < 0
   ·have c2' : ¬ 0 ≤ x.en := by omega
    (have zz:=trivial;repeat((first|clear zz|with_reducible first|refine A3 ?_|refine A5 fun _=>?_|refine A4 fun _=>?_);try simp(disch:=first|omega|assumption|((repeat(first|exact A1|exact uH|apply A2|apply uT));first|done|fail)|(simp;first|done|omega|fail))[hlt, h1, c1, c2, c2']))
    refine Sels.tw (by (repeat' constructor)) (hL hlt M (hnext M (fun k hk => ?_) (by simp [j4, c1, c2])))
    rw [htake, hM k hk, decide_eq_false (show ¬ x.tk = k by omega), Bool.or_false]
   ·have c2' : 0 ≤ x.en := by omega
    (have zz:=trivial;repeat((first|clear zz|with_reducible first|refine A3 ?_|refine A5 fun _=>?_|refine A4 fun _=>?_);try simp(disch:=first|omega|assumption|((repeat(first|exact A1|exact uH|apply A2|apply uT));first|done|fail)|(simp;first|done|omega|fail))[hlt, h1, c1, c2, c2']))
    exact A9 (by rw [hbad (by simp [j4, c1, c2])])
  have c1' : 0 ≤ x.tk := by omega
  by_cases c3 : x.tk < x.st
  ·(have zz:=trivial;repeat((first|clear zz|with_reducible first|refine A3 ?_|refine A5 fun _=>?_|refine A4 fun _=>?_);try simp(disch:=first|omega|assumption|((repeat(first|exact A1|exact uH|apply A2|apply uT));first|done|fail)|(simp;first|done|omega|fail))[hlt, h1, c1, c1', c3]))
   exact A9 (by rw [hbad (by simp [j4, c1]; intro h; omega)])
  have c3' : x.st ≤ x.tk := by omega
  by_cases c4 : 0 ≤ x.en ∧ x.en < x.tk
  ·obtain ⟨c4, c5⟩ := c4
   have c4' : ¬ x.en < 0 := by omega
   (have zz:=trivial;repeat((first|clear zz|with_reducible first|refine A3 ?_|refine A5 fun _=>?_|refine A4 fun _=>?_);try simp(disch:=first|omega|assumption|((repeat(first|exact A1|exact uH|apply A2|apply uT));first|done|fail)|(simp;first|done|omega|fail))[hlt, h1, c1, c1', c3, c4, c4', c5]))
   exact A9 (by rw [hbad (by simp [j4, c1, c4']; intro _ h; omega)])
  have c6 : x.en < 0 ∨ x.tk ≤ x.en := by omega
  have c8 : 0 ≤ x.en → (x.en < x.tk) = False := fun h => by simp; omega
  by_cases c7 : 0 ≤ x.en
  all_goals (have zz:=trivial;repeat((first|clear zz|with_reducible first|refine A3 ?_|refine A5 fun _=>?_|refine A4 fun _=>?_);try simp(disch:=first|omega|assumption|((repeat(first|exact A1|exact uH|apply A2|apply uT));first|done|fail)|(simp;first|done|omega|fail))[hlt, h1, c1, c1', c3, c7, c8]))
  all_goals rw [A4r B4S ty4 (KeyT.int F6) (l := M) (by (repeat constructor)), hM _ c1']
  all_goals cases hseen : (l.take i).any (fun y => decide (y.tk = x.tk))
  any_goals
   have hb := hbad (by simp only [j4, if_neg c1, hseen, Bool.not_true, Bool.and_false])
   (have zz:=trivial;repeat((first|clear zz|with_reducible first|refine A3 ?_|refine A5 fun _=>?_|refine A4 fun _=>?_);try simp(disch:=first|omega|assumption|((repeat(first|exact A1|exact uH|apply A2|apply uT));first|done|fail)|(simp;first|done|omega|fail))[]))
   exact A9 (by rw [hb])
  all_goals
   have hg : j4 l i x = true := by
    simp only [j4, if_neg c1, hseen, Bool.not_false, Bool.and_true, decide_eq_true c3', Bool.true_and, Bool.or_eq_true, decide_eq_true_eq]; exact c6
   have hn := fun M' h => hL hlt M' (hnext M' h hg)
   clear hL hnext
   (have zz:=trivial;repeat((first|clear zz|with_reducible first|refine A3 ?_|refine A5 fun _=>?_|refine A4 fun _=>?_);try simp(disch:=first|omega|assumption|((repeat(first|exact A1|exact uH|apply A2|apply uT));first|done|fail)|(simp;first|done|omega|fail))[]))
   refine A4K B4S (KeyT.int F6) (k := x.tk) (by (repeat constructor)) ?_
   (have zz:=trivial;repeat((first|clear zz|with_reducible first|refine A3 ?_|refine A5 fun _=>?_|refine A4 fun _=>?_);try simp(disch:=first|omega|assumption|((repeat(first|exact A1|exact uH|apply A2|apply uT));first|done|fail)|(simp;first|done|omega|fail))[]))
   refine Sels.tw (by (repeat' constructor)) (hn _ fun k hk => ?_)
   rw [B0d, htake]
   by_cases hk' : k = x.tk
   ·subst hk'; simp
   ·rw [if_neg hk', hM k hk, decide_eq_false (show ¬ x.tk = k from fun e => hk' e.symm), Bool.or_false]
 ·obtain rfl : i = l.length := by omega
  (have zz:=trivial;repeat((first|clear zz|with_reducible first|refine A3 ?_|refine A5 fun _=>?_|refine A4 fun _=>?_);try simp(disch:=first|omega|assumption|((repeat(first|exact A1|exact uH|apply A2|apply uT));first|done|fail)|(simp;first|done|omega|fail))[hlt]))
  exact A9 (by rw [B63 fun i x hx => hok i x (List.getElem?_eq_some_iff.1 hx).1 hx])
end Go.Proofs.YtlplkjgcfjdinaaGreat
namespace Go.Proofs.YtlplkjgcfjdinaaGreat
open Go
theorem B70 (w : World) (v : Value) (l : List RecV) (hl : l.length ≤ 9223372036854775807) (hv : E4 w v l.length (l.flatMap F4)) :
  Fn PR B5 8 #[v] w (fun r w' => r = .bool (decide (l.length ≤ 24)) ∧ C6 [] w w') := by
 refine Fn.pure (A3d (TW.go (κ := false) (S := []) ?_))
 unfold u4
 obtain ⟨a, c, rfl, hr⟩ := hv.form
 (have zz:=trivial;repeat((first|clear zz|with_reducible first|refine A3 ?_|refine A5 fun _=>?_|refine A4 fun _=>?_);try simp(disch:=first|omega|assumption|((repeat(first|exact A1|exact uH|apply A2|apply uT));first|done|fail)|(simp;first|done|omega|fail))[]))
 exact A9 (by congr 1; rw [decide_eq_decide]; omega)
theorem B46 (w : World) (v : Value) (l : List RecV) (hl : l.length ≤ 24) (hv : E4 w v l.length (l.flatMap F4)) :
  Fn PR B5 9 #[v] w (Rn [] w (fun r u => u = r) fun r => [.own 47 10 r l.length (l.flatMap F4)]) := by
 refine A1j (TW.go (κ := false) (S := []) ?_)
 unfold j6
 obtain ⟨a, c, rfl, hr⟩ := hv.form
 refine A1g 47 10 ?_
 (have zz:=trivial;repeat((first|clear zz|with_reducible first|refine A3 ?_|refine A5 fun _=>?_|refine A4 fun _=>?_);try simp(disch:=first|omega|assumption|((repeat(first|exact A1|exact uH|apply A2|apply uT));first|done|fail)|(simp;first|done|omega|fail))[]))
 refine q7 l.length (fun i (x : Option Addr × Nat) => .slice x.1 i x.2) (fun i x => [.own 47 10 (.slice x.1 i x.2) i ((l.take i).flatMap F4)]) (fun i x => True) (none, 0) trivial ?_ (by simp)
 rintro i ⟨xa, xc⟩ hi _ L hL
 by_cases hlt : i < l.length
 ·obtain ⟨b, o, rfl, hrow⟩ := hr (by omega)
  have h1 := hrow.at (f := F4) (k := 10) (fun _ => rfl) (List.getElem?_eq_getElem hlt)
  have hst : (l.take (i + 1)).flatMap F4 = (l.take i).flatMap F4 ++ F4 l[i] := by
   rw [List.take_add_one, List.getElem?_eq_getElem hlt, Option.toList_some, List.flatMap_append, List.flatMap_singleton]
  have h := hL hlt
  rw [hst] at h
  generalize l[i] = y at *
  rw [F4] at h1
  (have zz:=trivial;repeat((first|clear zz|with_reducible first|refine A3 ?_|refine A5 fun _=>?_|refine A4 fun _=>?_|refine E1 fun _=>?_|refine E3 (hK:=fun _=>?_)|refine D9 (hK:=fun _=>?_)|refine E2 (hK:=fun _=>?_)|refine D8 (hK:=fun _=>?_)|refine E0 (hK:=fun _=>?_));try simp(disch:=first|omega|assumption|((repeat(first|exact A1|exact uH|apply A2|apply uT));first|done|fail)|(simp;first|done|omega|fail))[hlt, h1]))
  refine A1b (e := 47) (k := 10) (q := i) (r := 1) (xs := (l.take i).flatMap F4) (news := F4 y) (by (repeat constructor)) (H2.own (by (repeat constructor))) (by decide) rfl (by simp [F4]) (by simp only [maxLen]; omega) (by omega) fun a' c' => ?_
  (have zz:=trivial;repeat((first|clear zz|with_reducible first|refine A3 ?_|refine A5 fun _=>?_|refine A4 fun _=>?_);try simp(disch:=first|omega|assumption|((repeat(first|exact A1|exact uH|apply A2|apply uT));first|done|fail)|(simp;first|done|omega|fail))[]))
  exact Sels.tw (by (repeat' constructor)) (h (a', c') trivial)
 ·obtain rfl : i = l.length := by omega
  (have zz:=trivial;repeat((first|clear zz|with_reducible first|refine A3 ?_|refine A5 fun _=>?_|refine A4 fun _=>?_);try simp(disch:=first|omega|assumption|((repeat(first|exact A1|exact uH|apply A2|apply uT));first|done|fail)|(simp;first|done|omega|fail))[]))
  refine C3 (.slice xa l.length xc) rfl ?_
  try rw [List.take_length]
  (repeat' constructor)
theorem B4A (key : Nat → Int) (n : Nat) : (N1 key n).length ≤ n := by rw [B2l]; exact B1e key n
end Go.Proofs.YtlplkjgcfjdinaaGreat
namespace Go.Proofs.YtlplkjgcfjdinaaGreat
open Go
structure FewScr (c : CfgV) (ts : List N3) : Prop where
 small : A1n c = true
 len : ts.length ≤ 7
 ops : ∀ t ∈ ts, g4 (t.2.map (·.1)) 24 = true
theorem FewScr.op {c : CfgV} {ts : List N3} (h : FewScr c ts) {t : N3} (ht : t ∈ ts) : t.2.length ≤ 24 ∧ ∀ o ∈ t.2, o.1.packet.size ≤ 100 ∧ o.1.pool.length ≤ 8 := by
 have := h.ops t ht
 unfold g4 at this
 rw [Bool.and_eq_true, List.all_eq_true] at this
 refine ⟨by have := this.1; simp at this; omega, fun o ho => ?_⟩
 have h2 := this.2 o.1 (List.mem_map_of_mem ho)
 simpa [A7p] using h2
theorem ThRd.form {w : World} {t : N3} (h : ThRd w t) : ∃ a k, t.1 = .slice a t.2.length k := by
 obtain ⟨a, k, e, _⟩ := h.rd.form
 exact ⟨a, k, e⟩
def A12 (c : CfgV) (ts : List N3) (r : Value) : Prop := ∃ b : Bool, r = .bool b ∧ (b = true → FewScr c ts)
theorem A12.no {c : CfgV} {ts : List N3} : A12 c ts (.bool false) := ⟨false, rfl, by simp⟩
theorem B7Z (w : World) (c : CfgV) (tv pv : Value) (ts : List N3) (hr : E4 w tv ts.length (ts.flatMap A16)) (ht : ∀ t ∈ ts, ThRd w t) (hl : ts.length ≤ 9223372036854775807) (hp : ∃ a n k, pv = .slice a n k ∧ n ≤ 9223372036854775807) :
  Fn PR B5 7 #[.agg #[.int .i64 c.wk, .int .i64 c.sh, .int .i64 c.cp, .int .i64 c.idle, .int .i64 c.sl, tv, pv]] w (fun r w' => A12 c ts r ∧ C6 [] w w') := by
 refine Fn.pure (A3Z (TW.go (κ := false) (S := []) ?_))
 unfold u5
 obtain ⟨a, k, rfl, hrow0⟩ := hr.form
 obtain ⟨pa, pn, pk, rfl, hpn⟩ := hp
 by_cases c1 : (7 : Int) < ts.length
 ·(have zz:=trivial;repeat((first|clear zz|with_reducible first|refine A3 ?_|refine A5 fun _=>?_|refine A4 fun _=>?_);try simp(disch:=first|omega|assumption|((repeat(first|exact A1|exact uH|apply A2|apply uT));first|done|fail)|(simp;first|done|omega|fail))[c1]))
  exact A9 A12.no
 by_cases c2 : (400 : Int) < pn
 ·(have zz:=trivial;repeat((first|clear zz|with_reducible first|refine A3 ?_|refine A5 fun _=>?_|refine A4 fun _=>?_);try simp(disch:=first|omega|assumption|((repeat(first|exact A1|exact uH|apply A2|apply uT));first|done|fail)|(simp;first|done|omega|fail))[c1, c2]))
  exact A9 A12.no
 (have zz:=trivial;repeat((first|clear zz|with_reducible first|refine A3 ?_|refine A5 fun _=>?_|refine A4 fun _=>?_);try simp(disch:=first|omega|assumption|((repeat(first|exact A1|exact uH|apply A2|apply uT));first|done|fail)|(simp;first|done|omega|fail))[c1, c2]))
 rename_i bs
 refine B2V (α := Nat) ts.length (fun _ x => .int .i64 (x : Nat)) (fun _ _ => .bool false) (fun _ _ => [.pt bs (.cells #[.int .i64 c.wk, .int .i64 c.sh, .int .i64 c.cp, .int .i64 c.idle, .int .i64 c.sl, .slice a ts.length k, .slice pa pn pk] 27)]) (fun i x => x ≤ 24 ∧ ∀ j t, j < i → ts[j]? = some t → g4 (t.2.map (·.1)) 24 = true) 0 ⟨by omega, by simp⟩ ?_
 rintro i x hi ⟨hx, hok⟩ L hL
 by_cases hlt : i < ts.length
 ·obtain ⟨b, o, rfl, hrow⟩ := hrow0 (by omega)
  have hy := List.getElem?_eq_getElem hlt
  have h1 := hrow.cellAt (f := A16) (k := 1) (j := 0) (fun _ => rfl) hy rfl
  rw [Nat.mul_one, Nat.add_zero] at h1
  have hth := ht ts[i] (List.getElem_mem hlt)
  generalize ts[i] = t at *
  obtain ⟨ta, tk, hte⟩ := hth.form
  rw [hte] at h1
  have hlen := hth.len
  have hfw : ∀ w', LW false [] w [.pt bs (.cells #[.int .i64 c.wk, .int .i64 c.sh, .int .i64 c.cp, .int .i64 c.idle, .int .i64 c.sl, .slice (some ⟨b, o, none⟩) ts.length k, .slice pa pn pk] 27)] w' → _ := fun w' hw' => B7L w' (.slice ta t.2.length tk) t.2 24 hlen ((hte ▸ hth.rd).ks hw'.ks (by simp)) fun o ho => by obtain ⟨a, k, e, _⟩ := (hth.pool o ho).form; exact ⟨a, k, e⟩
  by_cases hbig : 1000 < t.2.length
  ·by_cases c3 : (24 : Int) < IntKind.i64.wrap ((x : Int) + t.2.length)
   ·(have zz:=trivial;repeat((first|clear zz|with_reducible first|refine A3 ?_|refine A5 fun _=>?_|refine A4 fun _=>?_);try simp(disch:=first|omega|assumption|((repeat(first|exact A1|exact uH|apply A2|apply uT));first|done|fail)|(simp;first|done|omega|fail))[hlt, h1, c3]))
    exact A9 A12.no
   ·(have zz:=trivial;repeat((first|clear zz|with_reducible first|refine A3 ?_|refine A5 fun _=>?_|refine A4 fun _=>?_);try simp(disch:=first|omega|assumption|((repeat(first|exact A1|exact uH|apply A2|apply uT));first|done|fail)|(simp;first|done|omega|fail))[hlt, h1, c3]))
    refine C5 q5 hfw ?_
    rw [show g4 (t.2.map (·.1)) 24 = false by unfold g4; rw [Bool.and_eq_false_iff]; left; simp; omega]
    (have zz:=trivial;repeat((first|clear zz|with_reducible first|refine A3 ?_|refine A5 fun _=>?_|refine A4 fun _=>?_);try simp(disch:=first|omega|assumption|((repeat(first|exact A1|exact uH|apply A2|apply uT));first|done|fail)|(simp;first|done|omega|fail))[c3]))
    exact A9 A12.no
  by_cases c3 : (24 : Int) < (x : Int) + t.2.length
  ·(have zz:=trivial;repeat((first|clear zz|with_reducible first|refine A3 ?_|refine A5 fun _=>?_|refine A4 fun _=>?_);try simp(disch:=first|omega|assumption|((repeat(first|exact A1|exact uH|apply A2|apply uT));first|done|fail)|(simp;first|done|omega|fail))[hlt, h1, c3]))
   exact A9 A12.no
  ·(have zz:=trivial;repeat((first|clear zz|with_reducible first|refine A3 ?_|refine A5 fun _=>?_|refine A4 fun _=>?_);try simp(disch:=first|omega|assumption|((repeat(first|exact A1|exact uH|apply A2|apply uT));first|done|fail)|(simp;first|done|omega|fail))[hlt, h1, c3]))
   refine C5 q5 hfw ?_
   have hwr : IntKind.i64.wrap ((x : Int) + t.2.length) = (x : Int) + t.2.length := d9 (by omega) (by omega)
   cases hf : g4 (t.2.map (·.1)) 24 with
   | false =>
    (have zz:=trivial;repeat((first|clear zz|with_reducible first|refine A3 ?_|refine A5 fun _=>?_|refine A4 fun _=>?_);try simp(disch:=first|omega|assumption|((repeat(first|exact A1|exact uH|apply A2|apply uT));first|done|fail)|(simp;first|done|omega|fail))[c3]))
    exact A9 A12.no
   | true =>
    (have zz:=trivial;repeat((first|clear zz|with_reducible first|refine A3 ?_|refine A5 fun _=>?_|refine A4 fun _=>?_);try simp(disch:=first|omega|assumption|((repeat(first|exact A1|exact uH|apply A2|apply uT));first|done|fail)|(simp;first|done|omega|fail))[c3, hwr]))
    have h := hL hlt (x + t.2.length) ⟨by omega, fun j y hj hy' => by
     by_cases e : j < i
     ·exact hok j y e hy'
     ·obtain rfl : j = i := by omega
      rw [hy] at hy'; injection hy' with hy'; subst hy'; exact hf⟩
    rw [Int.natCast_add] at h
    exact h
 ·obtain rfl : i = ts.length := by omega
  (have zz:=trivial;repeat((first|clear zz|with_reducible first|refine A3 ?_|refine A5 fun _=>?_|refine A4 fun _=>?_);try simp(disch:=first|omega|assumption|((repeat(first|exact A1|exact uH|apply A2|apply uT));first|done|fail)|(simp;first|done|omega|fail))[hlt]))
  refine C5 A2B (fun w' _ => B7x w' c) ?_
  (have zz:=trivial;repeat((first|clear zz|with_reducible first|refine A3 ?_|refine A5 fun _=>?_|refine A4 fun _=>?_);try simp(disch:=first|omega|assumption|((repeat(first|exact A1|exact uH|apply A2|apply uT));first|done|fail)|(simp;first|done|omega|fail))[]))
  refine A9 (show A12 c ts (.bool (A1n c)) from ⟨_, rfl, fun h => ⟨h, by omega, fun t ht' => ?_⟩⟩)
  obtain ⟨j, hj, e⟩ := List.getElem_of_mem ht'
  exact hok j t hj (by rw [List.getElem?_eq_getElem hj, e])
end Go.Proofs.YtlplkjgcfjdinaaGreat
namespace Go.Proofs.YtlplkjgcfjdinaaGreat
open Go
@[simp] theorem B1y {κ : Bool} {S : List Nat} {w0 : World} {H : List Res} {K0 : WP} {t : TypeId} {n : Nat} {z : Value} [h : TG t n z] {b o : Nat} {xs : Array Value} {l : List Rd} (hc : W2 w0 b o n = some xs.toList) (hS : b ∉ S) :
  TW κ S w0 H (watch PR ((none, Instr.loadAt t (.pointer (some ⟨b, o, none⟩)), .agg xs) :: l) K0) = TW κ S w0 H (watch PR l K0) := by
 obtain ⟨_, _, h, hd⟩ := h.ti
 refine A3q fun w hw => ?_
 have h2 := d7 hc
 have := k9 h hd h2.1 (hw.ks.row hS h2.2)
 simpa using this
@[simp] theorem B1K {κ : Bool} {S : List Nat} {w0 : World} {H : List Res} {K0 : WP} {t : TypeId} {n : Nat} {z : Value} [h : TG t n z] {b o : Nat} {xs : Array Value} {l : List Rd} {x y : Bool} (hc : W2 w0 b o n = some xs.toList) (hS : b ∉ S) :
  TW κ S w0 H (watch PR ((some (.bool x, y), Instr.loadAt t (.pointer (some ⟨b, o, none⟩)), .agg xs) :: l) K0) = TW κ S w0 H (watch PR l K0) := by
 obtain ⟨_, _, h, hd⟩ := h.ti
 refine A5w fun _ w hw => ?_
 have h2 := d7 hc
 have := k9 h hd h2.1 (hw.ks.row hS h2.2)
 simpa using this
theorem C1H {κ : Bool} {S : List Nat} {w0 w : World} {H : List Res} {b : Nat} {c : Array Value} {T : TypeId} {f : Nat × Nat} (hw : LW κ S w0 H w) (hm : Res.pt b (.cells c T f) ∈ H) : H4 w b 0 c.toList := H4.bl (hw.pt hm)
theorem H4.sub {w : World} {b o : Nat} {l : List Value} (h : H4 w b o l) (j n : Nat) (hn : j + n ≤ l.length) : W2 w b (o + j) n = some ((l.drop j).take n) := by
 have hl : ((l.drop j).take n).length = n := by simp; omega
 have h1 : H4 w b (o + j) ((l.drop j).take n) := fun q hq => by
  rw [hl] at hq
  rw [Nat.add_assoc, h (j + q) (by omega), List.getElem?_take_of_lt hq, List.getElem?_drop]
 have := A3w h1
 rwa [hl] at this
end Go.Proofs.YtlplkjgcfjdinaaGreat
namespace Go.Proofs.YtlplkjgcfjdinaaGreat
open Go
theorem B5s {ts : List N3} {x : RecV} (h : x.th < 0) : A2C ts x = false := by
 unfold A2C; rw [decide_eq_false (by omega)]; rfl
theorem B6H {ts : List N3} {x : RecV} (h : (ts.length : Int) ≤ x.th) : A2C ts x = false := by
 unfold A2C; rw [decide_eq_false (show ¬ x.th < ts.length by omega), Bool.and_false, Bool.false_and]
theorem B36 {ts : List N3} {x : RecV} {n : Nat} {t : N3} (hn : x.th = n) (ht : ts[n]? = some t) : A2C ts x = (decide (0 ≤ x.op) && decide (x.op < (t.2.length : Nat))) := by
 have hl := (List.getElem?_eq_some_iff.1 ht).1
 unfold A2C
 rw [decide_eq_true (show 0 ≤ x.th by omega), decide_eq_true (show x.th < ts.length by omega), hn, Int.toNat_natCast, List.getD_eq_getElem?_getD, ht]; rfl
theorem B79 {ts : List N3} {x : RecV} (h : A2C ts x = true) : ∃ (n k : Nat) (t : N3) (o : OpV × Value), x.th = n ∧ x.op = k ∧ ts[n]? = some t ∧ t.2[k]? = some o ∧ B4Z ts x = o := by
 have h0 : 0 ≤ x.th ∧ x.th < ts.length := by
  by_cases h1 : x.th < 0
  ·rw [B5s h1] at h; cases h
  by_cases h2 : (ts.length : Int) ≤ x.th
  ·rw [B6H h2] at h; cases h
  omega
 obtain ⟨n, hn⟩ : ∃ n : Nat, x.th = n := ⟨x.th.toNat, by omega⟩
 have hl : n < ts.length := by omega
 have ht := List.getElem?_eq_getElem hl
 rw [B36 hn ht] at h
 simp only [Bool.and_eq_true, decide_eq_true_eq] at h
 obtain ⟨k, hk⟩ : ∃ k : Nat, x.op = k := ⟨x.op.toNat, by omega⟩
 have hkl : k < ts[n].2.length := by omega
 have ho := List.getElem?_eq_getElem hkl
 refine ⟨n, k, ts[n], ts[n].2[k], hn, hk, ht, ho, ?_⟩
 unfold B4Z
 rw [hn, hk, Int.toNat_natCast, Int.toNat_natCast, List.getD_eq_getElem?_getD, List.getD_eq_getElem?_getD, ht]
 simp only [Option.getD_some]
 rw [ho]; rfl
theorem C13 (w : World) (bt : Nat) (tv : Value) (ts : List N3) (x : RecV) (hv : E4 w tv ts.length (ts.flatMap A16)) (ht : ∀ t ∈ ts, ThRd w t) (hl : ts.length ≤ 1000) (hb : w.cell? ⟨bt, 0, none⟩ = some tv) :
  Fn PR B5 34 #[.agg x.cs, .pointer (some ⟨bt, 0, none⟩)] w (fun r w' => r = .bool (A2C ts x) ∧ C6 [] w w') := by
 refine Fn.pure (A6P (TW.go (κ := false) (S := []) ?_))
 unfold A04
 obtain ⟨a, c, rfl, hr⟩ := hv.form
 simp only [RecV.cs]
 by_cases h1 : x.th < 0
 ·have h1' : ¬ 0 ≤ x.th := by omega
  (have zz:=trivial;repeat((first|clear zz|with_reducible first|refine A3 ?_|refine A5 fun _=>?_|refine A4 fun _=>?_);try simp(disch:=first|omega|assumption|((repeat(first|exact A1|exact uH|apply A2|apply uT));first|done|fail)|(simp;first|done|omega|fail))[h1, h1', hb]))
  exact A9 (by rw [B5s h1])
 have h1' : 0 ≤ x.th := by omega
 by_cases h2 : (ts.length : Int) ≤ x.th
 ·have h2' : ¬ x.th < ts.length := by omega
  (have zz:=trivial;repeat((first|clear zz|with_reducible first|refine A3 ?_|refine A5 fun _=>?_|refine A4 fun _=>?_);try simp(disch:=first|omega|assumption|((repeat(first|exact A1|exact uH|apply A2|apply uT));first|done|fail)|(simp;first|done|omega|fail))[h1, h1', h2, h2', hb]))
  exact A9 (by rw [B6H h2])
 have h2' : x.th < ts.length := by omega
 obtain ⟨n, hn⟩ : ∃ n : Nat, x.th = n := ⟨x.th.toNat, by omega⟩
 have hnl : n < ts.length := by omega
 have hy := List.getElem?_eq_getElem hnl
 obtain ⟨b, o, rfl, hrow⟩ := hr (by omega)
 have hc := hrow.cellAt (f := A16) (k := 1) (j := 0) (fun _ => rfl) hy rfl
 rw [Nat.mul_one, Nat.add_zero] at hc
 have hth := ht ts[n] (List.getElem_mem hnl)
 generalize ts[n] = t at *
 obtain ⟨ta, tk, hte⟩ := hth.form
 rw [hte] at hc
 have hlen := hth.len
 rw [B36 hn hy]
 rw [hn] at h1' h2' ⊢
 by_cases h3 : 0 ≤ x.op
 ·by_cases h4 : x.op < (t.2.length : Nat)
  ·(have zz:=trivial;repeat((first|clear zz|with_reducible first|refine A3 ?_|refine A5 fun _=>?_|refine A4 fun _=>?_);try simp(disch:=first|omega|assumption|((repeat(first|exact A1|exact uH|apply A2|apply uT));first|done|fail)|(simp;first|done|omega|fail))[h1', h2', hnl, hb, hc, h3, h4]))
   exact A9 rfl
  ·(have zz:=trivial;repeat((first|clear zz|with_reducible first|refine A3 ?_|refine A5 fun _=>?_|refine A4 fun _=>?_);try simp(disch:=first|omega|assumption|((repeat(first|exact A1|exact uH|apply A2|apply uT));first|done|fail)|(simp;first|done|omega|fail))[h1', h2', hnl, hb, hc, h3, h4]))
   exact A9 rfl
 ·(have zz:=trivial;repeat((first|clear zz|with_reducible first|refine A3 ?_|refine A5 fun _=>?_|refine A4 fun _=>?_);try simp(disch:=first|omega|assumption|((repeat(first|exact A1|exact uH|apply A2|apply uT));first|done|fail)|(simp;first|done|omega|fail))[h1', h2', hnl, hb, hc, h3]))
  exact A9 rfl
theorem A4e (w : World) (e : Int) : Fn PR B5 43 #[.int .i64 e] w (fun r w' => r = (⟨e, 0, false, 0⟩ : AnsV).val ∧ C6 [] w w') := by
 refine Fn.pure (A9r (TW.go (κ := false) (S := []) ?_))
 unfold A3e
 (have zz:=trivial;repeat((first|clear zz|with_reducible first|refine A3 ?_|refine A5 fun _=>?_|refine A4 fun _=>?_);try simp(disch:=first|omega|assumption|((repeat(first|exact A1|exact uH|apply A2|apply uT));first|done|fail)|(simp;first|done|omega|fail))[]))
 exact A9 rfl
def A4k (x : RecV) : Bool := decide (0 ≤ x.en) && decide (x.an = ⟨13, 0, false, 0⟩)
theorem B7V {x : RecV} (h : ¬ 0 ≤ x.en) : A4k x = false := by unfold A4k; rw [decide_eq_false h]; rfl
theorem B9m (w : World) (b : Nat) (x : RecV) (hb : H4 w b 0 (F4 x)) :
  Fn PR B5 42 #[.pointer (some ⟨b, 0, none⟩)] w (fun r w' => r = .bool (A4k x) ∧ C6 [] w w') := by
 refine Fn.pure (A4a (TW.go (κ := false) (S := []) ?_))
 unfold y4
 have h4 : w.cell? ⟨b, 4, none⟩ = some (.int .i64 x.en) := hb.get (i := 4) rfl
 have h6 := hb.sub 6 4 (by simp [F4])
 rw [Nat.zero_add] at h6
 have h6 : W2 w b 6 4 = some [.int .i64 x.an.err, .int .i64 x.an.bk, .bool x.an.made, .int .i64 x.an.count] := h6
 by_cases c1 : 0 ≤ x.en
 ·(have zz:=trivial;repeat((first|clear zz|with_reducible first|refine A3 ?_|refine A5 fun _=>?_|refine A4 fun _=>?_);try simp(disch:=first|omega|assumption|((repeat(first|exact A1|exact uH|apply A2|apply uT));first|done|fail)|(simp;first|done|omega|fail))[h4, h6, c1]))
  refine C5 j5 (fun w' _ => A4e w' 13) ?_
  simp only [AnsV.val]
  rw [B1K (by simpa using h6) (by simp)]
  (have zz:=trivial;repeat((first|clear zz|with_reducible first|refine A3 ?_|refine A5 fun _=>?_|refine A4 fun _=>?_);try simp(disch:=first|omega|assumption|((repeat(first|exact A1|exact uH|apply A2|apply uT));first|done|fail)|(simp;first|done|omega|fail))[c1]))
  refine A9 ?_
  unfold A4k
  rw [decide_eq_true c1, Bool.true_and]
  obtain ⟨_, _, _, _, _, _, ⟨q1, q2, q3, q4⟩⟩ := x
  congr 1
  simp only [AnsV.mk.injEq, Bool.decide_and]
  cases q3 <;> simp
 ·(have zz:=trivial;repeat((first|clear zz|with_reducible first|refine A3 ?_|refine A5 fun _=>?_|refine A4 fun _=>?_);try simp(disch:=first|omega|assumption|((repeat(first|exact A1|exact uH|apply A2|apply uT));first|done|fail)|(simp;first|done|omega|fail))[h4, c1]))
  exact A9 (by rw [B7V c1])
theorem B3H (w : World) (m : MoH) (o : OpV) (v : Value) (x : RecV) (hv : PoolAt w m v o.pool) (hpk : o.packet.size < 2 ^ 40) (hm : MoOk2 m) (hw : LW false (B2 (C7 m)) w (C7 m) w) :
  Fn PR B5 36 #[.pointer (some ⟨m.b, 0, none⟩), o.val v, .agg x.cs] w (DoR w m (W3 m.st o x)) := by
 refine A6y (TW.goH (κ := false) (S := B2 (C7 m)) ?_ hw)
 unfold A1Y DoR
 generalize hS : B2 (C7 m) = S
 obtain ⟨a, c, rfl⟩ : ∃ a c, v = .slice a o.pool.length c := by obtain ⟨a, c, e, _⟩ := hv.rd.form; exact ⟨a, c, e⟩
 have hpo : ∀ w', KS false S w w' → PoolAt w' m (.slice a o.pool.length c) o.pool := fun w' hk => ⟨hv.at (by rw [hS]; exact hk), hv.off, hv.len, hv.form⟩
 by_cases k0 : o.kind = 0
 ·have k1 : ¬ o.kind = 1 := by omega
  by_cases t0 : x.th = 0
  ·have hx : W3 m.st o x = (m.st, ⟨1, 0, false, 0⟩) := by unfold W3; rw [if_pos (Or.inl ⟨k0, t0⟩)]
   simp only [OpV.val, RecV.cs]
   (have zz:=trivial;repeat((first|clear zz|with_reducible first|refine A3 ?_|refine A5 fun _=>?_|refine A4 fun _=>?_);try simp(disch:=first|omega|assumption|((repeat(first|exact A1|exact uH|apply A2|apply uT));first|done|fail)|(simp;first|done|omega|fail))[k0, k1, t0]))
   refine C5 j5 (fun w' _ => A4e w' 1) ?_
   simp only [AnsV.val]
   (have zz:=trivial;repeat((first|clear zz|with_reducible first|refine A3 ?_|refine A5 fun _=>?_|refine A4 fun _=>?_);try simp(disch:=first|omega|assumption|((repeat(first|exact A1|exact uH|apply A2|apply uT));first|done|fail)|(simp;first|done|omega|fail))[]))
   rw [hx]
   refine C3 m ⟨rfl, rfl, rfl⟩ ?_
   simp only [C7]
   (repeat' constructor)
  ·have hx : W3 m.st o x = m9 m.st o x.nw := by unfold W3; rw [if_neg (by rintro (⟨_, h⟩ | ⟨h, _⟩); exact t0 h; exact k1 h), if_neg (by rintro ⟨h, _⟩; exact k1 h)]
   simp only [OpV.val, RecV.cs]
   simp only [C7]
   (have zz:=trivial;repeat((first|clear zz|with_reducible first|refine A3 ?_|refine A5 fun _=>?_|refine A4 fun _=>?_);try simp(disch:=first|omega|assumption|((repeat(first|exact A1|exact uH|apply A2|apply uT));first|done|fail)|(simp;first|done|omega|fail))[k0, k1, t0]))
   refine E5 (Hc := C7 m) j9 (fun w' hw' hs => by have := B5M w' m o (.slice a o.pool.length c) x.nw (hpo w' hw'.ks) hpk hm hs; rw [OpV.val, k0] at this; exact this) (by simp only [C7]; (repeat' constructor)) ?_
   rintro m' _ ⟨rfl, hb, hst⟩
   rw [hx]
   generalize m9 m.st o x.nw = r at *
   simp only [C7, AnsV.val]
   (have zz:=trivial;repeat((first|clear zz|with_reducible first|refine A3 ?_|refine A5 fun _=>?_|refine A4 fun _=>?_);try simp(disch:=first|omega|assumption|((repeat(first|exact A1|exact uH|apply A2|apply uT));first|done|fail)|(simp;first|done|omega|fail))[]))
   refine C3 m' ⟨rfl, hb, hst⟩ ?_
   simp only [C7]
   (repeat' constructor)
 by_cases k1 : o.kind = 1
 ·by_cases t0 : x.th = 0
  ·simp only [OpV.val, RecV.cs]
   simp only [C7]
   (have zz:=trivial;repeat((first|clear zz|with_reducible first|refine A3 ?_|refine A5 fun _=>?_|refine A4 fun _=>?_);try simp(disch:=first|omega|assumption|((repeat(first|exact A1|exact uH|apply A2|apply uT));first|done|fail)|(simp;first|done|omega|fail))[k0, k1, t0]))
   rename_i bo bx ba
   refine C5 A3s (fun w' hw' => B9m w' bx x (by have := C1H hw' (b := bx) (by (repeat constructor)); rw [F4, t0]; exact this)) ?_
   have hn1 : ¬ ((o.kind = 0 ∧ x.th = 0) ∨ (o.kind = 1 ∧ x.th ≠ 0)) := by rintro (⟨h, _⟩ | ⟨_, h⟩); exact k0 h; exact h t0
   cases hb : A4k x with
   | true =>
    have hx : W3 m.st o x = (m.st, ⟨13, 0, false, 0⟩) := by
     unfold A4k at hb
     rw [Bool.and_eq_true, decide_eq_true_eq, decide_eq_true_eq] at hb
     unfold W3; rw [if_neg hn1, if_pos ⟨k1, hb.1, hb.2⟩]
    (have zz:=trivial;repeat((first|clear zz|with_reducible first|refine A3 ?_|refine A5 fun _=>?_|refine A4 fun _=>?_);try simp(disch:=first|omega|assumption|((repeat(first|exact A1|exact uH|apply A2|apply uT));first|done|fail)|(simp;first|done|omega|fail))[]))
    refine C5 j5 (fun w' _ => A4e w' 13) ?_
    simp only [AnsV.val]
    (have zz:=trivial;repeat((first|clear zz|with_reducible first|refine A3 ?_|refine A5 fun _=>?_|refine A4 fun _=>?_);try simp(disch:=first|omega|assumption|((repeat(first|exact A1|exact uH|apply A2|apply uT));first|done|fail)|(simp;first|done|omega|fail))[]))
    rw [hx]
    refine C3 m ⟨rfl, rfl, rfl⟩ ?_
    simp only [C7]
    (repeat' constructor)
   | false =>
    have hx : W3 m.st o x = m9 m.st o x.nw := by
     unfold W3; rw [if_neg hn1, if_neg]
     rintro ⟨_, h1, h2⟩
     unfold A4k at hb
     rw [decide_eq_true h1, decide_eq_true h2] at hb; cases hb
    (have zz:=trivial;repeat((first|clear zz|with_reducible first|refine A3 ?_|refine A5 fun _=>?_|refine A4 fun _=>?_);try simp(disch:=first|omega|assumption|((repeat(first|exact A1|exact uH|apply A2|apply uT));first|done|fail)|(simp;first|done|omega|fail))[]))
    refine E5 (Hc := C7 m) j9 (fun w' hw' hs => by have := B5M w' m o (.slice a o.pool.length c) x.nw (hpo w' hw'.ks) hpk hm hs; rw [OpV.val, k1] at this; exact this) (by simp only [C7]; (repeat' constructor)) ?_
    rintro m' _ ⟨rfl, hb, hst⟩
    rw [hx]
    generalize m9 m.st o x.nw = r at *
    simp only [C7, AnsV.val]
    (have zz:=trivial;repeat((first|clear zz|with_reducible first|refine A3 ?_|refine A5 fun _=>?_|refine A4 fun _=>?_);try simp(disch:=first|omega|assumption|((repeat(first|exact A1|exact uH|apply A2|apply uT));first|done|fail)|(simp;first|done|omega|fail))[]))
    refine C3 m' ⟨rfl, hb, hst⟩ ?_
    simp only [C7]
    (repeat' constructor)
  ·have hx : W3 m.st o x = (m.st, ⟨1, 0, false, 0⟩) := by unfold W3; rw [if_pos (Or.inr ⟨k1, t0⟩)]
   simp only [OpV.val, RecV.cs]
   (have zz:=trivial;repeat((first|clear zz|with_reducible first|refine A3 ?_|refine A5 fun _=>?_|refine A4 fun _=>?_);try simp(disch:=first|omega|assumption|((repeat(first|exact A1|exact uH|apply A2|apply uT));first|done|fail)|(simp;first|done|omega|fail))[k0, k1, t0]))
   refine C5 j5 (fun w' _ => A4e w' 1) ?_
   simp only [AnsV.val]
   (have zz:=trivial;repeat((first|clear zz|with_reducible first|refine A3 ?_|refine A5 fun _=>?_|refine A4 fun _=>?_);try simp(disch:=first|omega|assumption|((repeat(first|exact A1|exact uH|apply A2|apply uT));first|done|fail)|(simp;first|done|omega|fail))[]))
   rw [hx]
   refine C3 m ⟨rfl, rfl, rfl⟩ ?_
   simp only [C7]
   (repeat' constructor)
 ·have hx : W3 m.st o x = m9 m.st o x.nw := by unfold W3; rw [if_neg (by rintro (⟨h, _⟩ | ⟨h, _⟩); exact k0 h; exact k1 h), if_neg (by rintro ⟨h, _⟩; exact k1 h)]
  simp only [OpV.val, RecV.cs]
  simp only [C7]
  (have zz:=trivial;repeat((first|clear zz|with_reducible first|refine A3 ?_|refine A5 fun _=>?_|refine A4 fun _=>?_);try simp(disch:=first|omega|assumption|((repeat(first|exact A1|exact uH|apply A2|apply uT));first|done|fail)|(simp;first|done|omega|fail))[k0, k1]))
  refine E5 (Hc := C7 m) j9 (fun w' hw' hs => by have := B5M w' m o (.slice a o.pool.length c) x.nw (hpo w' hw'.ks) hpk hm hs; rw [OpV.val] at this; exact this) (by simp only [C7]; (repeat' constructor)) ?_
  rintro m' _ ⟨rfl, hb, hst⟩
  rw [hx]
  generalize m9 m.st o x.nw = r at *
  simp only [C7, AnsV.val]
  (have zz:=trivial;repeat((first|clear zz|with_reducible first|refine A3 ?_|refine A5 fun _=>?_|refine A4 fun _=>?_);try simp(disch:=first|omega|assumption|((repeat(first|exact A1|exact uH|apply A2|apply uT));first|done|fail)|(simp;first|done|omega|fail))[]))
  refine C3 m' ⟨rfl, hb, hst⟩ ?_
  simp only [C7]
  (repeat' constructor)
end Go.Proofs.YtlplkjgcfjdinaaGreat
namespace Go.Proofs.YtlplkjgcfjdinaaGreat
open Go
structure RdN (bad : List Nat) (w : World) (v : Value) (n : Nat) (xs : List Value) : Prop where
 rd : E4 w v n xs
 off : 0 < n → ∀ g ∈ K7 v, g ∉ bad
 nil : n = 0 → xs = []
theorem RdN.ks {κ : Bool} {S bad : List Nat} {w w' : World} {v : Value} {n : Nat} {xs : List Value} (h : RdN bad w v n xs) (hk : KS κ S w w') (hs : ∀ s ∈ S, s ∈ bad) : RdN bad w' v n xs :=
 ⟨h.rd.ks0 h.nil hk fun h0 g hg hgS => h.off h0 g hg (hs g hgS), h.off, h.nil⟩
theorem RdN.sub {bad bad' : List Nat} {w : World} {v : Value} {n : Nat} {xs : List Value} (h : RdN bad w v n xs) (hs : ∀ s ∈ bad', s ∈ bad) : RdN bad' w v n xs := ⟨h.rd, fun h0 g hg hb => h.off h0 g hg (hs g hb), h.nil⟩
theorem RdN.open {bad : List Nat} {w : World} {v : Value} {n : Nat} {xs : List Value} (h : RdN bad w v n xs) : ∃ a c, v = .slice a n c ∧ (0 < n → ∃ b o, a = some ⟨b, o, none⟩ ∧ H4 w b o xs ∧ b ∉ bad) := by
 obtain ⟨a, c, e, hr⟩ := h.rd.form
 refine ⟨a, c, e, fun h0 => ?_⟩
 obtain ⟨b, o, ea, hrow⟩ := hr h0
 refine ⟨b, o, ea, hrow, h.off h0 b ?_⟩
 rw [e, ea]; simp [K7]
theorem A6b {κ : Bool} {w0 w : World} {A F : List Res} {v : Value} {n : Nat} {xs : List Value} (hw : LW κ [] w0 (A ++ F) w) (h : E4 w0 v n xs) (hn : 0 < n → 0 < xs.length) (h0 : n = 0 → xs = []) : RdN (B2 F) w v n xs := by
 refine ⟨h.ks hw.ks (by simp), fun hp g hg hf => ?_, h0⟩
 have h1 := B73 h hn hp g hg
 obtain ⟨s, hs, hbs⟩ := M0.1 hf
 rcases (hw.own s (List.mem_append_right _ hs) g hbs).1 with h2 | h2
 ·cases h2
 ·omega
structure ScN (bad : List Nat) (w : World) (tv lv : Value) (ts : List N3) (l : List RecV) : Prop where
 tvr : RdN bad w tv ts.length (ts.flatMap A16)
 thr : ∀ t ∈ ts, RdN bad w t.1 t.2.length (t.2.flatMap A4b)
 pool : ∀ t ∈ ts, ∀ o ∈ t.2, RdN bad w o.2 o.1.pool.length (o.1.pool.flatMap G2)
 lvr : RdN bad w lv l.length (l.flatMap F4)
theorem ScN.ks {κ : Bool} {S bad : List Nat} {w w' : World} {tv lv : Value} {ts : List N3} {l : List RecV} (h : ScN bad w tv lv ts l) (hk : KS κ S w w') (hs : ∀ s ∈ S, s ∈ bad) : ScN bad w' tv lv ts l :=
 ⟨h.tvr.ks hk hs, fun t ht => (h.thr t ht).ks hk hs, fun t ht o ho => (h.pool t ht o ho).ks hk hs, h.lvr.ks hk hs⟩
theorem ScN.old {κ : Bool} {w0 w : World} {A F : List Res} {tv lv : Value} {ts : List N3} {l : List RecV} (hw : LW κ [] w0 (A ++ F) w) (h : E4 w0 tv ts.length (ts.flatMap A16)) (ht : ∀ t ∈ ts, ThRd w0 t) (hl : E4 w0 lv l.length (l.flatMap F4)) : ScN (B2 F) w tv lv ts l := by
 have z : ∀ {α : Type} (p : List α) (f : α → List Value), p.length = 0 → p.flatMap f = [] := fun p f e => by rw [List.length_eq_zero_iff.1 e]; rfl
 have p : ∀ {α : Type} (k : Nat) (p : List α) (f : α → List Value), (∀ x, (f x).length = k) → 0 < k → 0 < p.length → 0 < (p.flatMap f).length := fun k p f hk h0 hp => by
  rw [H3 hk]; exact Nat.mul_pos hp h0
 exact ⟨A6b hw h (p 1 _ _ (fun _ => rfl) (by omega)) (z _ _), fun t hm => A6b hw (ht t hm).rd (p 4 _ _ (fun _ => rfl) (by omega)) (z _ _), fun t hm o ho => A6b hw ((ht t hm).pool o ho) (p 2 _ _ (fun _ => rfl) (by omega)) (z _ _), A6b hw hl (p 10 _ _ (fun _ => rfl) (by omega)) (z _ _)⟩
theorem Inv.xpc {c : CfgV} {s : MoS} (h : Inv c s) (o : OpV) (x : RecV) : Inv c (W3 s o x).1 := by
 unfold W3
 split
 ·exact h
 split
 ·exact h
 ·exact h.do' o x.nw
theorem Inv.stepL {c : CfgV} {s : MoS} (h : Inv c s) (ts : List N3) (x : RecV) : Inv c (stepL ts s x).1 := by
 unfold Go.Proofs.YtlplkjgcfjdinaaGreat.stepL
 split
 ·exact h.xpc _ _
 ·exact h
abbrev B80 (b3 b4 b5 b7 : Nat) : Value := .func (.func 35) #[] #[.pointer (some ⟨b5, 0, none⟩), .pointer (some ⟨b7, 0, none⟩), .pointer (some ⟨b3, 0, none⟩), .pointer (some ⟨b4, 0, none⟩)]
abbrev A8Y (b3 b4 b5 b7 mb : Nat) (tv lv : Value) : List Res := [.pt b7 (.cells #[.func (.func 34) #[] #[.pointer (some ⟨b4, 0, none⟩)]] 85), .pt b5 (.cells #[lv] 32), .pt b4 (.cells #[tv] 24), .pt b3 (.cells #[.pointer (some ⟨mb, 0, none⟩)] 60)]
def yL (bs : List Bool) : List (List Value) := (List.range bs.length).map fun i => [.int .i64 (i : Nat), .bool (bs.getD i false)]
theorem A83 (bs : List Bool) : (yL bs).length = bs.length := by simp [yL]
theorem C04 (bs : List Bool) : ∀ x ∈ yL bs, x.length = 2 := by
 intro x hx
 unfold yL at hx
 obtain ⟨i, _, rfl⟩ := List.mem_map.1 hx
 rfl
theorem B5r (w : World) (mb : Nat) (tv lv : Value) (ht : ∃ a n c, tv = .slice a n c) (hl : ∃ a n c, lv = .slice a n c) :
  Fn PR B5 25 #[.pointer (some ⟨mb, 0, none⟩), tv, lv] w (Rn [] w (fun (b : Nat × Nat × Nat × Nat) u => u = B80 b.1 b.2.1 b.2.2.1 b.2.2.2) fun b => A8Y b.1 b.2.1 b.2.2.1 b.2.2.2 mb tv lv) := by
 obtain ⟨a, n, c, rfl⟩ := ht
 obtain ⟨a', n', c', rfl⟩ := hl
 refine A8q (TW.go (κ := false) (S := []) ?_)
 unfold A2q
 (have zz:=trivial;repeat((first|clear zz|with_reducible first|refine A3 ?_|refine A5 fun _=>?_|refine A4 fun _=>?_);try simp(disch:=first|omega|assumption|((repeat(first|exact A1|exact uH|apply A2|apply uT));first|done|fail)|(simp;first|done|omega|fail))[]))
 rename_i b3 b4 b5 b7
 exact C3 (b3, b4, b5, b7) rfl (by (repeat' constructor))
end Go.Proofs.YtlplkjgcfjdinaaGreat
namespace Go.Proofs.YtlplkjgcfjdinaaGreat
open Go
theorem B1z {l : List RecV} {i : Nat} (h : i < (N1 (E9 l) l.length).length) : (G9 l)[i]? = some (l.getD (ix (N1 (E9 l) l.length) i) z6) := by
 unfold G9 ix
 rw [List.getElem?_map, List.getElem?_eq_getElem h, A0U h]; rfl
theorem B61 (l : List RecV) : (G9 l).length = (N1 (E9 l) l.length).length := by simp [G9]
theorem C00 {κ : Bool} {S : List Nat} {w0 : World} {H : List Res} {F : Value → WP} {A : (Value → WP) → WP} {α : Type} (φ : α → Prop) (Hj : α → List Res) (v : Value) (hF : ∀ x, φ x → TW κ S w0 (Hj x) (F v)) (hA : ∀ J : Value → WP, (∀ x, φ x → TW κ S w0 (Hj x) (J v)) → TW κ S w0 H (A J)) : TW κ S w0 H (jn (n := 1) F A) := hA F hF
theorem B9H (a b : AnsV) : (decide (a.err = b.err) && (decide (a.bk = b.bk) && (a.made == b.made && decide (a.count = b.count)))) = decide (a = b) := by
 obtain ⟨a1, a2, a3, a4⟩ := a
 obtain ⟨b1, b2, b3, b4⟩ := b
 rw [Bool.eq_iff_iff]
 simp [AnsV.mk.injEq]
theorem B82 {bs : List Bool} {i : Nat} {b : Bool} (h : bs[i]? = some b) (hi : i < (yL bs).length) : (yL bs)[i] = [.int .i64 (i : Nat), .bool b] := by
 simp only [yL, List.getElem_map, List.getElem_range]
 rw [List.getD_eq_getElem?_getD, h]; rfl
set_option maxHeartbeats 1000000 in
theorem B6B (c : CfgV) (b3 b4 b5 b7 : Nat) (tv lv : Value) (ts : List N3) (l : List RecV) (m : MoH) (hi : Inv c m.st) (hts : ts.length ≤ 1000) (hl : l.length ≤ 24) (hops : ∀ t ∈ ts, t.2.length ≤ 24 ∧ ∀ o ∈ t.2, o.1.packet.size ≤ 100 ∧ o.1.pool.length ≤ 8) :
  A1k (B80 b3 b4 b5 b7) (A8Y b3 b4 b5 b7 m.b tv lv ++ C7 m) (fun F w => ScN (B2 F) w tv lv ts l) (yL (u6 ts m.st (G9 l))) := by
 refine ⟨_, _, _, rfl, fun y J E hJ hE stJ stE hy w0 h0 => ?_⟩
 have hsc0 := (hJ _ _ _ h0).2
 obtain ⟨ta, tc, rfl, hta0⟩ := hsc0.tvr.open
 obtain ⟨la, lc, rfl, hla0⟩ := hsc0.lvr.open
 clear hta0 hla0
 refine A5T (A5l (TW.at (κ := true) ?_ (hJ _ _ _ h0).1))
 unfold A1B
 simp only [A8Y, List.cons_append, List.nil_append] at h0 hsc0 ⊢
 (have zz:=trivial;repeat((first|clear zz|with_reducible first|refine A3 ?_|refine A5 fun _=>?_|refine A4 fun _=>?_);try simp(disch:=first|omega|assumption|((repeat(first|exact A1|exact uH|apply A2|apply uT));first|done|fail)|(simp;first|done|omega|fail))[]))
 refine G8 p4 (fun w' hw' => A4p w' (.slice la l.length lc) l hl (hsc0.ks hw'.ks (fun _ h => h)).lvr.rd) ?_
 intro _ r hr
 subst hr
 have hwl := B4A (E9 l) l.length
 have hwlt : ∀ y ∈ N1 (E9 l) l.length, y < l.length := fun y hy => (A6c hy).1
 have hrl : (G9 l).length = (N1 (E9 l) l.length).length := B61 l
 have hrat := fun i => B1z (l := l) (i := i)
 generalize N1 (E9 l) l.length = wl at *
 generalize G9 l = rl at *
 refine A0q (e := 3) (k := 1) (v := r) (q := wl.length) (xs := P6 wl) (by (repeat constructor)) fun ra rc e => ?_
 subst e
 (have zz:=trivial;repeat((first|clear zz|with_reducible first|refine A3 ?_|refine A5 fun _=>?_|refine A4 fun _=>?_);try simp(disch:=first|omega|assumption|((repeat(first|exact A1|exact uH|apply A2|apply uT));first|done|fail)|(simp;first|done|omega|fail))[]))
 refine B5J (α := Nat × MoH) (fun z => z.1) (fun z => .own 3 1 (.slice ra wl.length rc) wl.length (P6 wl) :: (A8Y b3 b4 b5 b7 m.b (.slice ta ts.length tc) (.slice la l.length lc) ++ C7 z.2)) (fun z => z.1 ≤ wl.length ∧ z.2.b = m.b ∧ z.2.st = stL ts m.st (rl.take z.1) ∧ Inv c z.2.st) (fun z => wl.length - z.1) (fun z => .int .i64 (z.1 : Nat)) (0, m) hJ stJ h0 ⟨by simp, rfl, rfl, hi⟩ ?_
 rintro ⟨i, m1⟩ a ⟨hil, hmb, hst, hi1⟩ hJi hRi L hL
 simp only at hil hmb hst hi1 hJi hRi hL ⊢
 clear hsc0 h0 hi
 simp only [A8Y, List.cons_append, List.nil_append] at hJi hRi ⊢
 by_cases hlt : i < wl.length
 case neg =>
  obtain rfl : i = wl.length := by omega
  (have zz:=trivial;repeat((first|clear zz|with_reducible first|refine A3 ?_|refine A5 fun _=>?_|refine A4 fun _=>?_);try simp(disch:=first|omega|assumption|((repeat(first|exact A1|exact uH|apply A2|apply uT));first|done|fail)|(simp;first|done|omega|fail))[]))
  refine A0u stJ ?_
  rw [A83, A6Z, hrl]
  exact hJi
 refine r7 (e := 3) (k := 1) (v := .slice ra wl.length rc) (q := wl.length) (xs := P6 wl) A1 (by omega) fun g gc hg => ?_
 cases hg
 have hrx := hrat i hlt
 have hkl := hwlt _ (A5j hlt)
 have g1 := N7 hlt
 have hyl : i < (yL (u6 ts m.st rl)).length := by rw [A83, A6Z, hrl]; exact hlt
 have hyi : (yL (u6 ts m.st rl))[i] = [.int .i64 (i : Nat), .bool (stepL ts m1.st (l.getD (ix wl i) z6)).2] := by
  have h1 := C03 ts m.st hrx
  rw [← hst] at h1
  exact B82 h1 hyl
 have hst' := B7k ts m.st hrx
 rw [← hst] at hst'
 have hi2 := hi1.stepL ts (l.getD (ix wl i) z6)
 have hL' := fun m2 : MoH => hL (i + 1, m2)
 generalize ix wl i = k at *
 have hx : l[k]? = some (l.getD k z6) := by rw [List.getD_eq_getElem?_getD, List.getElem?_eq_getElem hkl]; rfl
 obtain ⟨_, _, e, hlr⟩ := hRi.lvr.open
 cases e
 obtain ⟨lb, lo, rfl, hlrow, hlb⟩ := hlr (by omega)
 have h1 := hlrow.at (f := F4) (k := 10) (fun _ => rfl) hx
 rw [F4] at h1
 generalize l.getD k z6 = x at *
 generalize hS : B2 _ = S at hlb hRi ⊢
 simp only [C7]
 (have zz:=trivial;repeat((first|clear zz|with_reducible first|refine A3 ?_|refine A5 fun _=>?_|refine A4 fun _=>?_);try simp(disch:=first|omega|assumption|((repeat(first|exact A1|exact uH|apply A2|apply uT));first|done|fail)|(simp;first|done|omega|fail))[-A4V, hlt, g1, hkl, h1, hlb]))
 rw [A4V]
 (have zz:=trivial;repeat((first|clear zz|with_reducible first|refine A3 ?_|refine A5 fun _=>?_|refine A4 fun _=>?_);try simp(disch:=first|omega|assumption|((repeat(first|exact A1|exact uH|apply A2|apply uT));first|done|fail)|(simp;first|done|omega|fail))[-A4V, hlt, g1, hkl, h1, hlb]))
 rw [A4V]
 (have zz:=trivial;repeat((first|clear zz|with_reducible first|refine A3 ?_|refine A5 fun _=>?_|refine A4 fun _=>?_);try simp(disch:=first|omega|assumption|((repeat(first|exact A1|exact uH|apply A2|apply uT));first|done|fail)|(simp;first|done|omega|fail))[-A4V, hlt, g1, hkl, h1, hlb]))
 rename_i b8
 refine C5 (u := .bool (A2C ts x)) A5N (fun w' hw' => by have hsc := hRi.ks hw'.ks (fun _ h => h); exact C13 w' b4 (.slice ta ts.length tc) ts x hsc.tvr.rd (fun t ht => ⟨(hsc.thr t ht).rd, fun o ho => (hsc.pool t ht o ho).rd, by have := (hops t ht).1; omega⟩) hts (hw'.cell1 (by (repeat constructor)))) ?_
 refine C00 (α := MoH) (fun m2 => m2.b = m1.b ∧ m2.st = (stepL ts m1.st x).1) (fun m2 => .own 3 1 (.slice (some ⟨g, 0, none⟩) wl.length rc) wl.length (P6 wl) :: .pt b7 (.cells #[.func (.func 34) #[] #[.pointer (some ⟨b4, 0, none⟩)]] 85) :: .pt b5 (.cells #[.slice (some ⟨lb, lo, none⟩) l.length lc] 32) :: .pt b4 (.cells #[.slice ta ts.length tc] 24) :: .pt b3 (.cells #[.pointer (some ⟨m.b, 0, none⟩)] 60) :: C7 m2) (.bool (stepL ts m1.st x).2) ?_ ?_
 ·rintro m2 ⟨hb2, hst2⟩
  subst hS
  (have zz:=trivial;repeat((first|clear zz|with_reducible first|refine A3 ?_|refine A5 fun _=>?_|refine A4 fun _=>?_);try simp(disch:=first|omega|assumption|((repeat(first|exact A1|exact uH|apply A2|apply uT));first|done|fail)|(simp;first|done|omega|fail))[]))
  refine A2s hJ hE stJ hy hJi hyl hyi (fun w3 h => ?_) (fun w3 h => ?_)
  ·(have zz:=trivial;repeat((first|clear zz|with_reducible first|refine A3 ?_|refine A5 fun _=>?_|refine A4 fun _=>?_);try simp(disch:=first|omega|assumption|((repeat(first|exact A1|exact uH|apply A2|apply uT));first|done|fail)|(simp;first|done|omega|fail))[]))
   exact fun w' hw' => hL' m2 w' ⟨by simp only; omega, by simp only; rw [hb2, hmb], by simp only; rw [hst2, hst'], by simp only; rw [hst2]; exact hi2⟩ (by simp only; omega) (stJ _ _ _ _ _ h hw')
  ·(have zz:=trivial;repeat((first|clear zz|with_reducible first|refine A3 ?_|refine A5 fun _=>?_|refine A4 fun _=>?_);try simp(disch:=first|omega|assumption|((repeat(first|exact A1|exact uH|apply A2|apply uT));first|done|fail)|(simp;first|done|omega|fail))[]))
   exact A0v stE h
 intro J3 hJ3
 cases hop : A2C ts x with
 | false =>
  have hstep : stepL ts m1.st x = (m1.st, false) := by unfold stepL; rw [if_neg (by rw [hop]; simp)]
  rw [hstep] at hJ3
  (have zz:=trivial;repeat((first|clear zz|with_reducible first|refine A3 ?_|refine A5 fun _=>?_|refine A4 fun _=>?_);try simp(disch:=first|omega|assumption|((repeat(first|exact A1|exact uH|apply A2|apply uT));first|done|fail)|(simp;first|done|omega|fail))[]))
  refine Sels.tw ?_ (hJ3 m1 ⟨rfl, rfl⟩)
  simp only [C7]
  (repeat' constructor)
 | true =>
 obtain ⟨n, q, t, o, hn, hq, ht, ho, hat⟩ := B79 hop
 have hstep : stepL ts m1.st x = ((W3 m1.st o.1 x).1, decide (x.en < 0) || decide (x.an = (W3 m1.st o.1 x).2)) := by unfold stepL; rw [if_pos hop, hat]
 rw [hstep] at hJ3
 simp only at hJ3
 have htm := List.mem_of_getElem? ht
 have hom := List.mem_of_getElem? ho
 have hnl := (List.getElem?_eq_some_iff.1 ht).1
 have hql := (List.getElem?_eq_some_iff.1 ho).1
 obtain ⟨_, _, e, htr⟩ := hRi.tvr.open
 cases e
 obtain ⟨tb, tof, rfl, htrow, htb⟩ := htr (by omega)
 have ht1 := htrow.cellAt (f := A16) (k := 1) (j := 0) (fun _ => rfl) ht rfl
 rw [Nat.mul_one, Nat.add_zero] at ht1
 obtain ⟨oa, oc, hte, hor⟩ := (hRi.thr t htm).open
 obtain ⟨ob, oo, rfl, horow, hob⟩ := hor (by omega)
 rw [hte] at ht1
 have ho1 := horow.at (f := A4b) (k := 4) (fun _ => rfl) ho
 have hpo := hRi.pool t htm o hom
 obtain ⟨pa, pc, hoe, _⟩ := hpo.open
 have hop2 := (hops t htm).2 o hom
 have hop1 := (hops t htm).1
 rw [A4b, hoe] at ho1
 rw [hoe] at hpo
 have n0 : 0 ≤ x.th := by omega
 have n1 : x.th < (ts.length : Nat) := by omega
 have n2 : x.th.toNat = n := by omega
 have q0 : 0 ≤ x.op := by omega
 have q1 : x.op < (t.2.length : Nat) := by omega
 have q2 : x.op.toNat = q := by omega
 have hsub : ∀ s ∈ B2 (C7 m1), s ∈ S := fun s hs => by
  rw [← hS]
  obtain ⟨r, hr, hb⟩ := M0.1 hs
  exact M0.2 ⟨r, by simp only [List.mem_cons]; exact Or.inr (Or.inr (Or.inr (Or.inr (Or.inr hr)))), hb⟩
 have hpat : ∀ w', KS true S a w' → PoolAt w' m1 (.slice pa o.1.pool.length pc) o.1.pool := fun w' hk => by
  have h := hpo.ks hk (fun _ h => h)
  exact ⟨h.rd, fun h0 g hg hb => h.off h0 g hg (hsub g hb), by omega, rfl, rfl⟩
 have hexp : ∀ w', KS true S a w' → LW false (B2 (C7 m1)) w' (C7 m1) w' → Fn PR B5 36 #[.pointer (some ⟨m.b, 0, none⟩), o.1.val (.slice pa o.1.pool.length pc), .agg x.cs] w' (DoR w' m1 (W3 m1.st o.1 x)) := fun w' hk hs => by
  rw [← hmb]; exact B3H w' m1 o.1 _ x (hpat w' hk) (by omega) hi1.ok2 hs
 simp only [OpV.val, RecV.cs] at hexp
 generalize hxp : W3 m1.st o.1 x = xp at *
 obtain ⟨s2, an⟩ := xp
 simp only at hJ3 hexp
 (have zz:=trivial;repeat((first|clear zz|with_reducible first|refine A3 ?_|refine A5 fun _=>?_|refine A4 fun _=>?_);try simp(disch:=first|omega|assumption|((repeat(first|exact A1|exact uH|apply A2|apply uT));first|done|fail)|(simp;first|done|omega|fail))[n0, n1, n2, q0, q1, q2, hnl, hql, ht1, ho1, htb, hob]))
 refine C2n (α := Nat × MoH) (fun z => z.2.b = m1.b ∧ z.2.st = s2) (fun z => .pt z.1 (.cells #[.int .i64 an.err, .int .i64 an.bk, .bool an.made, .int .i64 an.count] 44) :: .pt b8 (.cells #[.int .i64 x.th, .int .i64 x.op, .int .i64 x.st, .int .i64 x.tk, .int .i64 x.en, .int .i64 x.nw, .int .i64 x.an.err, .int .i64 x.an.bk, .bool x.an.made, .int .i64 x.an.count] 47) :: .own 3 1 (.slice (some ⟨g, 0, none⟩) wl.length rc) wl.length (P6 wl) :: .pt b7 (.cells #[.func (.func 34) #[] #[.pointer (some ⟨b4, 0, none⟩)]] 85) :: .pt b5 (.cells #[.slice (some ⟨lb, lo, none⟩) l.length lc] 32) :: .pt b4 (.cells #[.slice (some ⟨tb, tof, none⟩) ts.length tc] 24) :: .pt b3 (.cells #[.pointer (some ⟨m.b, 0, none⟩)] 60) :: C7 z.2) (fun z => .pointer (some ⟨z.1, 0, none⟩)) ?_ ?_
 ·rintro ⟨b10, m2⟩ ⟨hb2, hst2⟩
  simp only at hb2 hst2 ⊢
  simp only [C7]
  by_cases e0 : x.en < 0
  ·have h := hJ3 m2 ⟨hb2, hst2⟩
   rw [decide_eq_true e0, Bool.true_or] at h
   (have zz:=trivial;repeat((first|clear zz|with_reducible first|refine A3 ?_|refine A5 fun _=>?_|refine A4 fun _=>?_);try simp(disch:=first|omega|assumption|((repeat(first|exact A1|exact uH|apply A2|apply uT));first|done|fail)|(simp;first|done|omega|fail))[e0]))
   refine Sels.tw ?_ h
   simp only [C7]
   (repeat' constructor)
  ·have h := hJ3 m2 ⟨hb2, hst2⟩
   rw [decide_eq_false e0, Bool.false_or] at h
   (have zz:=trivial;repeat((first|clear zz|with_reducible first|refine A3 ?_|refine A5 fun _=>?_|refine A4 fun _=>?_);try simp(disch:=first|omega|assumption|((repeat(first|exact A1|exact uH|apply A2|apply uT));first|done|fail)|(simp;first|done|omega|fail))[e0]))
   rw [B9H]
   refine Sels.tw ?_ h
   simp only [C7]
   (repeat' constructor)
 ·intro J4 hJ4
  (have zz:=trivial;repeat((first|clear zz|with_reducible first|refine A3 ?_|refine A5 fun _=>?_|refine A4 fun _=>?_);try simp(disch:=first|omega|assumption|((repeat(first|exact A1|exact uH|apply A2|apply uT));first|done|fail)|(simp;first|done|omega|fail))[n0, n1, n2, q0, q1, q2, hnl, hql, ht1, ho1, htb, hob]))
  refine ⟨?_, ?_, fun _ _ => trivial⟩
  ·refine E5 (Hc := C7 m1) A05 (fun w' hw' hs => hexp w' hw'.ks hs) (by simp only [C7]; (repeat' constructor)) ?_
   rintro m2 _ ⟨rfl, hb2, hst2⟩
   simp only [C7, AnsV.val, List.cons_append, List.nil_append]
   (have zz:=trivial;repeat((first|clear zz|with_reducible first|refine A3 ?_|refine A5 fun _=>?_|refine A4 fun _=>?_);try simp(disch:=first|omega|assumption|((repeat(first|exact A1|exact uH|apply A2|apply uT));first|done|fail)|(simp;first|done|omega|fail))[]))
   rename_i b10
   refine Sels.tw ?_ (hJ4 (b10, m2) ⟨hb2, hst2⟩)
   simp only [C7]
   (repeat' constructor)
  ·(have zz:=trivial;repeat((first|clear zz|with_reducible first|refine A3 ?_|refine A5 fun _=>?_|refine A4 fun _=>?_);try simp(disch:=first|omega|assumption|((repeat(first|exact A1|exact uH|apply A2|apply uT));first|done|fail)|(simp;first|done|omega|fail))[n0, n1, n2, q0, q1, q2, hnl, hql, ht1, ho1, htb, hob]))
   rename_i b10
   rw [A1v (by (repeat constructor)) (by rfl), B1y (by simpa using ho1) hob]
   (have zz:=trivial;repeat((first|clear zz|with_reducible first|refine A3 ?_|refine A5 fun _=>?_|refine A4 fun _=>?_);try simp(disch:=first|omega|assumption|((repeat(first|exact A1|exact uH|apply A2|apply uT));first|done|fail)|(simp;first|done|omega|fail))[n0, n1, n2, q0, q1, q2, hnl, hql, ht1, ho1, htb, hob]))
   refine E5 (Hc := C7 m1) A05 (fun w' hw' hs => hexp w' hw'.ks hs) (by simp only [C7]; (repeat' constructor)) ?_
   rintro m2 _ ⟨rfl, hb2, hst2⟩
   simp only [C7, AnsV.val, List.cons_append, List.nil_append]
   (have zz:=trivial;repeat((first|clear zz|with_reducible first|refine A3 ?_|refine A5 fun _=>?_|refine A4 fun _=>?_);try simp(disch:=first|omega|assumption|((repeat(first|exact A1|exact uH|apply A2|apply uT));first|done|fail)|(simp;first|done|omega|fail))[]))
   refine Sels.tw ?_ (hJ4 (b10, m2) ⟨hb2, hst2⟩)
   simp only [C7]
   (repeat' constructor)
end Go.Proofs.YtlplkjgcfjdinaaGreat
namespace Go.Proofs.YtlplkjgcfjdinaaGreat
open Go
theorem s6 (w : World) (c : CfgV) (tv lv : Value) (ts : List N3) (l : List RecV) (hr : E4 w tv ts.length (ts.flatMap A16)) (ht : ∀ t ∈ ts, ThRd w t) (hts : ts.length ≤ 1000) (hops : ∀ t ∈ ts, t.2.length ≤ 24 ∧ ∀ o ∈ t.2, o.1.packet.size ≤ 100 ∧ o.1.pool.length ≤ 8) (hl : l.length ≤ 24) (hv : E4 w lv l.length (l.flatMap F4)) :
  Fn PR B5 15 #[c.val, tv, lv] w (fun r w' => r = .int .i64 (S6 c ts l) ∧ C6 [] w w') := by
 refine Fn.pure (A9b (TW.go (κ := false) (S := []) ?_))
 unfold A3l
 simp only [CfgV.val]
 (have zz:=trivial;repeat((first|clear zz|with_reducible first|refine A3 ?_|refine A5 fun _=>?_|refine A4 fun _=>?_);try simp(disch:=first|omega|assumption|((repeat(first|exact A1|exact uH|apply A2|apply uT));first|done|fail)|(simp;first|done|omega|fail))[]))
 rename_i bc br
 refine C2u (c := c) (fun h0 => ?_) fun m hok hst hi => ?_
 ·(have zz:=trivial;repeat((first|clear zz|with_reducible first|refine A3 ?_|refine A5 fun _=>?_|refine A4 fun _=>?_);try simp(disch:=first|omega|assumption|((repeat(first|exact A1|exact uH|apply A2|apply uT));first|done|fail)|(simp;first|done|omega|fail))[]))
  exact A9 (by unfold S6; rw [h0]; rfl)
 have hleg : S6 c ts l = K9 (u6 ts m.st (G9 l)) 0 := by unfold S6; rw [if_pos hok, hst]
 rw [hleg]
 have hit := fun b3 b4 b5 b7 => B6B c b3 b4 b5 b7 tv lv ts l m hi hts hl hops
 generalize u6 ts m.st (G9 l) = bs at *
 (have zz:=trivial;repeat((first|clear zz|with_reducible first|refine A3 ?_|refine A5 fun _=>?_|refine A4 fun _=>?_);try simp(disch:=first|omega|assumption|((repeat(first|exact A1|exact uH|apply A2|apply uT));first|done|fail)|(simp;first|done|omega|fail))[]))
 refine G8 A70 (fun w' _ => B5r w' m.b tv lv (by obtain ⟨a, k, e, _⟩ := hr.form; exact ⟨_, _, _, e⟩) (by obtain ⟨a, k, e, _⟩ := hv.form; exact ⟨_, _, _, e⟩)) ?_
 rintro ⟨b3, b4, b5, b7⟩ u hu
 subst hu
 simp only
 rw [← List.append_assoc]
 refine A0p (hit b3 b4 b5 b7) (C04 _) (fun i (_ : Unit) => ∀ j, j < i → bs[j]? = some true) (fun _ _ => [.pt br (.cells #[.int .i64 0] 3), .pt bc (.cells #[.int .i64 c.wk, .int .i64 c.sh, .int .i64 c.cp, .int .i64 c.idle, .int .i64 c.sl] 23)])
  (fun cd (y : Nat) => cd = .ret ∧ bs[y]? = some false ∧ ∀ j, j < y → bs[j]? = some true) (fun y => [.pt br (.cells #[.int .i64 (y : Nat)] 3), .pt bc (.cells #[.int .i64 c.wk, .int .i64 c.sh, .int .i64 c.cp, .int .i64 c.idle, .int .i64 c.sl] 23)]) () (by simp) ?_ ?_ ?_ ?_
 ·intro i _ F w1 _ hw
  exact ScN.old hw hr ht hv
 ·rintro i hi' _ F hψ K' hK hE
  have hib : i < bs.length := by rw [A83] at hi'; exact hi'
  have hb := List.getElem?_eq_getElem hib
  generalize bs[i] = b at hb
  rw [B82 hb hi']
  simp only [VF.app]
  cases b with
  | true =>
   (have zz:=trivial;repeat((first|clear zz|with_reducible first|refine A3 ?_|refine A5 fun _=>?_|refine A4 fun _=>?_);try simp(disch:=first|omega|assumption|((repeat(first|exact A1|exact uH|apply A2|apply uT));first|done|fail)|(simp;first|done|omega|fail))[]))
   exact hK () fun j hj => by
    by_cases e : j < i
    ·exact hψ j e
    ·obtain rfl : j = i := by omega
     exact hb
  | false =>
   (have zz:=trivial;repeat((first|clear zz|with_reducible first|refine A3 ?_|refine A5 fun _=>?_|refine A4 fun _=>?_);try simp(disch:=first|omega|assumption|((repeat(first|exact A1|exact uH|apply A2|apply uT));first|done|fail)|(simp;first|done|omega|fail))[]))
   exact hE .ret i ⟨rfl, hb, hψ⟩
 ·rintro _ hψ
  rw [A83] at hψ
  (have zz:=trivial;repeat((first|clear zz|with_reducible first|refine A3 ?_|refine A5 fun _=>?_|refine A4 fun _=>?_);try simp(disch:=first|omega|assumption|((repeat(first|exact A1|exact uH|apply A2|apply uT));first|done|fail)|(simp;first|done|omega|fail))[]))
  refine A9 ?_
  rw [B4m fun b hb => ?_]
  obtain ⟨j, hj, e⟩ := List.getElem_of_mem hb
  have := hψ j hj
  rw [List.getElem?_eq_getElem hj, e] at this
  exact Option.some.inj this
 ·rintro _ y ⟨rfl, h1, h2⟩
  (have zz:=trivial;repeat((first|clear zz|with_reducible first|refine A3 ?_|refine A5 fun _=>?_|refine A4 fun _=>?_);try simp(disch:=first|omega|assumption|((repeat(first|exact A1|exact uH|apply A2|apply uT));first|done|fail)|(simp;first|done|omega|fail))[]))
  refine A9 ?_
  rw [B5w 0 h1 h2, Int.zero_add]
end Go.Proofs.YtlplkjgcfjdinaaGreat
namespace Go.Proofs.YtlplkjgcfjdinaaGreat
open Go
def b9 : CfgV := ⟨1, 1, 1, 5, 2⟩
def g9 (v : Value) : List N3 := [(v, [(⟨1, ⟨#[]⟩, [], 0⟩, .slice none 0 0)])]
def M7 (e : Int) (a : Int) : List RecV := [⟨0, 0, 0, 1, e, 0, ⟨a, 0, false, 0⟩⟩]
theorem C0m : S6 b9 [] [] = -1 := by kernel_rfl
theorem C0g (v : Value) : S6 b9 (g9 v) (M7 2 0) = -1 := by kernel_rfl
theorem C0M (v : Value) : S6 b9 (g9 v) (M7 2 1) = 0 := by kernel_rfl
theorem C1G (v : Value) : S6 b9 (g9 v) (M7 1 13) = -1 := by kernel_rfl
theorem C02 : S6 b9 [] (M7 2 0) = 0 := by kernel_rfl
theorem B9j : A0j (M7 2 0) = true := by kernel_rfl
theorem B9x : A0j [⟨0, 0, 0, -1, 0, 0, ⟨0, 0, false, 0⟩⟩] = false := by kernel_rfl
theorem C0V : N1 (E9 (M7 2 0)) (M7 2 0).length = [0] := by kernel_rfl
theorem B49 (w : World) : Fn PR B5 6 #[] w (fun r w' => r = .bool true ∧ C6 [] w w') := by
 refine Fn.pure (A2K (TW.go (κ := false) (S := []) ?_))
 unfold n4
 (have zz:=trivial;repeat((first|clear zz|with_reducible first|refine A3 ?_|refine A5 fun _=>?_|refine A4 fun _=>?_|refine E1 fun _=>?_|refine E3 (hK:=fun _=>?_)|refine D9 (hK:=fun _=>?_)|refine E2 (hK:=fun _=>?_)|refine D8 (hK:=fun _=>?_)|refine E0 (hK:=fun _=>?_));try simp(disch:=first|omega|assumption|((repeat(first|exact A1|exact uH|apply A2|apply uT));first|done|fail)|(simp;first|done|omega|fail))[]))
 rename_i bc bo bt bg bb bz
 have hops : ∀ v, ∀ t ∈ g9 v, t.2.length ≤ 24 ∧ ∀ o ∈ t.2, o.1.packet.size ≤ 100 ∧ o.1.pool.length ≤ 8 := by
  intro v t ht
  obtain rfl : t = _ := List.mem_singleton.1 ht
  refine ⟨by simp, fun o ho => ?_⟩
  obtain rfl : o = _ := List.mem_singleton.1 ho
  exact ⟨by decide, by simp⟩
 have hth : ∀ w', E4 w' (.slice (some ⟨bo, 0, none⟩) 1 1) 1 [.int .i64 1, .string ⟨#[]⟩, .slice none 0 0, .int .i64 0] → ∀ t ∈ g9 (.slice (some ⟨bo, 0, none⟩) 1 1), ThRd w' t := by
  intro w' h t ht
  obtain rfl : t = _ := List.mem_singleton.1 ht
  refine ⟨h, fun o ho => ?_, by simp⟩
  obtain rfl : o = _ := List.mem_singleton.1 ho
  exact Or.inl ⟨rfl, rfl, none, 0, rfl⟩
 refine C5 (u := .int .i64 (S6 b9 [] [])) N4 (fun w' hw' => s6 w' b9 (.slice none 0 0) (.slice none 0 0) [] [] (Or.inl ⟨rfl, rfl, none, 0, rfl⟩) (by simp) (by simp) (by simp) (by simp) (Or.inl ⟨rfl, rfl, none, 0, rfl⟩)) ?_
 rw [C0m]
 (have zz:=trivial;repeat((first|clear zz|with_reducible first|refine A3 ?_|refine A5 fun _=>?_|refine A4 fun _=>?_);try simp(disch:=first|omega|assumption|((repeat(first|exact A1|exact uH|apply A2|apply uT));first|done|fail)|(simp;first|done|omega|fail))[]))
 refine C5 (u := .int .i64 (S6 b9 (g9 (.slice (some ⟨bo, 0, none⟩) 1 1)) (M7 2 0))) N4 (fun w' hw' => s6 w' b9 (.slice (some ⟨bt, 0, none⟩) 1 1) (.slice (some ⟨bg, 0, none⟩) 1 1) (g9 (.slice (some ⟨bo, 0, none⟩) 1 1)) (M7 2 0) (H2.own (e := 53) (k := 1) (by (repeat constructor)) w' hw') (hth w' (H2.own (e := 52) (k := 4) (by (repeat constructor)) w' hw')) (by simp [g9]) (hops _) (by simp [M7]) (H2.own (e := 47) (k := 10) (by (repeat constructor)) w' hw')) ?_
 rw [C0g]
 (have zz:=trivial;repeat((first|clear zz|with_reducible first|refine A3 ?_|refine A5 fun _=>?_|refine A4 fun _=>?_);try simp(disch:=first|omega|assumption|((repeat(first|exact A1|exact uH|apply A2|apply uT));first|done|fail)|(simp;first|done|omega|fail))[]))
 refine C5 (u := .int .i64 (S6 b9 (g9 (.slice (some ⟨bo, 0, none⟩) 1 1)) (M7 2 1))) N4 (fun w' hw' => s6 w' b9 (.slice (some ⟨bt, 0, none⟩) 1 1) (.slice (some ⟨bb, 0, none⟩) 1 1) (g9 (.slice (some ⟨bo, 0, none⟩) 1 1)) (M7 2 1) (H2.own (e := 53) (k := 1) (by (repeat constructor)) w' hw') (hth w' (H2.own (e := 52) (k := 4) (by (repeat constructor)) w' hw')) (by simp [g9]) (hops _) (by simp [M7]) (H2.own (e := 47) (k := 10) (by (repeat constructor)) w' hw')) ?_
 rw [C0M]
 (have zz:=trivial;repeat((first|clear zz|with_reducible first|refine A3 ?_|refine A5 fun _=>?_|refine A4 fun _=>?_);try simp(disch:=first|omega|assumption|((repeat(first|exact A1|exact uH|apply A2|apply uT));first|done|fail)|(simp;first|done|omega|fail))[]))
 refine C5 (u := .int .i64 (S6 b9 (g9 (.slice (some ⟨bo, 0, none⟩) 1 1)) (M7 1 13))) N4 (fun w' hw' => s6 w' b9 (.slice (some ⟨bt, 0, none⟩) 1 1) (.slice (some ⟨bz, 0, none⟩) 1 1) (g9 (.slice (some ⟨bo, 0, none⟩) 1 1)) (M7 1 13) (H2.own (e := 53) (k := 1) (by (repeat constructor)) w' hw') (hth w' (H2.own (e := 52) (k := 4) (by (repeat constructor)) w' hw')) (by simp [g9]) (hops _) (by simp [M7]) (H2.own (e := 47) (k := 10) (by (repeat constructor)) w' hw')) ?_
 rw [C1G]
 (have zz:=trivial;repeat((first|clear zz|with_reducible first|refine A3 ?_|refine A5 fun _=>?_|refine A4 fun _=>?_);try simp(disch:=first|omega|assumption|((repeat(first|exact A1|exact uH|apply A2|apply uT));first|done|fail)|(simp;first|done|omega|fail))[]))
 refine C5 (u := .int .i64 (S6 b9 [] (M7 2 0))) N4 (fun w' hw' => s6 w' b9 (.slice none 0 0) (.slice (some ⟨bg, 0, none⟩) 1 1) [] (M7 2 0) (Or.inl ⟨rfl, rfl, none, 0, rfl⟩) (by simp) (by simp) (by simp) (by simp [M7]) (H2.own (e := 47) (k := 10) (by (repeat constructor)) w' hw')) ?_
 rw [C02]
 (have zz:=trivial;repeat((first|clear zz|with_reducible first|refine A3 ?_|refine A5 fun _=>?_|refine A4 fun _=>?_);try simp(disch:=first|omega|assumption|((repeat(first|exact A1|exact uH|apply A2|apply uT));first|done|fail)|(simp;first|done|omega|fail))[]))
 refine C5 (u := .bool (A0j (M7 2 0))) A3v (fun w' hw' => B3z w' (.slice (some ⟨bg, 0, none⟩) 1 1) (M7 2 0) (by simp [M7]) (H2.own (e := 47) (k := 10) (by (repeat constructor)) w' hw')) ?_
 rw [B9j]
 (have zz:=trivial;repeat((first|clear zz|with_reducible first|refine A3 ?_|refine A5 fun _=>?_|refine A4 fun _=>?_|refine E1 fun _=>?_|refine E3 (hK:=fun _=>?_)|refine D9 (hK:=fun _=>?_)|refine E2 (hK:=fun _=>?_)|refine D8 (hK:=fun _=>?_)|refine E0 (hK:=fun _=>?_));try simp(disch:=first|omega|assumption|((repeat(first|exact A1|exact uH|apply A2|apply uT));first|done|fail)|(simp;first|done|omega|fail))[]))
 rename_i bx
 refine C5 (u := .bool (A0j [⟨0, 0, 0, -1, 0, 0, ⟨0, 0, false, 0⟩⟩])) A3v (fun w' hw' => B3z w' (.slice (some ⟨bx, 0, none⟩) 1 1) [⟨0, 0, 0, -1, 0, 0, ⟨0, 0, false, 0⟩⟩] (by simp) (H2.own (e := 47) (k := 10) (by (repeat constructor)) w' hw')) ?_
 rw [B9x]
 (have zz:=trivial;repeat((first|clear zz|with_reducible first|refine A3 ?_|refine A5 fun _=>?_|refine A4 fun _=>?_);try simp(disch:=first|omega|assumption|((repeat(first|exact A1|exact uH|apply A2|apply uT));first|done|fail)|(simp;first|done|omega|fail))[]))
 refine G8 p4 (fun w' hw' => A4p w' (.slice (some ⟨bg, 0, none⟩) 1 1) (M7 2 0) (by simp [M7]) (H2.own (e := 47) (k := 10) (by (repeat constructor)) w' hw')) ?_
 intro _ r hr
 subst hr
 rw [C0V]
 refine A0q (e := 3) (k := 1) (v := r) (q := 1) (xs := P6 [0]) (by (repeat constructor)) fun ra rc e => ?_
 subst e
 (have zz:=trivial;repeat((first|clear zz|with_reducible first|refine A3 ?_|refine A5 fun _=>?_|refine A4 fun _=>?_);try simp(disch:=first|omega|assumption|((repeat(first|exact A1|exact uH|apply A2|apply uT));first|done|fail)|(simp;first|done|omega|fail))[]))
 exact A9 rfl
end Go.Proofs.YtlplkjgcfjdinaaGreat
