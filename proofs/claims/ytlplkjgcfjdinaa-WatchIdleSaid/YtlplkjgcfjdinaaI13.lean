/- The proof of a given statement, a part of it (Args Join ShR17 Few ArgsC Rec Args22 ShL23 ShWatch IsOp ShOrder Sym Points). No condition but what each lemma says. -/
import Derived.WalkKit
import Derived.ProofKit
import Derived.OpenShut
import Derived.Carry
import Derived.Deep.Slices
import Derived.Test.YtlplkjgcfjdinaaRows
import Derived.Test.YtlplkjgcfjdinaaI12
set_option linter.unusedVariables false
set_option linter.unusedSimpArgs false
namespace Go.Proofs.Ytlplkjgcfjdinaa
open Go Go.ChangeShapes Go.WideShapes Go.ChangeAt Go.RowKit
theorem B3U {w w' : World} (h : B5 [] w w') (hk : Sk C5 w w') (may : MemPlace → Prop) : w.keptBut w' may := by
 refine ⟨hk.2.2.2.1, hk.2.2.2.2, fun i hi => ?_⟩
 have h1 : w.heap[i]? = some w.heap[i] := Array.getElem?_eq_getElem hi
 have h2 : w'.heap[i]? = some w.heap[i] := h.2 i _ (by simp) h1
 rw [h1, h2]
 cases w.heap[i] <;> simp
theorem B0M {f : FuncId} {args : Array Value} {w : World} (h : Fn PR C5 f args w (fun v w' => v = .bool true ∧ B5 [] w w')) :
  Calls PR f args w fun e w' => e = .returned (.bool true) ∧ (∀ may, w.keptBut w' may) ∧ B5 [] w w' :=
 Calls.mono h fun _ w' ⟨v, he, ⟨hv, hb⟩, hs⟩ => ⟨by rw [he, hv], B3U hb hs, hb⟩
theorem own : ownKnob PR.godebug = none := by kernel_rfl
theorem B4C : laidOutB PR = true := by kernel_rfl
theorem A8z {H : Type} {enc : TypeId × Value → H} {P : Program} {f : Func} {s : ChangeSpec} {apart fresh handsOn : Bool} {W W' : World} {args : Array Value} {v : Value} {ds gs : List (DataW H)} {before pa pv : List MemPlace}
  (hW : DataW.Whole enc P f.params.toList s.vars apart W args.toList ds gs before)
  (hres : ∀ (b : Nat) (sp : Nat → Bool) (hd : Bool), DataW.TrodAll enc P W' b sp hd f.resultTypes.toList (v.resultList f.resultTypes.size) (s.fn H (ds ++ gs)).results [])
  (hargs : ∀ sp : Nat → Bool, (∀ p ∈ before, sp p.block = true) → DataW.TrodAll enc P W' 0 sp true f.params.toList args.toList (s.fn H (ds ++ gs)).args pa)
  (hvars : ∀ sp : Nat → Bool, (∀ p ∈ before, sp p.block = true) → DataW.TrodVars enc P W' sp s.vars (s.fn H (ds ++ gs)).vars pv)
  (hk : ∀ may, W.keptBut W' may) : s.post enc P f apart fresh handsOn false W args v W' := by
 have hold : ∀ p ∈ before, (fun b => decide (b < W.heap.size)) p.block = true := fun p hp => by simpa using hW.lt p hp
 exact ⟨ds, gs, before, [], pa, pv, hW, hres _ _ _, hargs _ hold, hvars _ hold, hk _, fun h => by cases h⟩
theorem A7r {v x : Value} (h : v.cells.toList = [x]) (hv : plain v = true) : v = x := by
 cases v <;> first | (simp [Value.cells] at h; exact h) | (simp [plain] at hv)
section
variable {H : Type} {enc : TypeId × Value → H} {P : Program} {w : World} {base : Nat} {spare : Nat → Bool} {held : Bool}
theorem A3C {α : Type} {f : α → List Value} {k : Nat} (hk : ∀ x, (f x).length = k) (hkp : 0 < k) {Q : α → Prop} {t e : TypeId} {fuel : Nat} {cs : List Value} {x : DataW H × List MemPlace}
  (ht : P.underlying t = some (.slice e)) (hc : P.cellsOf e = k) (h : DataW.trod enc P w base spare held fuel t cs = some x)
  (he : ∀ n cs' y, DataW.trod enc P w base spare held n e cs' = some y → ∃ a, cs' = f a ∧ Q a) :
  ∃ (v : Value) (l : List α), cs = [v] ∧ E9 w v l.length (l.flatMap f) ∧ (∀ a ∈ l, Q a) ∧ l.length ≤ maxLen := by
 rcases Go.Deep.open_slice ht h with ⟨rfl, _⟩ | ⟨a, len, cap, m, n, D, Pl, rfl, hb, hl, hm, hmm, _, hx⟩
 ·exact ⟨_, [], rfl, Or.inl ⟨rfl, rfl, none, 0, rfl⟩, by simp, by simp⟩
 have hlm : len ≤ m := by rw [hmm]; split <;> omega
 have hch : ∀ i : Fin len, ∃ a' : α, Q a' ∧ w.cells? base (a.add (i.1 * k)) k = some (f a') := by
  intro i
  obtain ⟨cs', h1, h2⟩ := hx i.1 (by omega)
  obtain ⟨a', rfl, hq⟩ := he _ _ _ h2
  rw [hc] at h1
  exact ⟨a', hq, h1⟩
 let g : Fin len → α := fun i => Classical.choose (hch i)
 have hg : ∀ i, Q (g i) ∧ w.cells? base (a.add (i.1 * k)) k = some (f (g i)) := fun i => Classical.choose_spec (hch i)
 refine ⟨_, List.ofFn g, rfl, ?_, ?_, by simp; omega⟩
 ·by_cases h0 : len = 0
  ·subst h0; exact Or.inl ⟨by simp, by simp, _, _, rfl⟩
  obtain ⟨b, o, spot⟩ := a
  have h1 := (World.cells?_some (hg ⟨0, by omega⟩).2).2.2 0 hkp
  have hfl := hk (g ⟨0, by omega⟩)
  rw [List.getElem?_eq_getElem (by omega)] at h1
  have hspot : spot = none := by simpa [Addr.add] using World.cell?_spot h1
  subst hspot
  refine Or.inr ⟨b, o, cap, by simp, fun i hi => ?_⟩
  rw [B2Y hk] at hi
  simp only [List.length_ofFn] at hi
  have hd : i / k * k + i % k = i := by rw [Nat.mul_comm]; exact Nat.div_add_mod i k
  have hj : i % k < k := Nat.mod_lt _ hkp
  have hi' : i / k < len := by rw [Nat.div_lt_iff_lt_mul hkp]; exact hi
  have h2 := (World.cells?_some (hg ⟨i / k, hi'⟩).2).2.2 (i % k) hj
  rw [← hd, x8 hk _ _ _ hj, List.getElem?_ofFn, dif_pos hi']
  simp only [Option.bind_some]
  rw [← h2, Q1, Q1]
  simp only [Nat.add_assoc]
 ·intro a' ha'
  rw [List.mem_ofFn] at ha'
  obtain ⟨i, rfl⟩ := ha'
  exact (hg i).1
theorem E0 {t : TypeId} {k : IntKind} {fuel : Nat} {cs : List Value} {x : DataW H × List MemPlace} (ht : P.underlying t = some (.int k)) (h : DataW.trod enc P w base spare held fuel t cs = some x) :
  ∃ a : Int, cs = [.int k a] ∧ (Lit.int k a).wf = true := by
 obtain ⟨n, h1, _, h2⟩ := DataW.trod_int ht h
 exact ⟨n, h1, h2⟩
theorem B0r {t : TypeId} {fuel : Nat} {cs : List Value} {x : DataW H × List MemPlace} (ht : P.underlying t = some .string) (h : DataW.trod enc P w base spare held fuel t cs = some x) :
  ∃ s : ByteArray, cs = [.string s] ∧ s.size ≤ maxLen := by
 obtain ⟨s, h1, _, h2⟩ := DataW.trod_string ht h
 exact ⟨s, h1, h2⟩
theorem A9C {α : Type} {f : α → List Value} {t e : TypeId} {Q : List α → Prop} {r : Reach} {b0 : Nat} {v : Value} {d : DataW H} {ps : List MemPlace} (ht : P.underlying t = some (.slice e)) (hval : Value.okWide P w r b0 t v) (hd : DataW.Trod enc P w base spare held t v d ps)
  (h : ∀ fuel cs x, DataW.trod enc P w base spare held fuel t cs = some x → ∃ (v : Value) (l : List α), cs = [v] ∧ E9 w v l.length (l.flatMap f) ∧ Q l) : ∃ l : List α, E9 w v l.length (l.flatMap f) ∧ Q l := by
 obtain ⟨a, len, cap, rfl⟩ := okWide_slice ht hval
 obtain ⟨fuel, hf⟩ := hd
 obtain ⟨v', l, h1, h2⟩ := h _ _ _ hf
 have : Value.slice a len cap = v' := A7r h1 rfl
 subst this
 exact ⟨l, h2⟩
end
theorem A6T {H : Type} {enc : TypeId × Value → H} {P : Program} (hl : laidOutB P = true) {W W' : World} (hb : B5 [] W W') {sp : Nat → Bool} :
  ∀ {ts : List TypeId} {vs : List Value} {ds : List (DataW H)} {ps : List MemPlace}, (ts.all fun t => P.readableRec t && decide (t < P.types.size)) = true → DataW.TrodAll enc P W 0 (fun _ => true) true ts vs ds ps →
   (∀ p ∈ ps, p.block < W.heap.size) → (∀ p ∈ ps, sp p.block = true) → DataW.TrodAll enc P W' 0 sp true ts vs ds ps := by
 intro ts
 induction ts with
 | nil => intro vs ds ps _ h _ _; cases vs <;> cases ds <;> exact h
 | cons t ts ih =>
  intro vs ds ps ht h hlt hsp
  simp only [List.all_cons, Bool.and_eq_true, decide_eq_true_eq] at ht
  obtain ⟨v, vs', d, ds', p, q, rfl, rfl, rfl, h0, hr⟩ := trodAll_cons h
  refine ⟨p, q, WideElems.Trod_stays hl ht.1.1 ht.1.2 h0 (fun x hx => ?_) (fun x hx => hsp x (List.mem_append_left _ hx)),
   ih ht.2 hr (fun x hx => hlt x (List.mem_append_right _ hx)) (fun x hx => hsp x (List.mem_append_right _ hx)), rfl⟩
  have hlt' := hlt x (List.mem_append_left _ hx)
  have e1 : W.heap[x.block]? = some W.heap[x.block] := Array.getElem?_eq_getElem hlt'
  have e2 : W'.heap[x.block]? = some W.heap[x.block] := hb.2 _ _ (by simp) e1
  cases x with
  | cell b o => show W'.cell? _ = W.cell? _; unfold World.cell?; rw [show W'.heap[b]? = W.heap[b]? from e2.trans e1.symm]
  | map b => exact e2.trans e1.symm
set_option maxRecDepth 10000
section
variable {H : Type} {enc : TypeId × Value → H} {w : World} {base : Nat} {spare : Nat → Bool} {held : Bool} {fuel : Nat} {cs : List Value} {x : DataW H × List MemPlace}
theorem B2y (h : DataW.trod enc PR w base spare held fuel 124 cs = some x) : ∃ a : BkV, cs = f9 a ∧ True := by
 obtain ⟨xs, n, _, rfl, hl, hxl, hf⟩ := DataW.trod_struct A6k.und h
 have hl4 : cs.length = 2 := hl.trans (by kernel_rfl)
 have hx4 : xs.length = 2 := hxl.trans (by kernel_rfl)
 match cs, hl4 with
 | [c0, c1], _ =>
  have f0 := hf 0 _ rfl
  have f1 := hf 1 _ rfl
  rw [List.getElem?_eq_getElem (by omega)] at f0 f1
  obtain ⟨a0, e0, _⟩ := E0 Try.underlying3 f0
  obtain ⟨a1, e1, _⟩ := E0 Try.underlying3 f1
  have e0 : [c0] = [.int .i64 a0] := e0
  have e1 : [c1] = [.int .i64 a1] := e1
  cases e0; cases e1
  exact ⟨(a0, a1), rfl, trivial⟩
theorem B2a (h : DataW.trod enc PR w base spare held fuel 51 cs = some x) : ∃ (v : Value) (l : List BkV), cs = [v] ∧ E9 w v l.length (l.flatMap f9) ∧ l.length ≤ maxLen := by
 obtain ⟨v, l, h1, h2, _, h3⟩ := A3C (f := f9) (k := 2) (Q := fun _ => True) (fun _ => rfl) (by omega) Try.underlying51 (by kernel_rfl) h (fun n cs' y hy => B2y hy)
 exact ⟨v, l, h1, h2, h3⟩
end
end Go.Proofs.Ytlplkjgcfjdinaa
namespace Go.Proofs.Ytlplkjgcfjdinaa
open Go
set_option maxRecDepth 100000
theorem jf2 : mapsRowed Try.prog = true := by kernel_rfl
theorem jf6 : (Program.stops Try.prog == []) = true := by kernel_rfl
theorem jf8 : (Program.stopKnobs Try.prog == []) = true := by kernel_rfl
theorem B7g : Program.stopsHeard Try.prog = true := by kernel_rfl
theorem B7c : Program.mayEnter Try.prog = true := by kernel_rfl
end Go.Proofs.Ytlplkjgcfjdinaa
namespace Go.Proofs.Ytlplkjgcfjdinaa
open Go
def e8 (X : Nat → Prop) (t0 t1 : Value) (R : Value → WP) : WP :=
 jn (n := 1) (fun t4 =>
 jn (n := 2) (fun t4_1 t5 =>
 R (.bool true)) fun J1 =>
 lp (n := 2) (fun L2 t4_2 t5_1 =>
 jn (n := 0) (
 jn (n := 1) (fun t4_3 =>
 A0 PR (binOp .add 3 t5_1 (.int .i64 1)) fun t15 =>
 L2 t4_3 t15) fun J3 =>
 A0 PR (Instr.indexAt 54 t0 t5_1) fun t18 =>
 A0 PR (Instr.fieldAt 53 t18 1) fun t19 =>
 A6 PR (Instr.loadAt 9 t19) fun t20 =>
 A0 PR (A7 .len #[9] 0 [t20]) fun t21 =>
 A0 PR (binOp .gtr 3 t21 (.int .i64 100)) fun t22 =>
 gj t22 false (fun J => J t0) fun t24 =>
 gj t22 false (fun J => J t5_1) fun t25 =>
 gj t22 false (fun J => A0 PR (Instr.indexAt 54 t24 t25) J) fun t26 =>
 gj t22 false (fun J => A0 PR (Instr.fieldAt 53 t26 2) J) fun t27 =>
 gj t22 false (fun J => A6 PR (Instr.loadAt 51 t27) J) fun t28 =>
 gj t22 false (fun J => A0 PR (A7 .len #[51] 0 [t28]) J) fun t29 =>
 gj t22 false (fun J => A0 PR (binOp .gtr 3 t29 (.int .i64 8)) J) fun t30 =>
 A0 PR (do pure (if ← asBool t22 then (.bool true) else t30)) fun t31 =>
 C9 t31 (
 R (.bool false)) (
 J3 t4_2)) fun J4 =>
 A0 PR (A7 .len #[54] 0 [t0]) fun t12 =>
 A0 PR (binOp .lss 3 t5_1 t12) fun t13 =>
 C9 t13 (
 J4) (
 J1 t4_2 t5_1)) t4 (.int .i64 0)) fun J5 =>
 A0 PR (A7 .len #[54] 0 [t0]) fun t7 =>
 A0 PR (binOp .gtr 3 t7 t1) fun t9 =>
 C9 t9 (
 R (.bool false)) (
 J5 (.bool false))
theorem Z8 : B0 PR 16 := A9 Try.func16 (by kernel_rfl) rfl
theorem A1P {X : Nat → Prop} {t0 t1 : Value} {R : Value → WP} {w : World} (h : e8 X t0 t1 R w) : Fn PR X 16 #[t0, t1] w R := D3 (args := [t0, t1]) mixed Try.func16 (by kernel_rfl) h
def Y4 (X : Nat → Prop) (t0 : Value) (R : Value → WP) : WP :=
 B1 PR X (Instr.box 23 t0) fun t1 =>
 A0 PR (Instr.fieldAt 23 t1 0) fun t3 =>
 A6 PR (Instr.loadAt 3 t3) fun t4 =>
 A0 PR (binOp .leq 3 t4 (.int .i64 6)) fun t5 =>
 gj t5 true (fun J => A0 PR (Instr.fieldAt 23 t1 1) J) fun t7 =>
 gj t5 true (fun J => A6 PR (Instr.loadAt 3 t7) J) fun t8 =>
 gj t5 true (fun J => A0 PR (binOp .leq 3 t8 (.int .i64 6)) J) fun t9 =>
 A0 PR (do pure (if ← asBool t5 then t9 else (.bool false))) fun t10 =>
 gj t10 true (fun J => A0 PR (Instr.fieldAt 23 t1 2) J) fun t12 =>
 gj t10 true (fun J => A6 PR (Instr.loadAt 3 t12) J) fun t13 =>
 gj t10 true (fun J => A0 PR (binOp .leq 3 t13 (.int .i64 12)) J) fun t14 =>
 A0 PR (do pure (if ← asBool t10 then t14 else (.bool false))) fun t15 =>
 R t15
theorem A0C : B0 PR 17 := A9 Try.func17 (by kernel_rfl) rfl
theorem A0N {X : Nat → Prop} {t0 : Value} {R : Value → WP} {w : World} (h : Y4 X t0 R w) : Fn PR X 17 #[t0] w R := D3 (args := [t0]) mixed Try.func17 (by kernel_rfl) h
end Go.Proofs.Ytlplkjgcfjdinaa
namespace Go.Proofs.Ytlplkjgcfjdinaa
open Go
def A21 (o : OpV × Value) : List Value := [.int .i64 o.1.kind, .string o.1.packet, o.2, .int .i64 o.1.shard]
def B3s (o : OpV × Value) : Prop := ∃ a c, o.2 = .slice a o.1.pool.length c
def w7 (c : CfgV) : Bool := decide (c.wk ≤ 6) && decide (c.sh ≤ 6) && decide (c.cp ≤ 12)
def A3y (o : OpV) : Bool := decide (o.packet.size ≤ 100) && decide (o.pool.length ≤ 8)
def U8 (l : List OpV) (most : Int) : Bool := decide ((l.length : Int) ≤ most) && l.all A3y
theorem B1l (w : World) (c : CfgV) : Fn PR C5 17 #[c.val] w (fun r w' => r = .bool (w7 c) ∧ B5 [] w w') := by
 refine Fn.pure (A0N (TW.go (κ := false) (S := []) ?_))
 unfold Y4
 simp only [CfgV.val]
 by_cases c1 : c.wk ≤ 6
 ·by_cases c2 : c.sh ≤ 6
  ·(have zz:=trivial;repeat((first|clear zz|with_reducible first|refine A3 ?_|refine A5 fun _=>?_|refine A4 fun _=>?_);try simp(disch:=first|omega|assumption|((repeat(first|exact A1|exact uH|apply A2|apply uT));first|done|fail)|(simp;first|done|omega|fail))[c1, c2]))
   exact A8 (by simp [w7, c1, c2])
  ·(have zz:=trivial;repeat((first|clear zz|with_reducible first|refine A3 ?_|refine A5 fun _=>?_|refine A4 fun _=>?_);try simp(disch:=first|omega|assumption|((repeat(first|exact A1|exact uH|apply A2|apply uT));first|done|fail)|(simp;first|done|omega|fail))[c1, c2]))
   exact A8 (by simp [w7, c1, c2])
 ·(have zz:=trivial;repeat((first|clear zz|with_reducible first|refine A3 ?_|refine A5 fun _=>?_|refine A4 fun _=>?_);try simp(disch:=first|omega|assumption|((repeat(first|exact A1|exact uH|apply A2|apply uT));first|done|fail)|(simp;first|done|omega|fail))[c1]))
  exact A8 (by simp [w7, c1])
theorem B13 (w : World) (v : Value) (l : List (OpV × Value)) (most : Int) (hn : l.length ≤ 9223372036854775807) (hv : E9 w v l.length (l.flatMap A21)) (hp : ∀ o ∈ l, B3s o) :
  Fn PR C5 16 #[v, .int .i64 most] w (fun r w' => r = .bool (U8 (l.map (·.1)) most) ∧ B5 [] w w') := by
 refine Fn.pure (A1P (TW.go (κ := false) (S := []) ?_))
 unfold e8
 obtain ⟨a, c, rfl, hr⟩ := hv.form
 by_cases c0 : most < (l.length : Int)
 ·(have zz:=trivial;repeat((first|clear zz|with_reducible first|refine A3 ?_|refine A5 fun _=>?_|refine A4 fun _=>?_);try simp(disch:=first|omega|assumption|((repeat(first|exact A1|exact uH|apply A2|apply uT));first|done|fail)|(simp;first|done|omega|fail))[c0]))
  exact A8 (by simp [U8]; omega)
 (have zz:=trivial;repeat((first|clear zz|with_reducible first|refine A3 ?_|refine A5 fun _=>?_|refine A4 fun _=>?_);try simp(disch:=first|omega|assumption|((repeat(first|exact A1|exact uH|apply A2|apply uT));first|done|fail)|(simp;first|done|omega|fail))[c0]))
 refine q7 l.length (fun _ _ => .bool false) (fun _ (_ : Unit) => []) (fun i _ => ∀ (j : Nat) x, j < i → l[j]? = some x → A3y x.1 = true) () (by intros; omega) ?_
 rintro i _ hi hφ L hL
 by_cases hlt : i < l.length
 ·have hx := List.getElem?_eq_getElem hlt
  obtain ⟨b, o, rfl, hrow⟩ := hr (by omega)
  have h1 := hrow.cellAt (f := A21) (k := 4) (j := 1) (fun _ => rfl) hx rfl
  have h2 := hrow.cellAt (f := A21) (k := 4) (j := 2) (fun _ => rfl) hx rfl
  obtain ⟨pa, pc, hpl⟩ := hp l[i] (List.getElem_mem hlt)
  rw [hpl] at h2
  have bad : A3y l[i].1 = false → U8 (l.map (·.1)) most = false := fun h => by
   unfold U8
   rw [Bool.and_eq_false_iff]; right
   rw [List.all_eq_false]
   exact ⟨l[i].1, List.mem_map_of_mem (List.getElem_mem hlt), by simp [h]⟩
  by_cases c1 : (100 : Int) < l[i].1.packet.size
  ·(have zz:=trivial;repeat((first|clear zz|with_reducible first|refine A3 ?_|refine A5 fun _=>?_|refine A4 fun _=>?_);try simp(disch:=first|omega|assumption|((repeat(first|exact A1|exact uH|apply A2|apply uT));first|done|fail)|(simp;first|done|omega|fail))[hlt, h1, h2, c1]))
   exact A8 (by rw [bad (by simp [A3y]; omega)])
  by_cases c2 : (8 : Int) < l[i].1.pool.length
  ·(have zz:=trivial;repeat((first|clear zz|with_reducible first|refine A3 ?_|refine A5 fun _=>?_|refine A4 fun _=>?_);try simp(disch:=first|omega|assumption|((repeat(first|exact A1|exact uH|apply A2|apply uT));first|done|fail)|(simp;first|done|omega|fail))[hlt, h1, h2, c1, c2]))
   exact A8 (by rw [bad (by simp [A3y]; omega)])
  (have zz:=trivial;repeat((first|clear zz|with_reducible first|refine A3 ?_|refine A5 fun _=>?_|refine A4 fun _=>?_);try simp(disch:=first|omega|assumption|((repeat(first|exact A1|exact uH|apply A2|apply uT));first|done|fail)|(simp;first|done|omega|fail))[hlt, h1, h2, c1, c2]))
  refine hL hlt () fun j x hj hx' => ?_
  by_cases e : j < i
  ·exact hφ j x e hx'
  ·obtain rfl : j = i := by omega
   rw [hx] at hx'; injection hx' with hx'; subst hx'
   simp [A3y]; omega
 ·(have zz:=trivial;repeat((first|clear zz|with_reducible first|refine A3 ?_|refine A5 fun _=>?_|refine A4 fun _=>?_);try simp(disch:=first|omega|assumption|((repeat(first|exact A1|exact uH|apply A2|apply uT));first|done|fail)|(simp;first|done|omega|fail))[hlt]))
  refine A8 ?_
  have : U8 (l.map (·.1)) most = true := by
   unfold U8
   rw [Bool.and_eq_true]
   refine ⟨by simp; omega, ?_⟩
   rw [List.all_eq_true]
   intro x hx
   obtain ⟨y, hy, rfl⟩ := List.mem_map.1 hx
   obtain ⟨j, hj, e⟩ := List.getElem_of_mem hy
   exact hφ j y (by omega) (by simp [hj, e])
  rw [this]
end Go.Proofs.Ytlplkjgcfjdinaa
namespace Go.Proofs.Ytlplkjgcfjdinaa
open Go Go.ChangeShapes Go.WideShapes Go.ChangeAt Go.RowKit
set_option maxRecDepth 10000
section
variable {H : Type} {enc : TypeId × Value → H} {w : World} {base : Nat} {spare : Nat → Bool} {held : Bool} {fuel : Nat} {cs : List Value} {x : DataW H × List MemPlace}
theorem B1T (h : DataW.trod enc PR w base spare held fuel 23 cs = some x) : ∃ c : CfgV, cs = [.int .i64 c.wk, .int .i64 c.sh, .int .i64 c.cp, .int .i64 c.idle, .int .i64 c.sl] ∧ True := by
 obtain ⟨xs, n, _, rfl, hl, hxl, hf⟩ := DataW.trod_struct A2P.und h
 have hl4 : cs.length = 5 := hl.trans (by kernel_rfl)
 have hx4 : xs.length = 5 := hxl.trans (by kernel_rfl)
 match cs, hl4 with
 | [c0, c1, c2, c3, c4], _ =>
  have f0 := hf 0 _ rfl
  have f1 := hf 1 _ rfl
  have f2 := hf 2 _ rfl
  have f3 := hf 3 _ rfl
  have f4 := hf 4 _ rfl
  rw [List.getElem?_eq_getElem (by omega)] at f0 f1 f2 f3 f4
  obtain ⟨a0, e0, _⟩ := E0 Try.underlying3 f0
  obtain ⟨a1, e1, _⟩ := E0 Try.underlying3 f1
  obtain ⟨a2, e2, _⟩ := E0 Try.underlying3 f2
  obtain ⟨a3, e3, _⟩ := E0 Try.underlying3 f3
  obtain ⟨a4, e4, _⟩ := E0 Try.underlying3 f4
  have e0 : [c0] = [.int .i64 a0] := e0
  have e1 : [c1] = [.int .i64 a1] := e1
  have e2 : [c2] = [.int .i64 a2] := e2
  have e3 : [c3] = [.int .i64 a3] := e3
  have e4 : [c4] = [.int .i64 a4] := e4
  cases e0; cases e1; cases e2; cases e3; cases e4
  exact ⟨⟨a0, a1, a2, a3, a4⟩, rfl, trivial⟩
theorem B27 (h : DataW.trod enc PR w base spare held fuel 53 cs = some x) : ∃ o : OpV × Value, cs = A21 o ∧ E9 w o.2 o.1.pool.length (o.1.pool.flatMap f9) := by
 obtain ⟨xs, n, _, rfl, hl, hxl, hf⟩ := DataW.trod_struct A06.und h
 have hl4 : cs.length = 4 := hl.trans (by kernel_rfl)
 have hx4 : xs.length = 4 := hxl.trans (by kernel_rfl)
 match cs, hl4 with
 | [c0, c1, c2, c3], _ =>
  have f0 := hf 0 _ rfl
  have f1 := hf 1 _ rfl
  have f2 := hf 2 _ rfl
  have f3 := hf 3 _ rfl
  rw [List.getElem?_eq_getElem (by omega)] at f0 f1 f2 f3
  obtain ⟨a0, e0, _⟩ := E0 Try.underlying3 f0
  obtain ⟨a1, e1, _⟩ := B0r Try.underlying9 f1
  obtain ⟨v, l, e2, hv, _⟩ := B2a f2
  obtain ⟨a3, e3, _⟩ := E0 Try.underlying3 f3
  have e0 : [c0] = [.int .i64 a0] := e0
  have e1 : [c1] = [.string a1] := e1
  have e2 : [c2] = [v] := e2
  have e3 : [c3] = [.int .i64 a3] := e3
  cases e0; cases e1; cases e2; cases e3
  exact ⟨(⟨a0, a1, l, a3⟩, c2), rfl, hv⟩
end
end Go.Proofs.Ytlplkjgcfjdinaa
namespace Go.Proofs.Ytlplkjgcfjdinaa
open Go
structure RecV where
 th : Int
 op : Int
 st : Int
 tk : Int
 en : Int
 nw : Int
 an : AnsV
 deriving DecidableEq
def F9 (x : RecV) : List Value := [.int .i64 x.th, .int .i64 x.op, .int .i64 x.st, .int .i64 x.tk, .int .i64 x.en, .int .i64 x.nw, .int .i64 x.an.err, .int .i64 x.an.bk, .bool x.an.made, .int .i64 x.an.count]
def RecV.cs (x : RecV) : Array Value := #[.int .i64 x.th, .int .i64 x.op, .int .i64 x.st, .int .i64 x.tk, .int .i64 x.en, .int .i64 x.nw, .int .i64 x.an.err, .int .i64 x.an.bk, .bool x.an.made, .int .i64 x.an.count]
def RecV.val (x : RecV) : Value := .agg x.cs
def s6 : RecV := ⟨0, 0, 0, 0, 0, 0, ⟨0, 0, false, 0⟩⟩
def G1 (l : List RecV) (i : Nat) : Int := (l.getD i s6).tk
abbrev N5 := Value × List (OpV × Value)
def A11 (t : N5) : List Value := [t.1]
structure ThRd (w : World) (t : N5) : Prop where
 rd : E9 w t.1 t.2.length (t.2.flatMap A21)
 pool : ∀ o ∈ t.2, E9 w o.2 o.1.pool.length (o.1.pool.flatMap f9)
 len : t.2.length ≤ 9223372036854775807
theorem A5W {l : List RecV} {i : Nat} (h : i < l.length) : G1 l i = l[i].tk := by simp [G1, List.getD_eq_getElem?_getD, List.getElem?_eq_getElem h]
end Go.Proofs.Ytlplkjgcfjdinaa
namespace Go.Proofs.Ytlplkjgcfjdinaa
open Go Go.ChangeShapes Go.WideShapes Go.ChangeAt Go.RowKit
set_option maxRecDepth 10000
section
variable {H : Type} {enc : TypeId × Value → H} {w : World} {base : Nat} {spare : Nat → Bool} {held : Bool} {fuel : Nat} {cs : List Value} {x : DataW H × List MemPlace}
theorem A88 {P : Program} {t : TypeId} (ht : P.underlying t = some .bool) (h : DataW.trod enc P w base spare held fuel t cs = some x) : ∃ b : Bool, cs = [.bool b] := by
 obtain ⟨b, h1, h2⟩ := DataW.trod_bool ht h
 exact ⟨b, h1⟩
theorem B2L (h : DataW.trod enc PR w base spare held fuel 56 cs = some x) : ∃ a : AnsV, cs = [.int .i64 a.err, .int .i64 a.bk, .bool a.made, .int .i64 a.count] := by
 obtain ⟨xs, n, _, rfl, hl, hxl, hf⟩ := DataW.trod_struct A7f.und h
 have hl4 : cs.length = 4 := hl.trans (by kernel_rfl)
 have hx4 : xs.length = 4 := hxl.trans (by kernel_rfl)
 match cs, hl4 with
 | [c0, c1, c2, c3], _ =>
  have f0 := hf 0 _ rfl
  have f1 := hf 1 _ rfl
  have f2 := hf 2 _ rfl
  have f3 := hf 3 _ rfl
  rw [List.getElem?_eq_getElem (by omega)] at f0 f1 f2 f3
  obtain ⟨a0, e0, _⟩ := E0 Try.underlying44 f0
  obtain ⟨a1, e1, _⟩ := E0 Try.underlying3 f1
  obtain ⟨a2, e2⟩ := A88 Try.underlying4 f2
  obtain ⟨a3, e3, _⟩ := E0 Try.underlying3 f3
  have e0 : [c0] = [.int .i64 a0] := e0
  have e1 : [c1] = [.int .i64 a1] := e1
  have e2 : [c2] = [.bool a2] := e2
  have e3 : [c3] = [.int .i64 a3] := e3
  cases e0; cases e1; cases e2; cases e3
  exact ⟨⟨a0, a1, a2, a3⟩, rfl⟩
theorem B1Y (h : DataW.trod enc PR w base spare held fuel 63 cs = some x) : ∃ r : RecV, cs = F9 r ∧ True := by
 obtain ⟨xs, n, _, rfl, hl, hxl, hf⟩ := DataW.trod_struct A9Z.und h
 have hl4 : cs.length = 10 := hl.trans (by kernel_rfl)
 have hx4 : xs.length = 7 := hxl.trans (by kernel_rfl)
 match cs, hl4 with
 | [c0, c1, c2, c3, c4, c5, c6, c7, c8, c9], _ =>
  have f0 := hf 0 _ rfl
  have f1 := hf 1 _ rfl
  have f2 := hf 2 _ rfl
  have f3 := hf 3 _ rfl
  have f4 := hf 4 _ rfl
  have f5 := hf 5 _ rfl
  have f6 := hf 6 _ rfl
  rw [List.getElem?_eq_getElem (by omega)] at f0 f1 f2 f3 f4 f5 f6
  obtain ⟨a0, e0, _⟩ := E0 Try.underlying3 f0
  obtain ⟨a1, e1, _⟩ := E0 Try.underlying3 f1
  obtain ⟨a2, e2, _⟩ := E0 Try.underlying3 f2
  obtain ⟨a3, e3, _⟩ := E0 Try.underlying3 f3
  obtain ⟨a4, e4, _⟩ := E0 Try.underlying3 f4
  obtain ⟨a5, e5, _⟩ := E0 Try.underlying3 f5
  obtain ⟨a6, e6⟩ := B2L f6
  have e0 : [c0] = [.int .i64 a0] := e0
  have e1 : [c1] = [.int .i64 a1] := e1
  have e2 : [c2] = [.int .i64 a2] := e2
  have e3 : [c3] = [.int .i64 a3] := e3
  have e4 : [c4] = [.int .i64 a4] := e4
  have e5 : [c5] = [.int .i64 a5] := e5
  have g6 : [c6, c7, c8, c9] = [.int .i64 a6.err, .int .i64 a6.bk, .bool a6.made, .int .i64 a6.count] := e6
  cases e0; cases e1; cases e2; cases e3; cases e4; cases e5
  clear e6
  simp only [List.cons.injEq, and_true] at g6
  obtain ⟨rfl, rfl, rfl, rfl⟩ := g6
  exact ⟨⟨a0, a1, a2, a3, a4, a5, a6⟩, rfl, trivial⟩
theorem A6Y {r : Reach} {b0 : Nat} {v : Value} {d : DataW H} {ps : List MemPlace} (hval : Value.okWide PR w r b0 28 v) (hd : DataW.Trod enc PR w base spare held 28 v d ps) : ∃ l : List RecV, E9 w v l.length (l.flatMap F9) ∧ True ∧ l.length ≤ maxLen := by
 obtain ⟨l, h1, h2, h3⟩ := A9C (f := F9) (Q := fun l => (∀ a ∈ l, True) ∧ l.length ≤ maxLen) Try.underlying28 hval hd fun _ _ _ h => A3C (f := F9) (k := 10) (Q := fun _ => True) (fun _ => rfl) (by omega) Try.underlying28 (by kernel_rfl) h (fun n cs' y hy => B1Y hy)
 exact ⟨l, h1, trivial, h3⟩
theorem B1S (h : DataW.trod enc PR w base spare held fuel 54 cs = some x) : ∃ t : N5, cs = A11 t ∧ ThRd w t := by
 obtain ⟨v, l, h1, h2, h3, h4⟩ := A3C (f := A21) (k := 4) (Q := fun o => E9 w o.2 o.1.pool.length (o.1.pool.flatMap f9)) (fun _ => rfl) (by omega) Try.underlying54 (by kernel_rfl) h (fun n cs' y hy => B27 hy)
 exact ⟨(v, l), h1, h2, h3, h4⟩
structure ScrRd (w : World) (tv pv : Value) (ts : List N5) : Prop where
 rd : E9 w tv ts.length (ts.flatMap A11)
 thr : ∀ t ∈ ts, ThRd w t
 len : ts.length ≤ 9223372036854775807
 picks : ∃ a n c, pv = .slice a n c ∧ n ≤ 9223372036854775807
def B2M (c : CfgV) (tv pv : Value) : Value := .agg #[.int .i64 c.wk, .int .i64 c.sh, .int .i64 c.cp, .int .i64 c.idle, .int .i64 c.sl, tv, pv]
theorem A7T {r : Reach} {b0 : Nat} {v : Value} {d : DataW H} {ps : List MemPlace} (hval : Value.okWide PR w r b0 27 v) (hd : DataW.Trod enc PR w base spare held 27 v d ps) : ∃ s : CfgV × Value × Value × List N5, v = B2M s.1 s.2.1 s.2.2.1 ∧ ScrRd w s.2.1 s.2.2.1 s.2.2.2 := by
 obtain ⟨cs', e, _⟩ := okWide_struct A5U.und hval
 obtain ⟨fuel, hf0⟩ := hd
 obtain ⟨xs, n, _, _, hl, hxl, hf⟩ := DataW.trod_struct A5U.und hf0
 have e : v = .agg cs' := e
 subst e
 have ec : (Value.agg cs').cells.toList = cs'.toList := rfl
 rw [ec] at hl hf
 generalize hcs : cs'.toList = cs at *
 have hl4 : cs.length = 7 := hl.trans (by kernel_rfl)
 have hx4 : xs.length = 3 := hxl.trans (by kernel_rfl)
 match cs, hl4 with
 | [c0, c1, c2, c3, c4, c5, c6], _ =>
  have f0 := hf 0 _ rfl
  have f1 := hf 1 _ rfl
  have f2 := hf 2 _ rfl
  rw [List.getElem?_eq_getElem (by omega)] at f0 f1 f2
  obtain ⟨c, e0, _⟩ := B1T f0
  obtain ⟨tv, ts, e1, ht1, ht2, ht3⟩ := A3C (f := A11) (k := 1) (Q := ThRd w) (fun _ => rfl) (by omega) Try.underlying24 (by kernel_rfl) f1 (fun n cs' y hy => B1S hy)
  have g0 : [c0, c1, c2, c3, c4] = [.int .i64 c.wk, .int .i64 c.sh, .int .i64 c.cp, .int .i64 c.idle, .int .i64 c.sl] := e0
  have g1 : [c5] = [tv] := e1
  have hpk : ∃ a n k, c6 = .slice a n k ∧ n ≤ 9223372036854775807 := by
   rcases Go.Deep.open_slice Try.underlying25 f2 with ⟨h, _⟩ | ⟨a, len, cap, m, n, D, Pl, h, hb, hl, hm, hmm, _, hx⟩
   ·have h : [c6] = [Value.slice none 0 0] := h
    exact ⟨none, 0, 0, by injection h, by omega⟩
   ·have h : [c6] = [Value.slice (some a) len cap] := h
    exact ⟨_, _, _, by injection h, by simp only [maxLen] at *; omega⟩
  clear e0 e1
  simp only [List.cons.injEq, and_true] at g0 g1
  obtain ⟨rfl, rfl, rfl, rfl, rfl⟩ := g0
  subst g1
  refine ⟨(c, c5, c6, ts), ?_, ht1, ht2, by simp only [maxLen] at ht3; omega, hpk⟩
  have : cs' = #[.int .i64 c.wk, .int .i64 c.sh, .int .i64 c.cp, .int .i64 c.idle, .int .i64 c.sl, c5, c6] := by
   rw [← Array.toList_inj]; exact hcs
  rw [this]; rfl
end
end Go.Proofs.Ytlplkjgcfjdinaa
namespace Go.Proofs.Ytlplkjgcfjdinaa
open Go
def T8 (X : Nat → Prop) (t0 t1 t2 t3 : Value) (R : Value → WP) : WP :=
 B1 PR X (Instr.box 27 t0) fun t4 =>
 C6 PR X 5 [] fun t14 =>
 jn (n := 1) (fun t8 =>
 jn (n := 1) (fun t8_1 =>
 C6 PR X 9 [t1] fun t34 =>
 A0 PR (Instr.fieldAt 27 t4 0) fun t35 =>
 A6 PR (Instr.loadAt 23 t35) fun t36 =>
 B1 PR X (Instr.alloc 23 true (.tuple #[])) fun t11 =>
 C8 PR X (Instr.storeAt 23 t11 t36) <|
 A0 PR (Instr.fieldAt 23 t11 3) fun t37 =>
 C8 PR X (Instr.storeAt 3 t37 (.int .i64 (-2000000001))) <|
 C6 PR X 11 [t34] fun t39 =>
 B1 PR X (Instr.alloc 37 true (.tuple #[])) fun t12 =>
 C8 PR X (Instr.storeAt 37 t12 t39) <|
 A0 PR (Instr.makeFunc (.func 13) #[] #[t12]) fun t40 =>
 gj t14 true (fun J => A6 PR (Instr.loadAt 23 t11) J) fun t43 =>
 gj t14 true (fun J => A0 PR (Instr.fieldAt 27 t4 1) J) fun t44 =>
 gj t14 true (fun J => A6 PR (Instr.loadAt 24 t44) J) fun t45 =>
 gj t14 true (fun J => J t34) fun t46 =>
 gj t14 true (fun J => C6 PR X 10 [t43, t45, t46] J) fun t47 =>
 gj t14 true (fun J => A0 PR (A7 .len #[35] 0 [t47]) J) fun t48 =>
 gj t14 true (fun J => A0 PR (binOp .eql 3 t48 (.int .i64 0)) J) fun t49 =>
 A0 PR (do pure (if ← asBool t14 then t49 else (.bool false))) fun t50 =>
 gj t50 true (fun J => J t40) fun t52 =>
 gj t50 true (fun J => J t2) fun t53 =>
 gj t50 true (fun J => F3 PR X t52 [t53] J) fun t54 =>
 gj t50 true (fun J => J t54) fun t55 =>
 gj t55 true (fun J => J t40) fun t56 =>
 gj t55 true (fun J => J t3) fun t57 =>
 gj t55 true (fun J => F3 PR X t56 [t57] J) fun t58 =>
 gj t50 true (fun J => A0 PR (do pure (if ← asBool t55 then t58 else (.bool false))) J) fun t59 =>
 gj t50 true (fun J => J t59) fun t60 =>
 gj t60 false (fun J => A6 PR (Instr.loadAt 23 t11) J) fun t61 =>
 gj t60 false (fun J => A0 PR (Instr.fieldAt 27 t4 1) J) fun t62 =>
 gj t60 false (fun J => A6 PR (Instr.loadAt 24 t62) J) fun t63 =>
 gj t60 false (fun J => J t34) fun t64 =>
 gj t60 false (fun J => J t2) fun t65 =>
 gj t60 false (fun J => J t3) fun t66 =>
 gj t60 false (fun J => C6 PR X 12 [t61, t63, t64, t65, t66] J) fun t67 =>
 gj t60 false (fun J => A0 PR (Op.unary .not t67) J) fun t68 =>
 gj t50 true (fun J => A0 PR (do pure (if ← asBool t60 then (.bool true) else t68)) J) fun t69 =>
 A0 PR (do pure (if ← asBool t50 then t69 else (.bool false))) fun t70 =>
 R t70) fun J1 =>
 A6 PR (Instr.loadAt 27 t4) fun t17 =>
 C6 PR X 6 [t17] fun t18 =>
 A0 PR (Op.unary .not t18) fun t19 =>
 gj t19 false (fun J => J t1) fun t21 =>
 gj t19 false (fun J => C6 PR X 7 [t21] J) fun t22 =>
 gj t19 false (fun J => A0 PR (Op.unary .not t22) J) fun t23 =>
 A0 PR (do pure (if ← asBool t19 then (.bool true) else t23)) fun t24 =>
 gj t24 false (fun J => A0 PR (Instr.fieldAt 27 t4 0) J) fun t26 =>
 gj t24 false (fun J => A6 PR (Instr.loadAt 23 t26) J) fun t27 =>
 gj t24 false (fun J => J t1) fun t28 =>
 gj t24 false (fun J => C6 PR X 8 [t27, t28] J) fun t29 =>
 gj t24 false (fun J => A0 PR (Op.unary .not t29) J) fun t30 =>
 A0 PR (do pure (if ← asBool t24 then (.bool true) else t30)) fun t31 =>
 C9 t31 (
 R t14) (
 J1 t8)) fun J2 =>
 A0 PR (Op.unary .not t14) fun t16 =>
 C9 t16 (
 R (.bool false)) (
 J2 (.bool false))
theorem p5 {X : Nat → Prop} {t0 t1 t2 t3 : Value} {R : Value → WP} {w : World} (h : T8 X t0 t1 t2 t3 R w) : Fn PR X 4 #[t0, t1, t2, t3] w R := D3 (args := [t0, t1, t2, t3]) mixed Try.func4 (by kernel_rfl) h
def Y2 (X : Nat → Prop) (R : Value → WP) : WP :=
 A0 PR (Instr.build 23 #[(0, (.int .i64 1)), (1, (.int .i64 1)), (2, (.int .i64 1)), (3, (.int .i64 5)), (4, (.int .i64 2))]) fun t15 =>
 B1 PR X (Instr.alloc 23 true (.tuple #[])) fun t1 =>
 C8 PR X (Instr.storeAt 23 t1 t15) <|
 A0 PR (Instr.build 48 #[(0, (.int .i64 4)), (1, (.string (ByteArray.mk #[97, 98, 99, 100]))), (2, (.string (ByteArray.mk #[101, 102, 103, 104]))), (3, (.int .i64 1)), (4, (.int .i64 2)), (5, (.int .i64 17))]) fun t17 =>
 A0 PR (Instr.build 50 #[(0, t17)]) fun t18 =>
 C6 PR X 14 [t18] fun t19 =>
 A0 PR (Instr.extract t19 0) fun t20 =>
 A0 PR (Instr.extract t19 1) fun t21 =>
 A0 PR (Instr.build 53 #[(1, t20)]) fun t23 =>
 A0 PR (Instr.build 53 #[(1, t20)]) fun t25 =>
 B1 PR X (Instr.buildSlice 54 2 #[(0, t23), (1, t25)]) fun t26 =>
 B1 PR X (Instr.buildSlice 24 2 #[(0, (.slice none 0 0)), (1, t26)]) fun t27 =>
 A0 PR (Instr.build 56 #[(1, (.int .i64 7))]) fun t28 =>
 A0 PR (Instr.build 58 #[(0, (.int .i64 1)), (3, (.int .i64 1)), (4, (.int .i64 2)), (6, t28)]) fun t29 =>
 B1 PR X (Instr.alloc 58 true (.tuple #[])) fun t5 =>
 C8 PR X (Instr.storeAt 58 t5 t29) <|
 A0 PR (Instr.build 56 #[(1, (.int .i64 8))]) fun t30 =>
 A0 PR (Instr.build 58 #[(0, (.int .i64 1)), (1, (.int .i64 1)), (3, (.int .i64 3)), (4, (.int .i64 4)), (6, t30)]) fun t31 =>
 B1 PR X (Instr.alloc 58 true (.tuple #[])) fun t6 =>
 C8 PR X (Instr.storeAt 58 t6 t31) <|
 A6 PR (Instr.loadAt 58 t6) fun t32 =>
 B1 PR X (Instr.alloc 58 true (.tuple #[])) fun t7 =>
 C8 PR X (Instr.storeAt 58 t7 t32) <|
 A0 PR (Instr.fieldAt 58 t7 5) fun t33 =>
 C8 PR X (Instr.storeAt 3 t33 (.int .i64 6)) <|
 drw <|
 kt (n := 3) (fun t8 t9 t10 =>
 A0 PR (Instr.indexAt 24 t27 (.int .i64 1)) fun t51 =>
 A6 PR (Instr.loadAt 54 t51) fun t52 =>
 A0 PR (Instr.indexAt 54 t52 (.int .i64 0)) fun t53 =>
 A6 PR (Instr.loadAt 53 t53) fun t54 =>
 C6 PR X 15 [t54] fun t55 =>
 A0 PR (Instr.extract t55 0) fun t56 =>
 A0 PR (Instr.extract t55 1) fun t57 =>
 A0 PR (Instr.build 53 #[(0, (.int .i64 3)), (1, t20)]) fun t60 =>
 C6 PR X 15 [t60] fun t61 =>
 A0 PR (Instr.extract t61 0) fun t62 =>
 A0 PR (Instr.extract t61 1) fun t63 =>
 A0 PR (A7 .len #[35] 0 [t8]) fun t65 =>
 A0 PR (binOp .eql 3 t65 (.int .i64 1)) fun t66 =>
 gj t66 true (fun J => J t8) fun t68 =>
 gj t66 true (fun J => A0 PR (Instr.indexAt 35 t68 (.int .i64 0)) J) fun t69 =>
 gj t66 true (fun J => A6 PR (Instr.loadAt 39 t69) J) fun t70 =>
 gj t66 true (fun J => A0 PR (Instr.build 39 #[(0, (.int .i64 0)), (1, (.int .i64 1))]) J) fun t71 =>
 gj t66 true (fun J => A6 PR (Z1 .eql 39 (.tmp 70) (.tmp 71) t70 t71) J) fun t72 =>
 A0 PR (do pure (if ← asBool t66 then t72 else (.bool false))) fun t73 =>
 gj t73 true (fun J => J t9) fun t75 =>
 gj t73 true (fun J => A0 PR (A7 .len #[35] 0 [t75]) J) fun t76 =>
 gj t73 true (fun J => A0 PR (binOp .eql 3 t76 (.int .i64 0)) J) fun t77 =>
 A0 PR (do pure (if ← asBool t73 then t77 else (.bool false))) fun t78 =>
 gj t78 true (fun J => J t10) fun t80 =>
 gj t78 true (fun J => A0 PR (A7 .len #[35] 0 [t80]) J) fun t81 =>
 gj t78 true (fun J => A0 PR (binOp .eql 3 t81 (.int .i64 0)) J) fun t82 =>
 A0 PR (do pure (if ← asBool t78 then t82 else (.bool false))) fun t83 =>
 gj t83 true (fun J => J t56) fun t85 =>
 gj t83 true (fun J => A0 PR (A7 .len #[9] 0 [t85]) J) fun t86 =>
 gj t83 true (fun J => A0 PR (binOp .eql 3 t86 (.int .i64 38)) J) fun t87 =>
 A0 PR (do pure (if ← asBool t83 then t87 else (.bool false))) fun t88 =>
 gj t88 true (fun J => J t57) fun t90 =>
 A0 PR (do pure (if ← asBool t88 then t90 else (.bool false))) fun t91 =>
 gj t91 true (fun J => J t63) fun t93 =>
 gj t91 true (fun J => A0 PR (Op.unary .not t93) J) fun t94 =>
 A0 PR (do pure (if ← asBool t91 then t94 else (.bool false))) fun t95 =>
 gj t95 true (fun J => A6 PR (Instr.loadAt 23 t1) J) fun t97 =>
 gj t95 true (fun J => J t27) fun t98 =>
 gj t95 true (fun J => A6 PR (Instr.loadAt 58 t5) J) fun t99 =>
 gj t95 true (fun J => A6 PR (Instr.loadAt 58 t7) J) fun t100 =>
 gj t95 true (fun J => B1 PR X (Instr.buildSlice 33 2 #[(0, t99), (1, t100)]) J) fun t101 =>
 gj t95 true (fun J => C6 PR X 12 [t97, t98, t101, (.int .i64 0), (.int .i64 1)] J) fun t102 =>
 A0 PR (do pure (if ← asBool t95 then t102 else (.bool false))) fun t103 =>
 gj t103 true (fun J => A6 PR (Instr.loadAt 23 t1) J) fun t105 =>
 gj t103 true (fun J => J t27) fun t106 =>
 gj t103 true (fun J => A6 PR (Instr.loadAt 58 t5) J) fun t107 =>
 gj t103 true (fun J => A6 PR (Instr.loadAt 58 t6) J) fun t108 =>
 gj t103 true (fun J => B1 PR X (Instr.buildSlice 33 2 #[(0, t107), (1, t108)]) J) fun t109 =>
 gj t103 true (fun J => C6 PR X 12 [t105, t106, t109, (.int .i64 0), (.int .i64 1)] J) fun t110 =>
 gj t103 true (fun J => A0 PR (Op.unary .not t110) J) fun t111 =>
 A0 PR (do pure (if ← asBool t103 then t111 else (.bool false))) fun t112 =>
 R t112) fun C1 =>
 A6 PR (Instr.loadAt 23 t1) fun t34_1 =>
 A6 PR (Instr.loadAt 58 t5) fun t36_1 =>
 A6 PR (Instr.loadAt 58 t6) fun t37_1 =>
 A6 PR (Instr.loadAt 23 t1) fun t40_1 =>
 A6 PR (Instr.loadAt 58 t5) fun t42_1 =>
 A6 PR (Instr.loadAt 58 t7) fun t43_1 =>
 A6 PR (Instr.loadAt 23 t1) fun t46_1 =>
 both (B1 PR X (Instr.buildSlice 33 2 #[(0, t36_1), (1, t37_1)]) fun t38_2 =>
 watch PR [(none, (Instr.loadAt 23 t1), t46_1), (none, (Instr.loadAt 58 t7), t43_1), (none, (Instr.loadAt 58 t5), t42_1), (none, (Instr.loadAt 23 t1), t40_1), (none, (Instr.loadAt 23 t1), t34_1)] <|
 both (C6 PR X 10 [t34_1, t27, t38_2] fun t39_3 =>
 watch PR [(none, (Instr.loadAt 23 t1), t46_1), (none, (Instr.loadAt 58 t7), t43_1), (none, (Instr.loadAt 58 t5), t42_1), (none, (Instr.loadAt 23 t1), t40_1)] <|
 B1 PR X (Instr.buildSlice 33 2 #[(0, t42_1), (1, t43_1)]) fun t44_3 =>
 watch PR [(none, (Instr.loadAt 23 t1), t46_1), (none, (Instr.loadAt 23 t1), t40_1)] <|
 C6 PR X 10 [t40_1, t27, t44_3] fun t45_3 =>
 watch PR [(none, (Instr.loadAt 23 t1), t46_1)] <|
 C6 PR X 10 [t46_1, t27, (.slice none 0 0)] fun t48_3 =>
 C1 t39_3 t45_3 t48_3) (both (B1 PR X (Instr.buildSlice 33 2 #[(0, t42_1), (1, t43_1)]) fun t44_2 =>
 watch PR [(none, (Instr.loadAt 23 t1), t46_1), (none, (Instr.loadAt 23 t1), t40_1), (none, (Instr.loadAt 23 t1), t34_1)] <|
 C6 PR X 10 [t34_1, t27, t38_2] fun t39_2 =>
 watch PR [(none, (Instr.loadAt 23 t1), t46_1), (none, (Instr.loadAt 23 t1), t40_1)] <|
 C6 PR X 10 [t40_1, t27, t44_2] fun t45_2 =>
 watch PR [(none, (Instr.loadAt 23 t1), t46_1)] <|
 C6 PR X 10 [t46_1, t27, (.slice none 0 0)] fun t48_2 =>
 C1 t39_2 t45_2 t48_2) ((fun _ => True)))) (both (B1 PR X (Instr.buildSlice 33 2 #[(0, t42_1), (1, t43_1)]) fun t44_1 =>
 watch PR [(none, (Instr.loadAt 23 t1), t46_1), (none, (Instr.loadAt 23 t1), t40_1), (none, (Instr.loadAt 58 t6), t37_1), (none, (Instr.loadAt 58 t5), t36_1), (none, (Instr.loadAt 23 t1), t34_1)] <|
 B1 PR X (Instr.buildSlice 33 2 #[(0, t36_1), (1, t37_1)]) fun t38_1 =>
 watch PR [(none, (Instr.loadAt 23 t1), t46_1), (none, (Instr.loadAt 23 t1), t40_1), (none, (Instr.loadAt 23 t1), t34_1)] <|
 C6 PR X 10 [t34_1, t27, t38_1] fun t39_1 =>
 watch PR [(none, (Instr.loadAt 23 t1), t46_1), (none, (Instr.loadAt 23 t1), t40_1)] <|
 C6 PR X 10 [t40_1, t27, t44_1] fun t45_1 =>
 watch PR [(none, (Instr.loadAt 23 t1), t46_1)] <|
 C6 PR X 10 [t46_1, t27, (.slice none 0 0)] fun t48_1 =>
 C1 t39_1 t45_1 t48_1) ((fun _ => True)))
theorem y6 : B0 PR 5 := A9 Try.func5 (by kernel_rfl) rfl
theorem A0M {X : Nat → Prop} {R : Value → WP} {w : World} (h : Y2 X R w) : Fn PR X 5 #[] w R := D3 (args := []) mixed Try.func5 (by kernel_rfl) h
def Z7 (X : Nat → Prop) (t0 t1 : Value) (R : Value → WP) : WP :=
 B1 PR X (Instr.box 23 t0) fun t2 =>
 jn (n := 1) (fun t4 =>
 jn (n := 2) (fun t4_1 t5 =>
 R (.bool true)) fun J1 =>
 lp (n := 2) (fun L2 t4_2 t5_1 =>
 jn (n := 0) (
 jn (n := 1) (fun t4_3 =>
 A0 PR (binOp .add 3 t5_1 (.int .i64 1)) fun t19 =>
 L2 t4_3 t19) fun J3 =>
 A0 PR (Instr.indexAt 28 t1 t5_1) fun t22 =>
 A0 PR (Instr.fieldAt 63 t22 5) fun t23 =>
 A6 PR (Instr.loadAt 3 t23) fun t24 =>
 A0 PR (binOp .lss 3 t24 (.int .i64 (-1000000000))) fun t25 =>
 gj t25 false (fun J => J t1) fun t27 =>
 gj t25 false (fun J => J t5_1) fun t28 =>
 gj t25 false (fun J => A0 PR (Instr.indexAt 28 t27 t28) J) fun t29 =>
 gj t25 false (fun J => A0 PR (Instr.fieldAt 63 t29 5) J) fun t30 =>
 gj t25 false (fun J => A6 PR (Instr.loadAt 3 t30) J) fun t31 =>
 gj t25 false (fun J => A0 PR (binOp .gtr 3 t31 (.int .i64 1000000000)) J) fun t32 =>
 A0 PR (do pure (if ← asBool t25 then (.bool true) else t32)) fun t33 =>
 C9 t33 (
 R (.bool false)) (
 J3 t4_2)) fun J4 =>
 A0 PR (A7 .len #[28] 0 [t1]) fun t16 =>
 A0 PR (binOp .lss 3 t5_1 t16) fun t17 =>
 C9 t17 (
 J4) (
 J1 t4_2 t5_1)) t4 (.int .i64 0)) fun J5 =>
 A0 PR (Instr.fieldAt 23 t2 3) fun t6 =>
 A6 PR (Instr.loadAt 3 t6) fun t7 =>
 A0 PR (binOp .lss 3 t7 (.int .i64 (-1000000000))) fun t8 =>
 gj t8 false (fun J => A0 PR (Instr.fieldAt 23 t2 3) J) fun t10 =>
 gj t8 false (fun J => A6 PR (Instr.loadAt 3 t10) J) fun t11 =>
 gj t8 false (fun J => A0 PR (binOp .gtr 3 t11 (.int .i64 1000000000)) J) fun t12 =>
 A0 PR (do pure (if ← asBool t8 then (.bool true) else t12)) fun t13 =>
 C9 t13 (
 R (.bool false)) (
 J5 (.bool false))
theorem A0P : B0 PR 8 := A9 Try.func8 (by kernel_rfl) rfl
theorem A09 {X : Nat → Prop} {t0 t1 : Value} {R : Value → WP} {w : World} (h : Z7 X t0 t1 R w) : Fn PR X 8 #[t0, t1] w R := D3 (args := [t0, t1]) mixed Try.func8 (by kernel_rfl) h
def V7 (X : Nat → Prop) (t0 : Value) (R : Value → WP) : WP :=
 jn (n := 2) (fun t3 t4 =>
 R t3) fun J1 =>
 lp (n := 2) (fun L2 t3_1 t4_1 =>
 jn (n := 0) (
 jn (n := 1) (fun t3_2 =>
 A0 PR (binOp .add 3 t4_1 (.int .i64 1)) fun t10 =>
 L2 t3_2 t10) fun J3 =>
 A0 PR (Instr.indexAt 28 t0 t4_1) fun t14 =>
 A6 PR (Instr.loadAt 63 t14) fun t15 =>
 B1 PR X (Instr.buildSlice 33 1 #[(0, t15)]) fun t16 =>
 B1 PR X (A7 .append #[33, 33] 33 [t3_1, t16]) fun t17 =>
 J3 t17) fun J4 =>
 A0 PR (A7 .len #[28] 0 [t0]) fun t7 =>
 A0 PR (binOp .lss 3 t4_1 t7) fun t8 =>
 C9 t8 (
 J4) (
 J1 t3_1 t4_1)) (.slice none 0 0) (.int .i64 0)
theorem s5 : B0 PR 9 := A9 Try.func9 (by kernel_rfl) rfl
theorem u7 {X : Nat → Prop} {t0 : Value} {R : Value → WP} {w : World} (h : V7 X t0 R w) : Fn PR X 9 #[t0] w R := D3 (args := [t0]) mixed Try.func9 (by kernel_rfl) h
def P5 (X : Nat → Prop) (t0 t1 : Value) (R : Value → WP) : WP :=
 A0 PR (binOp .geq 3 t0 (.int .i64 0)) fun t5 =>
 gj t5 true (fun J => J t0) fun t7 =>
 gj t5 true (fun J => A6 PR (Instr.loadAt 37 t1) J) fun t8 =>
 gj t5 true (fun J => A0 PR (A7 .len #[37] 0 [t8]) J) fun t9 =>
 gj t5 true (fun J => A0 PR (binOp .lss 3 t7 t9) J) fun t10 =>
 A0 PR (do pure (if ← asBool t5 then t10 else (.bool false))) fun t11 =>
 R t11
theorem P2 : B0 PR 13 := A9 Try.func13 (by kernel_rfl) rfl
theorem k6 {X : Nat → Prop} {t0 t1 : Value} {R : Value → WP} {w : World} (h : P5 X t0 t1 R w) : Fn PR X 13 #[t0, t1] w R := D3 (args := [t0, t1]) mixed Try.func13 (by kernel_rfl) h
end Go.Proofs.Ytlplkjgcfjdinaa
namespace Go.Proofs.Ytlplkjgcfjdinaa
open Go
def A0e (X : Nat → Prop) (t0 t1 t2 : Value) (R : Value → WP) : WP :=
 B1 PR X (Instr.box 23 t0) fun t3 =>
 C6 PR X 18 [t1, t2] fun t12 =>
 B1 PR X (Instr.alloc 64 true (.tuple #[])) fun t7 =>
 C8 PR X (Instr.storeAt 64 t7 t12) <|
 B1 PR X (Instr.alloc 35 true (.tuple #[])) fun t8 =>
 jn (n := 0) (
 A6 PR (Instr.loadAt 35 t8) fun t47 =>
 y0 (R t47)) fun J1 =>
 A6 PR (Instr.loadAt 64 t7) fun t13 =>
 C6 PR X 19 [t13] fun t14 =>
 rng (N := 1) PR X (fun t15 K2 =>
 B1 PR (fun _ => False) (Instr.alloc 39 true (.tuple #[])) fun t9 =>
 C8 PR (fun _ => False) (Instr.storeAt 39 t9 t15) <|
 bgn <|
 drw <|
 A6 PR (Instr.loadAt 64 t7) fun t16 =>
 A0 PR (Instr.indexAt 39 t9 (.int .i64 0)) fun t17 =>
 A6 PR (Instr.loadAt 3 t17) fun t18 =>
 A0 PR (Instr.indexAt 64 t16 t18) fun t19 =>
 A0 PR (Instr.fieldAt 70 t19 0) fun t20 =>
 A0 PR (Instr.fieldAt 58 t20 6) fun t21 =>
 A0 PR (Instr.fieldAt 56 t21 1) fun t22 =>
 A6 PR (Instr.loadAt 3 t22) fun t23 =>
 A6 PR (Instr.loadAt 64 t7) fun t24 =>
 A0 PR (Instr.indexAt 39 t9 (.int .i64 1)) fun t25 =>
 A6 PR (Instr.loadAt 3 t25) fun t26 =>
 A0 PR (Instr.indexAt 64 t24 t26) fun t27 =>
 A0 PR (Instr.fieldAt 70 t27 0) fun t28 =>
 A0 PR (Instr.fieldAt 58 t28 6) fun t29 =>
 A0 PR (Instr.fieldAt 56 t29 1) fun t30 =>
 A6 PR (Instr.loadAt 3 t30) fun t31 =>
 A0 PR (binOp .neq 3 t23 t31) fun t32 =>
 gj t32 true (fun J => A6 PR (Instr.loadAt 23 t3) J) fun t34 =>
 gj t32 true (fun J => A6 PR (Instr.loadAt 64 t7) J) fun t35 =>
 gj t32 true (fun J => A0 PR (Instr.indexAt 39 t9 (.int .i64 0)) J) fun t36 =>
 gj t32 true (fun J => A6 PR (Instr.loadAt 3 t36) J) fun t37 =>
 gj t32 true (fun J => A0 PR (Instr.indexAt 39 t9 (.int .i64 1)) J) fun t38 =>
 gj t32 true (fun J => A6 PR (Instr.loadAt 3 t38) J) fun t39 =>
 gj t32 true (fun J => C6 PR (fun _ => False) 20 [t34, t35, t37, t39] J) fun t40 =>
 gj t32 true (fun J => A0 PR (Op.unary .not t40) J) fun t41 =>
 A0 PR (do pure (if ← asBool t32 then t41 else (.bool false))) fun t42 =>
 C9 t42 (
 A6 PR (Instr.loadAt 35 t8) fun t43 =>
 A6 PR (Instr.loadAt 39 t9) fun t44 =>
 B1 PR (fun _ => False) (Instr.buildSlice 35 1 #[(0, t44)]) fun t45 =>
 B1 PR (fun _ => False) (A7 .append #[35, 35] 35 [t43, t45]) fun t46 =>
 C8 PR (fun _ => False) (Instr.storeAt 35 t8 t46) <|
 K2 none) (
 K2 none)) t14 (fun j => match j with | none => (J1) | some (.exit i) => (match Nat.beq i 0 with | true => (J1) | false => (D9)) | some .ret => (y0 (R (.slice none 0 0))) | some _ => D9)
theorem D8 : B0 PR 10 := A9 Try.func10 (by kernel_rfl) rfl
theorem A4K {X : Nat → Prop} {t0 t1 t2 : Value} {R : Value → WP} {w : World} (h : A0e X t0 t1 t2 R w) : Fn PR X 10 #[t0, t1, t2] w R := D3 (args := [t0, t1, t2]) mixed Try.func10 (by kernel_rfl) h
def A0E (X : Nat → Prop) (t0 t1 t2 t3 t4 : Value) (R : Value → WP) : WP :=
 B1 PR X (Instr.box 23 t0) fun t5 =>
 drw <|
 A6 PR (Instr.loadAt 23 t5) fun t11 =>
 C6 PR X 18 [t1, t2] fun t14 =>
 watch PR [(none, (Instr.loadAt 23 t5), t11)] <|
 C6 PR X 20 [t11, t14, t3, t4] fun t17 =>
 R t17
theorem S2 : B0 PR 12 := A9 Try.func12 (by kernel_rfl) rfl
theorem A4B {X : Nat → Prop} {t0 t1 t2 t3 t4 : Value} {R : Value → WP} {w : World} (h : A0E X t0 t1 t2 t3 t4 R w) : Fn PR X 12 #[t0, t1, t2, t3, t4] w R := D3 (args := [t0, t1, t2, t3, t4]) mixed Try.func12 (by kernel_rfl) h
def A2r (X : Nat → Prop) (t0 : Value) (R : Value → WP) : WP :=
 B1 PR X (Instr.box 53 t0) fun t1 =>
 A6 PR (Instr.loadAt 53 t1) fun t7 =>
 C6 PR X 27 [t7] fun t8 =>
 A0 PR (Instr.extract t8 0) fun t9 =>
 A0 PR (Instr.extract t8 1) fun t10 =>
 B1 PR X (Instr.alloc 50 true (.tuple #[])) fun t4 =>
 C8 PR X (Instr.storeAt 50 t4 t9) <|
 jn (n := 2) (fun t2 t3 =>
 A0 PR (Instr.fieldAt 50 t4 0) fun t13 =>
 A6 PR (Instr.loadAt 48 t13) fun t14 =>
 C6 PR X 28 [t14] fun t15 =>
 A0 PR (Instr.extract t15 0) fun t16 =>
 A0 PR (Instr.extract t15 1) fun t17 =>
 R (.tuple #[t16, t17])) fun J1 =>
 A0 PR (Op.unary .not t10) fun t12 =>
 C9 t12 (
 R (.tuple #[(.string (ByteArray.mk #[])), (.bool false)])) (
 J1 (.string (ByteArray.mk #[])) (.bool false))
theorem r8 : B0 PR 15 := A9 Try.func15 (by kernel_rfl) rfl
theorem A7K {X : Nat → Prop} {t0 : Value} {R : Value → WP} {w : World} (h : A2r X t0 R w) : Fn PR X 15 #[t0] w R := D3 (args := [t0]) mixed Try.func15 (by kernel_rfl) h
def A2Z (X : Nat → Prop) (t0 t1 : Value) (R : Value → WP) : WP :=
 jn (n := 2) (fun t5 t13 =>
 R t5) fun J1 =>
 C6 PR X 11 [t1] fun t11 =>
 A0 PR (A7 .len #[37] 0 [t11]) fun t12 =>
 lp (n := 2) (fun L2 t5_1 t13_1 =>
 A0 PR (binOp .lss 3 t13_1 t12) fun t14 =>
 jn (n := 0) (
 jn (n := 1) (fun t5_2 =>
 A0 PR (binOp .add 3 t13_1 (.int .i64 1)) fun t71 =>
 L2 t5_2 t71) fun J3 =>
 A0 PR (Instr.indexAt 37 t11 t13_1) fun t15 =>
 A6 PR (Instr.loadAt 3 t15) fun t16 =>
 A0 PR (Instr.indexAt 33 t1 t16) fun t19 =>
 A6 PR (Instr.loadAt 58 t19) fun t20 =>
 B1 PR X (Instr.alloc 58 true (.tuple #[])) fun t8 =>
 C8 PR X (Instr.storeAt 58 t8 t20) <|
 A6 PR (Instr.loadAt 58 t8) fun t21 =>
 A0 PR (Instr.build 70 #[(0, t21)]) fun t22 =>
 B1 PR X (Instr.alloc 70 true (.tuple #[])) fun t9 =>
 C8 PR X (Instr.storeAt 70 t9 t22) <|
 jn (n := 0) (
 A6 PR (Instr.loadAt 70 t9) fun t68 =>
 B1 PR X (Instr.buildSlice 64 1 #[(0, t68)]) fun t69 =>
 B1 PR X (A7 .append #[64, 64] 64 [t5_1, t69]) fun t70 =>
 J3 t70) fun J4 =>
 drw <|
 A0 PR (Instr.fieldAt 58 t8 0) fun t23 =>
 A6 PR (Instr.loadAt 3 t23) fun t24 =>
 A0 PR (binOp .geq 3 t24 (.int .i64 0)) fun t25 =>
 gj t25 true (fun J => A0 PR (Instr.fieldAt 58 t8 0) J) fun t27 =>
 gj t25 true (fun J => A6 PR (Instr.loadAt 3 t27) J) fun t28 =>
 gj t25 true (fun J => J t0) fun t29 =>
 gj t25 true (fun J => A0 PR (A7 .len #[24] 0 [t29]) J) fun t30 =>
 gj t25 true (fun J => A0 PR (binOp .lss 3 t28 t30) J) fun t31 =>
 A0 PR (do pure (if ← asBool t25 then t31 else (.bool false))) fun t32 =>
 gj t32 true (fun J => A0 PR (Instr.fieldAt 58 t8 1) J) fun t34 =>
 gj t32 true (fun J => A6 PR (Instr.loadAt 3 t34) J) fun t35 =>
 gj t32 true (fun J => A0 PR (binOp .geq 3 t35 (.int .i64 0)) J) fun t36 =>
 A0 PR (do pure (if ← asBool t32 then t36 else (.bool false))) fun t37 =>
 gj t37 true (fun J => A0 PR (Instr.fieldAt 58 t8 1) J) fun t39 =>
 gj t37 true (fun J => A6 PR (Instr.loadAt 3 t39) J) fun t40 =>
 gj t37 true (fun J => J t0) fun t41 =>
 gj t37 true (fun J => A0 PR (Instr.fieldAt 58 t8 0) J) fun t42 =>
 gj t37 true (fun J => A6 PR (Instr.loadAt 3 t42) J) fun t43 =>
 gj t37 true (fun J => A0 PR (Instr.indexAt 24 t41 t43) J) fun t44 =>
 gj t37 true (fun J => A6 PR (Instr.loadAt 54 t44) J) fun t45 =>
 gj t37 true (fun J => A0 PR (A7 .len #[54] 0 [t45]) J) fun t46 =>
 gj t37 true (fun J => A0 PR (binOp .lss 3 t40 t46) J) fun t47 =>
 A0 PR (do pure (if ← asBool t37 then t47 else (.bool false))) fun t48 =>
 C9 t48 (
 drw <|
 A0 PR (Instr.fieldAt 58 t8 0) fun t50 =>
 A6 PR (Instr.loadAt 3 t50) fun t51 =>
 A0 PR (Instr.indexAt 24 t0 t51) fun t52 =>
 A6 PR (Instr.loadAt 54 t52) fun t53 =>
 A0 PR (Instr.fieldAt 58 t8 1) fun t54 =>
 A6 PR (Instr.loadAt 3 t54) fun t55 =>
 A0 PR (Instr.indexAt 54 t53 t55) fun t56 =>
 A6 PR (Instr.loadAt 53 t56) fun t57 =>
 A0 PR (Instr.fieldAt 70 t9 1) fun t58 =>
 C8 PR X (Instr.storeAt 53 t58 t57) <|
 A0 PR (Instr.fieldAt 70 t9 3) fun t59 =>
 C8 PR X (Instr.storeAt 4 t59 (.bool true)) <|
 A0 PR (Instr.fieldAt 70 t9 1) fun t61 =>
 A6 PR (Instr.loadAt 53 t61) fun t62 =>
 C6 PR X 15 [t62] fun t63 =>
 A0 PR (Instr.extract t63 0) fun t64 =>
 A0 PR (Instr.extract t63 1) fun t65 =>
 A0 PR (Instr.fieldAt 70 t9 2) fun t66 =>
 C8 PR X (Instr.storeAt 9 t66 t64) <|
 J4) (
 J4)) fun J5 =>
 C9 t14 (
 J5) (
 J1 t5_1 t13_1)) (.slice none 0 0) (.int .i64 0)
theorem A17 : B0 PR 18 := A9 Try.func18 (by kernel_rfl) rfl
theorem A6z {X : Nat → Prop} {t0 t1 : Value} {R : Value → WP} {w : World} (h : A2Z X t0 t1 R w) : Fn PR X 18 #[t0, t1] w R := D3 (args := [t0, t1]) mixed Try.func18 (by kernel_rfl) h
def A1Y (X : Nat → Prop) (t0 : Value) (R : Value → WP) : WP :=
 A0 PR (A7 .len #[64] 0 [t0]) fun t7 =>
 B1 PR X (Instr.makeSlice 37 t7 t7) fun t8 =>
 B1 PR X (Instr.alloc 37 true (.tuple #[])) fun t3 =>
 C8 PR X (Instr.storeAt 37 t3 t8) <|
 B1 PR X (Instr.makeMap 85 none) fun t9 =>
 jn (n := 1) (fun t5 =>
 A0 PR (Instr.makeFunc (.func 30) #[] #[t3]) fun t40 =>
 R t40) fun J1 =>
 A0 PR (A7 .len #[64] 0 [t0]) fun t11 =>
 A0 PR (binOp .sub 3 t11 (.int .i64 1)) fun t12 =>
 lp (n := 1) (fun L2 t5_1 =>
 jn (n := 0) (
 jn (n := 0) (
 A0 PR (binOp .sub 3 t5_1 (.int .i64 1)) fun t16 =>
 L2 t16) fun J3 =>
 jn (n := 0) (
 drw <|
 A6 PR (Instr.loadAt 37 t3) fun t23 =>
 A0 PR (Instr.indexAt 64 t0 t5_1) fun t28 =>
 A0 PR (Instr.fieldAt 70 t28 2) fun t29 =>
 A6 PR (Instr.loadAt 9 t29) fun t30 =>
 A6 PR (Instr.lookup 85 t9 t30 false) fun t31 =>
 A0 PR (Instr.indexAt 37 t23 t5_1) fun t32 =>
 C8 PR X (Instr.storeAt 3 t32 t31) <|
 A0 PR (Instr.indexAt 64 t0 t5_1) fun t36 =>
 A0 PR (Instr.fieldAt 70 t36 2) fun t37 =>
 A6 PR (Instr.loadAt 9 t37) fun t38 =>
 C8 PR X (Instr.mapUpdate 85 t9 t38 t5_1) <|
 J3) fun J4 =>
 A0 PR (Instr.indexAt 64 t0 t5_1) fun t19 =>
 A6 PR (Instr.loadAt 70 t19) fun t20 =>
 C6 PR X 29 [t20] fun t21 =>
 A0 PR (Op.unary .not t21) fun t22 =>
 C9 t22 (
 J3) (
 J4)) fun J5 =>
 A0 PR (binOp .geq 3 t5_1 (.int .i64 0)) fun t14 =>
 C9 t14 (
 J5) (
 J1 t5_1)) t12
theorem A4d : B0 PR 19 := A9 Try.func19 (by kernel_rfl) rfl
theorem A5g {X : Nat → Prop} {t0 : Value} {R : Value → WP} {w : World} (h : A1Y X t0 R w) : Fn PR X 19 #[t0] w R := D3 (args := [t0]) mixed Try.func19 (by kernel_rfl) h
def A0J (X : Nat → Prop) (t0 t1 t2 t3 : Value) (R : Value → WP) : WP :=
 B1 PR X (Instr.box 23 t0) fun t4 =>
 B1 PR X (Instr.box 64 t1) fun t5 =>
 B1 PR X (Instr.box 3 t2) fun t6 =>
 B1 PR X (Instr.box 3 t3) fun t7 =>
 jn (n := 1) (fun t8 =>
 A6 PR (Instr.loadAt 64 t5) fun t45 =>
 A6 PR (Instr.loadAt 3 t6) fun t46 =>
 A0 PR (Instr.indexAt 64 t45 t46) fun t47 =>
 A6 PR (Instr.loadAt 70 t47) fun t48 =>
 B1 PR X (Instr.alloc 70 true (.tuple #[])) fun t9 =>
 C8 PR X (Instr.storeAt 70 t9 t48) <|
 A0 PR (Instr.makeFunc (.func 31) #[] #[t6, t7, t5]) fun t49 =>
 drw <|
 A0 PR (Instr.makeFunc (.func 34) #[] #[t5, t7, t9, t4]) fun t50 =>
 A6 PR (Instr.loadAt 70 t9) fun t51 =>
 A0 PR (Instr.makeFunc (.func 35) #[t51] #[]) fun t52 =>
 A0 PR (Instr.makeFunc (.func 36) #[] #[t9]) fun t54 =>
 A0 PR (Instr.makeFunc (.func 37) #[] #[t9]) fun t57 =>
 F3 PR X t49 [t54] fun t55 =>
 watch PR [(none, (Instr.loadAt 70 t9), t51)] <|
 F3 PR X t49 [t57] fun t58 =>
 watch PR [(none, (Instr.loadAt 70 t9), t51)] <|
 B1 PR X (Instr.buildSlice 120 4 #[(0, t50), (1, t52), (2, t55), (3, t58)]) fun t59 =>
 C6 PR X 33 [t59] fun t60 =>
 R t60) fun J1 =>
 A6 PR (Instr.loadAt 3 t6) fun t11 =>
 A0 PR (binOp .lss 3 t11 (.int .i64 0)) fun t12 =>
 gj t12 false (fun J => A6 PR (Instr.loadAt 3 t7) J) fun t14 =>
 gj t12 false (fun J => A0 PR (binOp .lss 3 t14 (.int .i64 0)) J) fun t15 =>
 A0 PR (do pure (if ← asBool t12 then (.bool true) else t15)) fun t16 =>
 gj t16 false (fun J => A6 PR (Instr.loadAt 3 t6) J) fun t18 =>
 gj t16 false (fun J => A6 PR (Instr.loadAt 64 t5) J) fun t19 =>
 gj t16 false (fun J => A0 PR (A7 .len #[64] 0 [t19]) J) fun t20 =>
 gj t16 false (fun J => A0 PR (binOp .geq 3 t18 t20) J) fun t21 =>
 A0 PR (do pure (if ← asBool t16 then (.bool true) else t21)) fun t22 =>
 gj t22 false (fun J => A6 PR (Instr.loadAt 3 t7) J) fun t24 =>
 gj t22 false (fun J => A6 PR (Instr.loadAt 64 t5) J) fun t25 =>
 gj t22 false (fun J => A0 PR (A7 .len #[64] 0 [t25]) J) fun t26 =>
 gj t22 false (fun J => A0 PR (binOp .geq 3 t24 t26) J) fun t27 =>
 A0 PR (do pure (if ← asBool t22 then (.bool true) else t27)) fun t28 =>
 gj t28 false (fun J => A6 PR (Instr.loadAt 64 t5) J) fun t30 =>
 gj t28 false (fun J => A6 PR (Instr.loadAt 3 t6) J) fun t31 =>
 gj t28 false (fun J => A0 PR (Instr.indexAt 64 t30 t31) J) fun t32 =>
 gj t28 false (fun J => A0 PR (Instr.fieldAt 70 t32 3) J) fun t33 =>
 gj t28 false (fun J => A6 PR (Instr.loadAt 4 t33) J) fun t34 =>
 gj t28 false (fun J => A0 PR (Op.unary .not t34) J) fun t35 =>
 A0 PR (do pure (if ← asBool t28 then (.bool true) else t35)) fun t36 =>
 gj t36 false (fun J => A6 PR (Instr.loadAt 64 t5) J) fun t38 =>
 gj t36 false (fun J => A6 PR (Instr.loadAt 3 t7) J) fun t39 =>
 gj t36 false (fun J => A0 PR (Instr.indexAt 64 t38 t39) J) fun t40 =>
 gj t36 false (fun J => A0 PR (Instr.fieldAt 70 t40 3) J) fun t41 =>
 gj t36 false (fun J => A6 PR (Instr.loadAt 4 t41) J) fun t42 =>
 gj t36 false (fun J => A0 PR (Op.unary .not t42) J) fun t43 =>
 A0 PR (do pure (if ← asBool t36 then (.bool true) else t43)) fun t44 =>
 C9 t44 (
 R (.bool false)) (
 J1 (.bool false))
theorem s8 : B0 PR 20 := A9 Try.func20 (by kernel_rfl) rfl
theorem A3g {X : Nat → Prop} {t0 t1 t2 t3 : Value} {R : Value → WP} {w : World} (h : A0J X t0 t1 t2 t3 R w) : Fn PR X 20 #[t0, t1, t2, t3] w R := D3 (args := [t0, t1, t2, t3]) mixed Try.func20 (by kernel_rfl) h
def A0q (X : Nat → Prop) (t0 : Value) (R : Value → WP) : WP :=
 B1 PR X (Instr.box 53 t0) fun t1 =>
 B1 PR X (Instr.alloc 50 true (.tuple #[])) fun t2 =>
 jn (n := 1) (fun t3 =>
 A0 PR (Instr.fieldAt 53 t1 1) fun t11 =>
 A6 PR (Instr.loadAt 9 t11) fun t12 =>
 C6 PR X 49 [t12] fun t13 =>
 A0 PR (Instr.extract t13 0) fun t14 =>
 A0 PR (Instr.extract t13 1) fun t15 =>
 B1 PR X (Instr.alloc 50 true (.tuple #[])) fun t4 =>
 C8 PR X (Instr.storeAt 50 t4 t14) <|
 A6 PR (Instr.loadAt 50 t4) fun t16 =>
 A0 PR (binOp .eql 44 t15 (.int .i64 0)) fun t18 =>
 C8 PR X (Instr.storeAt 50 t2 t16) <|
 A6 PR (E7 [.c 50 t2, .v t18]) R) fun J1 =>
 A0 PR (Instr.fieldAt 53 t1 0) fun t6 =>
 A6 PR (Instr.loadAt 3 t6) fun t7 =>
 A0 PR (binOp .neq 3 t7 (.int .i64 0)) fun t8 =>
 C9 t8 (
 A0 PR (Instr.build 50 #[]) fun t9 =>
 C8 PR X (Instr.storeAt 50 t2 t9) <|
 A6 PR (E7 [.c 50 t2, .v (.bool false)]) R) (
 J1 (.bool false))
theorem A0G : B0 PR 27 := A9 Try.func27 (by kernel_rfl) rfl
theorem A4b {X : Nat → Prop} {t0 : Value} {R : Value → WP} {w : World} (h : A0q X t0 R w) : Fn PR X 27 #[t0] w R := D3 (args := [t0]) mixed Try.func27 (by kernel_rfl) h
def g4 (X : Nat → Prop) (t0 : Value) (R : Value → WP) : WP :=
 B1 PR X (Instr.box 70 t0) fun t1 =>
 A0 PR (Instr.fieldAt 70 t1 3) fun t3 =>
 A6 PR (Instr.loadAt 4 t3) fun t4 =>
 gj t4 true (fun J => A0 PR (Instr.fieldAt 70 t1 2) J) fun t6 =>
 gj t4 true (fun J => A6 PR (Instr.loadAt 9 t6) J) fun t7 =>
 gj t4 true (fun J => A0 PR (binOp .neq 9 t7 (.string (ByteArray.mk #[]))) J) fun t8 =>
 A0 PR (do pure (if ← asBool t4 then t8 else (.bool false))) fun t9 =>
 gj t9 true (fun J => A0 PR (Instr.fieldAt 70 t1 0) J) fun t11 =>
 gj t9 true (fun J => A0 PR (Instr.fieldAt 58 t11 0) J) fun t12 =>
 gj t9 true (fun J => A6 PR (Instr.loadAt 3 t12) J) fun t13 =>
 gj t9 true (fun J => A0 PR (binOp .neq 3 t13 (.int .i64 0)) J) fun t14 =>
 A0 PR (do pure (if ← asBool t9 then t14 else (.bool false))) fun t15 =>
 gj t15 true (fun J => A0 PR (Instr.fieldAt 70 t1 0) J) fun t17 =>
 gj t15 true (fun J => A0 PR (Instr.fieldAt 58 t17 4) J) fun t18 =>
 gj t15 true (fun J => A6 PR (Instr.loadAt 3 t18) J) fun t19 =>
 gj t15 true (fun J => A0 PR (binOp .geq 3 t19 (.int .i64 0)) J) fun t20 =>
 A0 PR (do pure (if ← asBool t15 then t20 else (.bool false))) fun t21 =>
 gj t21 true (fun J => A0 PR (Instr.fieldAt 70 t1 0) J) fun t23 =>
 gj t21 true (fun J => A0 PR (Instr.fieldAt 58 t23 6) J) fun t24 =>
 gj t21 true (fun J => A0 PR (Instr.fieldAt 56 t24 0) J) fun t25 =>
 gj t21 true (fun J => A6 PR (Instr.loadAt 44 t25) J) fun t26 =>
 gj t21 true (fun J => A0 PR (binOp .eql 44 t26 (.int .i64 0)) J) fun t27 =>
 A0 PR (do pure (if ← asBool t21 then t27 else (.bool false))) fun t28 =>
 R t28
theorem A1W : B0 PR 29 := A9 Try.func29 (by kernel_rfl) rfl
theorem A15 {X : Nat → Prop} {t0 : Value} {R : Value → WP} {w : World} (h : g4 X t0 R w) : Fn PR X 29 #[t0] w R := D3 (args := [t0]) mixed Try.func29 (by kernel_rfl) h
def u5 (X : Nat → Prop) (t0 t1 : Value) (R : Value → WP) : WP :=
 A6 PR (Instr.loadAt 37 t1) fun t5 =>
 A0 PR (A7 .len #[37] 0 [t5]) fun t6 =>
 lp (n := 1) (fun L1 t7 =>
 A0 PR (binOp .lss 3 t7 t6) fun t8 =>
 jn (n := 0) (
 jn (n := 0) (
 A0 PR (binOp .add 3 t7 (.int .i64 1)) fun t22 =>
 L1 t22) fun J2 =>
 A0 PR (Instr.indexAt 37 t5 t7) fun t10 =>
 A6 PR (Instr.loadAt 3 t10) fun t11 =>
 A0 PR (binOp .gtr 3 t11 (.int .i64 0)) fun t13 =>
 gj t13 true (fun J => J t0) fun t15 =>
 gj t13 true (fun J => J t7) fun t16 =>
 gj t13 true (fun J => J t11) fun t17 =>
 gj t13 true (fun J => A0 PR (Instr.build 39 #[(0, t16), (1, t17)]) J) fun t18 =>
 gj t13 true (fun J => F3 PR X t15 [t18] J) fun t19 =>
 gj t13 true (fun J => A0 PR (Op.unary .not t19) J) fun t20 =>
 A0 PR (do pure (if ← asBool t13 then t20 else (.bool false))) fun t21 =>
 C9 t21 (
 R (.tuple #[])) (
 J2)) fun J3 =>
 C9 t8 (
 J3) (
 R (.tuple #[]))) (.int .i64 0)
theorem A2f : B0 PR 30 := A9 Try.func30 (by kernel_rfl) rfl
theorem A3S {X : Nat → Prop} {t0 t1 : Value} {R : Value → WP} {w : World} (h : u5 X t0 t1 R w) : Fn PR X 30 #[t0, t1] w R := D3 (args := [t0, t1]) mixed Try.func30 (by kernel_rfl) h
theorem A3P {X : Nat → Prop} {t0 t1 : Value} {K : Value → WP} {w : World} (h : Fn PR X 30 #[t0, t1] w K) : A02 PR X 30 [t0, t1] K w := ⟨A2f, h⟩
def k9 (X : Nat → Prop) (t0 t1 t2 t3 : Value) (R : Value → WP) : WP :=
 B1 PR X (Instr.box 87 t0) fun t4 =>
 A0 PR (Instr.makeFunc (.func 32) #[] #[t1, t2, t3, t4]) fun t6 =>
 R t6
theorem j7 : B0 PR 31 := A9 Try.func31 (by kernel_rfl) rfl
theorem A2J {X : Nat → Prop} {t0 t1 t2 t3 : Value} {R : Value → WP} {w : World} (h : k9 X t0 t1 t2 t3 R w) : Fn PR X 31 #[t0, t1, t2, t3] w R := D3 (args := [t0, t1, t2, t3]) mixed Try.func31 (by kernel_rfl) h
def Z3 (X : Nat → Prop) (t0 t1 t2 t3 : Value) (R : Value → WP) : WP :=
 jn (n := 2) (fun t4 t5 =>
 R (.bool false)) fun J1 =>
 A6 PR (Instr.loadAt 3 t0) fun t6 =>
 A0 PR (binOp .add 3 t6 (.int .i64 1)) fun t7 =>
 lp (n := 2) (fun L2 t4_1 t5_1 =>
 jn (n := 0) (
 jn (n := 1) (fun t4_2 =>
 A0 PR (binOp .add 3 t5_1 (.int .i64 1)) fun t12 =>
 L2 t4_2 t12) fun J3 =>
 drw <|
 A6 PR (Instr.loadAt 64 t2) fun t13 =>
 A0 PR (Instr.indexAt 64 t13 t5_1) fun t15 =>
 A0 PR (Instr.fieldAt 70 t15 3) fun t16 =>
 A6 PR (Instr.loadAt 4 t16) fun t17 =>
 gj t17 true (fun J => A6 PR (Instr.loadAt 87 t3) J) fun t19 =>
 gj t17 true (fun J => A6 PR (Instr.loadAt 64 t2) J) fun t20 =>
 gj t17 true (fun J => J t5_1) fun t21 =>
 gj t17 true (fun J => A0 PR (Instr.indexAt 64 t20 t21) J) fun t22 =>
 gj t17 true (fun J => A6 PR (Instr.loadAt 70 t22) J) fun t23 =>
 gj t17 true (fun J => F3 PR X t19 [t23] J) fun t24 =>
 A0 PR (do pure (if ← asBool t17 then t24 else (.bool false))) fun t25 =>
 C9 t25 (
 R (.bool true)) (
 J3 t4_1)) fun J4 =>
 A6 PR (Instr.loadAt 3 t1) fun t9 =>
 A0 PR (binOp .lss 3 t5_1 t9) fun t10 =>
 C9 t10 (
 J4) (
 J1 t4_1 t5_1)) (.bool false) t7
theorem Y5 : B0 PR 32 := A9 Try.func32 (by kernel_rfl) rfl
theorem A07 {X : Nat → Prop} {t0 t1 t2 t3 : Value} {R : Value → WP} {w : World} (h : Z3 X t0 t1 t2 t3 R w) : Fn PR X 32 #[t0, t1, t2, t3] w R := D3 (args := [t0, t1, t2, t3]) mixed Try.func32 (by kernel_rfl) h
def A2Q (X : Nat → Prop) (t0 : Value) (R : Value → WP) : WP :=
 jn (n := 2) (fun t2 t7 =>
 R (.bool false)) fun J1 =>
 A0 PR (A7 .len #[120] 0 [t0]) fun t6 =>
 lp (n := 2) (fun L2 t2_1 t7_1 =>
 A0 PR (binOp .lss 3 t7_1 t6) fun t8 =>
 jn (n := 0) (
 jn (n := 1) (fun t2_2 =>
 A0 PR (binOp .add 3 t7_1 (.int .i64 1)) fun t13 =>
 L2 t2_2 t13) fun J3 =>
 A0 PR (Instr.indexAt 120 t0 t7_1) fun t9 =>
 A6 PR (Instr.loadAt 29 t9) fun t10 =>
 F3 PR X t10 [] fun t12 =>
 C9 t12 (
 R (.bool true)) (
 J3 t2_1)) fun J4 =>
 C9 t8 (
 J4) (
 J1 t2_1 t7_1)) (.bool false) (.int .i64 0)
theorem A6G : B0 PR 33 := A9 Try.func33 (by kernel_rfl) rfl
theorem A6l {X : Nat → Prop} {t0 : Value} {R : Value → WP} {w : World} (h : A2Q X t0 R w) : Fn PR X 33 #[t0] w R := D3 (args := [t0]) mixed Try.func33 (by kernel_rfl) h
def l0 (X : Nat → Prop) (t0 t1 t2 t3 : Value) (R : Value → WP) : WP :=
 drw <|
 A6 PR (Instr.loadAt 64 t0) fun t5 =>
 A6 PR (Instr.loadAt 3 t1) fun t6 =>
 A0 PR (Instr.indexAt 64 t5 t6) fun t7 =>
 A0 PR (Instr.fieldAt 70 t7 0) fun t8 =>
 A0 PR (Instr.fieldAt 58 t8 5) fun t9 =>
 A6 PR (Instr.loadAt 3 t9) fun t10 =>
 A0 PR (Instr.fieldAt 70 t2 0) fun t11 =>
 A0 PR (Instr.fieldAt 58 t11 5) fun t12 =>
 A6 PR (Instr.loadAt 3 t12) fun t13 =>
 A0 PR (Instr.fieldAt 23 t3 3) fun t14 =>
 A6 PR (Instr.loadAt 3 t14) fun t15 =>
 A0 PR (binOp .add 3 t13 t15) fun t16 =>
 A0 PR (binOp .gtr 3 t10 t16) fun t17 =>
 R t17
theorem A10 : B0 PR 34 := A9 Try.func34 (by kernel_rfl) rfl
theorem A2N {X : Nat → Prop} {t0 t1 t2 t3 : Value} {R : Value → WP} {w : World} (h : l0 X t0 t1 t2 t3 R w) : Fn PR X 34 #[t0, t1, t2, t3] w R := D3 (args := [t0, t1, t2, t3]) mixed Try.func34 (by kernel_rfl) h
def f8 (X : Nat → Prop) (t0 : Value) (R : Value → WP) : WP :=
 B1 PR X (Instr.box 70 t0) fun t1 =>
 A0 PR (Instr.fieldAt 70 t1 1) fun t6 =>
 A6 PR (Instr.loadAt 53 t6) fun t7 =>
 C6 PR X 27 [t7] fun t8 =>
 A0 PR (Instr.extract t8 0) fun t9 =>
 A0 PR (Instr.extract t8 1) fun t10 =>
 B1 PR X (Instr.alloc 50 true (.tuple #[])) fun t3 =>
 C8 PR X (Instr.storeAt 50 t3 t9) <|
 gj t10 true (fun J => A6 PR (Instr.loadAt 50 t3) J) fun t13 =>
 gj t10 true (fun J => C6 PR X 51 [t13] J) fun t14 =>
 A0 PR (do pure (if ← asBool t10 then t14 else (.bool false))) fun t15 =>
 R t15
theorem Z6 : B0 PR 35 := A9 Try.func35 (by kernel_rfl) rfl
theorem A1Z {X : Nat → Prop} {t0 : Value} {R : Value → WP} {w : World} (h : f8 X t0 R w) : Fn PR X 35 #[t0] w R := D3 (args := [t0]) mixed Try.func35 (by kernel_rfl) h
def l5 (X : Nat → Prop) (t0 t1 : Value) (R : Value → WP) : WP :=
 B1 PR X (Instr.box 70 t0) fun t2 =>
 A0 PR (Instr.fieldAt 70 t2 2) fun t4 =>
 A6 PR (Instr.loadAt 9 t4) fun t5 =>
 A0 PR (binOp .neq 9 t5 (.string (ByteArray.mk #[]))) fun t6 =>
 gj t6 true (fun J => A0 PR (Instr.fieldAt 70 t2 2) J) fun t8 =>
 gj t6 true (fun J => A6 PR (Instr.loadAt 9 t8) J) fun t9 =>
 gj t6 true (fun J => A0 PR (Instr.fieldAt 70 t1 2) J) fun t10 =>
 gj t6 true (fun J => A6 PR (Instr.loadAt 9 t10) J) fun t11 =>
 gj t6 true (fun J => A0 PR (binOp .eql 9 t9 t11) J) fun t12 =>
 A0 PR (do pure (if ← asBool t6 then t12 else (.bool false))) fun t13 =>
 gj t13 true (fun J => A0 PR (Instr.fieldAt 70 t2 0) J) fun t15 =>
 gj t13 true (fun J => A0 PR (Instr.fieldAt 58 t15 4) J) fun t16 =>
 gj t13 true (fun J => A6 PR (Instr.loadAt 3 t16) J) fun t17 =>
 gj t13 true (fun J => A0 PR (binOp .lss 3 t17 (.int .i64 0)) J) fun t18 =>
 gj t13 true (fun J => J t18) fun t19 =>
 gj t19 false (fun J => A6 PR (Instr.loadAt 70 t2) J) fun t20 =>
 gj t19 false (fun J => C6 PR X 35 [t20] J) fun t21 =>
 gj t13 true (fun J => A0 PR (do pure (if ← asBool t19 then (.bool true) else t21)) J) fun t22 =>
 A0 PR (do pure (if ← asBool t13 then t22 else (.bool false))) fun t23 =>
 R t23
theorem A1c : B0 PR 36 := A9 Try.func36 (by kernel_rfl) rfl
theorem A2L {X : Nat → Prop} {t0 t1 : Value} {R : Value → WP} {w : World} (h : l5 X t0 t1 R w) : Fn PR X 36 #[t0, t1] w R := D3 (args := [t0, t1]) mixed Try.func36 (by kernel_rfl) h
def l4 (X : Nat → Prop) (t0 t1 : Value) (R : Value → WP) : WP :=
 B1 PR X (Instr.box 70 t0) fun t2 =>
 A0 PR (Instr.fieldAt 70 t2 1) fun t4 =>
 A0 PR (Instr.fieldAt 53 t4 0) fun t5 =>
 A6 PR (Instr.loadAt 3 t5) fun t6 =>
 A0 PR (binOp .eql 3 t6 (.int .i64 1)) fun t7 =>
 gj t7 true (fun J => A0 PR (Instr.fieldAt 70 t2 0) J) fun t9 =>
 gj t7 true (fun J => A0 PR (Instr.fieldAt 58 t9 0) J) fun t10 =>
 gj t7 true (fun J => A6 PR (Instr.loadAt 3 t10) J) fun t11 =>
 gj t7 true (fun J => A0 PR (binOp .eql 3 t11 (.int .i64 0)) J) fun t12 =>
 A0 PR (do pure (if ← asBool t7 then t12 else (.bool false))) fun t13 =>
 gj t13 true (fun J => A0 PR (Instr.fieldAt 70 t2 0) J) fun t15 =>
 gj t13 true (fun J => A0 PR (Instr.fieldAt 58 t15 6) J) fun t16 =>
 gj t13 true (fun J => A0 PR (Instr.fieldAt 56 t16 0) J) fun t17 =>
 gj t13 true (fun J => A6 PR (Instr.loadAt 44 t17) J) fun t18 =>
 gj t13 true (fun J => A0 PR (binOp .eql 44 t18 (.int .i64 0)) J) fun t19 =>
 A0 PR (do pure (if ← asBool t13 then t19 else (.bool false))) fun t20 =>
 gj t20 true (fun J => A0 PR (Instr.fieldAt 70 t2 1) J) fun t22 =>
 gj t20 true (fun J => A0 PR (Instr.fieldAt 53 t22 2) J) fun t23 =>
 gj t20 true (fun J => A6 PR (Instr.loadAt 51 t23) J) fun t24 =>
 gj t20 true (fun J => A0 PR (Instr.fieldAt 70 t1 0) J) fun t25 =>
 gj t20 true (fun J => A0 PR (Instr.fieldAt 58 t25 6) J) fun t26 =>
 gj t20 true (fun J => A0 PR (Instr.fieldAt 56 t26 1) J) fun t27 =>
 gj t20 true (fun J => A6 PR (Instr.loadAt 3 t27) J) fun t28 =>
 gj t20 true (fun J => C6 PR X 38 [t24, t28] J) fun t29 =>
 gj t20 true (fun J => A0 PR (binOp .lss 3 t29 (.int .i64 0)) J) fun t30 =>
 A0 PR (do pure (if ← asBool t20 then t30 else (.bool false))) fun t31 =>
 R t31
theorem A12 : B0 PR 37 := A9 Try.func37 (by kernel_rfl) rfl
theorem A2M {X : Nat → Prop} {t0 t1 : Value} {R : Value → WP} {w : World} (h : l4 X t0 t1 R w) : Fn PR X 37 #[t0, t1] w R := D3 (args := [t0, t1]) mixed Try.func37 (by kernel_rfl) h
end Go.Proofs.Ytlplkjgcfjdinaa
namespace Go.Proofs.Ytlplkjgcfjdinaa
open Go
def r9 (ts : List N5) (x : RecV) : Bool := decide (0 ≤ x.th) && decide (x.th < ts.length) && (decide (0 ≤ x.op) && decide (x.op < ((ts.getD x.th.toNat (.nilIface, [])).2.length)))
def A7G (ts : List N5) (x : RecV) : OpV × Value := (ts.getD x.th.toNat (.nilIface, [])).2.getD x.op.toNat (⟨0, ⟨#[]⟩, [], 0⟩, .nilIface)
theorem B0j {ts : List N5} {x : RecV} (h : x.th < 0) : r9 ts x = false := by
 unfold r9; rw [decide_eq_false (by omega)]; rfl
theorem B0w {ts : List N5} {x : RecV} (h : (ts.length : Int) ≤ x.th) : r9 ts x = false := by
 unfold r9; rw [decide_eq_false (show ¬ x.th < ts.length by omega), Bool.and_false, Bool.false_and]
theorem A8j {ts : List N5} {x : RecV} {n : Nat} {t : N5} (hn : x.th = n) (ht : ts[n]? = some t) : r9 ts x = (decide (0 ≤ x.op) && decide (x.op < (t.2.length : Nat))) := by
 have hl := (List.getElem?_eq_some_iff.1 ht).1
 unfold r9
 rw [decide_eq_true (show 0 ≤ x.th by omega), decide_eq_true (show x.th < ts.length by omega), hn, Int.toNat_natCast, List.getD_eq_getElem?_getD, ht]; rfl
theorem A7l {ts : List N5} {x : RecV} (h : r9 ts x = true) : ∃ (n k : Nat) (t : N5) (o : OpV × Value), x.th = n ∧ x.op = k ∧ ts[n]? = some t ∧ t.2[k]? = some o ∧ A7G ts x = o := by
 have h0 : 0 ≤ x.th ∧ x.th < ts.length := by
  by_cases h1 : x.th < 0
  ·rw [B0j h1] at h; cases h
  by_cases h2 : (ts.length : Int) ≤ x.th
  ·rw [B0w h2] at h; cases h
  omega
 obtain ⟨n, hn⟩ : ∃ n : Nat, x.th = n := ⟨x.th.toNat, by omega⟩
 have hl : n < ts.length := by omega
 have ht := List.getElem?_eq_getElem hl
 rw [A8j hn ht] at h
 simp only [Bool.and_eq_true, decide_eq_true_eq] at h
 obtain ⟨k, hk⟩ : ∃ k : Nat, x.op = k := ⟨x.op.toNat, by omega⟩
 have hkl : k < ts[n].2.length := by omega
 have ho := List.getElem?_eq_getElem hkl
 refine ⟨n, k, ts[n], ts[n].2[k], hn, hk, ht, ho, ?_⟩
 unfold A7G
 rw [hn, hk, Int.toNat_natCast, Int.toNat_natCast, List.getD_eq_getElem?_getD, List.getD_eq_getElem?_getD, ht]
 simp only [Option.getD_some]
 rw [ho]; rfl
end Go.Proofs.Ytlplkjgcfjdinaa
namespace Go.Proofs.Ytlplkjgcfjdinaa
open Go
def y4 (X : Nat → Prop) (t0 : Value) (R : Value → WP) : WP :=
 B1 PR X (Instr.box 33 t0) fun t1 =>
 jn (n := 2) (fun t3 t8 =>
 A0 PR (Instr.makeFunc (.func 22) #[] #[t1]) fun t22 =>
 C6 PR X 21 [t3, t22] fun t23 =>
 R t3) fun J1 =>
 A6 PR (Instr.loadAt 33 t1) fun t6 =>
 A0 PR (A7 .len #[33] 0 [t6]) fun t7 =>
 lp (n := 2) (fun L2 t3_1 t8_1 =>
 A0 PR (binOp .lss 3 t8_1 t7) fun t9 =>
 jn (n := 0) (
 jn (n := 1) (fun t3_2 =>
 A0 PR (binOp .add 3 t8_1 (.int .i64 1)) fun t20 =>
 L2 t3_2 t20) fun J3 =>
 A0 PR (Instr.indexAt 33 t6 t8_1) fun t11 =>
 A6 PR (Instr.loadAt 58 t11) fun t12 =>
 B1 PR X (Instr.alloc 58 true (.tuple #[])) fun t5 =>
 C8 PR X (Instr.storeAt 58 t5 t12) <|
 A0 PR (Instr.fieldAt 58 t5 3) fun t13 =>
 A6 PR (Instr.loadAt 3 t13) fun t14 =>
 A0 PR (binOp .geq 3 t14 (.int .i64 0)) fun t15 =>
 C9 t15 (
 B1 PR X (Instr.buildSlice 37 1 #[(0, t8_1)]) fun t18 =>
 B1 PR X (A7 .append #[37, 37] 37 [t3_1, t18]) fun t19 =>
 J3 t19) (
 J3 t3_1)) fun J4 =>
 C9 t9 (
 J4) (
 J1 t3_1 t8_1)) (.slice none 0 0) (.int .i64 0)
theorem u0 : B0 PR 11 := A9 Try.func11 (by kernel_rfl) rfl
theorem A3u {X : Nat → Prop} {t0 : Value} {R : Value → WP} {w : World} (h : y4 X t0 R w) : Fn PR X 11 #[t0] w R := D3 (args := [t0]) mixed Try.func11 (by kernel_rfl) h
def k8 (X : Nat → Prop) (t0 t1 t2 : Value) (R : Value → WP) : WP :=
 drw <|
 A6 PR (Instr.loadAt 33 t2) fun t6 =>
 A0 PR (Instr.indexAt 33 t6 t0) fun t8 =>
 A0 PR (Instr.fieldAt 58 t8 3) fun t9 =>
 A6 PR (Instr.loadAt 3 t9) fun t10 =>
 A6 PR (Instr.loadAt 33 t2) fun t11 =>
 A0 PR (Instr.indexAt 33 t11 t1) fun t13 =>
 A0 PR (Instr.fieldAt 58 t13 3) fun t14 =>
 A6 PR (Instr.loadAt 3 t14) fun t15 =>
 C6 PR X 23 [t10, t15] fun t16 =>
 R t16
theorem N1 : B0 PR 22 := A9 Try.func22 (by kernel_rfl) rfl
theorem A2K {X : Nat → Prop} {t0 t1 t2 : Value} {R : Value → WP} {w : World} (h : k8 X t0 t1 t2 R w) : Fn PR X 22 #[t0, t1, t2] w R := D3 (args := [t0, t1, t2]) mixed Try.func22 (by kernel_rfl) h
end Go.Proofs.Ytlplkjgcfjdinaa
namespace Go.Proofs.Ytlplkjgcfjdinaa
open Go
def A0Z (l : List Nat) (i j : Nat) : List Nat := (l.set i (l.getD j 0)).set j (l.getD i 0)
theorem A2s (l : List Nat) (i j : Nat) : (A0Z l i j).length = l.length := by simp [A0Z]
theorem A7C (l : List Nat) (i j x : Nat) (hi : i < l.length) : (l.set i x).getD j 0 = if j = i then x else l.getD j 0 := by
 simp only [List.getD_eq_getElem?_getD, List.getElem?_set]
 by_cases h : i = j
 ·subst h; simp [hi]
 ·rw [if_neg h, if_neg (Ne.symm h)]
theorem A2Y (l : List Nat) (i j t : Nat) (hi : i < l.length) (hj : j < l.length) : (A0Z l i j).getD t 0 = if t = j then l.getD i 0 else if t = i then l.getD j 0 else l.getD t 0 := by
 unfold A0Z
 rw [A7C _ _ _ _ (by simpa using hj), A7C _ _ _ _ hi]
theorem A33 {l l' : List Nat} (h : l.length = l'.length) (he : ∀ t, t < l.length → l.getD t 0 = l'.getD t 0) : l = l' := by
 apply List.ext_getElem h
 intro t h1 h2
 have := he t h1
 simpa [List.getD_eq_getElem?_getD, List.getElem?_eq_getElem h1, List.getElem?_eq_getElem h2] using this
def T1 (s m e t : Nat) : Nat := if t < s then t else if t < s + (e - m) then m + (t - s) else if t < e then t - (e - m) else t
def G2 (l : List Nat) (s m e : Nat) : List Nat := l.take s ++ ((l.drop m).take (e - m) ++ ((l.drop s).take (m - s) ++ l.drop e))
theorem U4 {l : List Nat} {s m e : Nat} (h1 : s ≤ m) (h2 : m ≤ e) (h3 : e ≤ l.length) : (G2 l s m e).length = l.length := by simp [G2]; omega
theorem l6 (a b : List Nat) (t : Nat) : (a ++ b).getD t 0 = if t < a.length then a.getD t 0 else b.getD (t - a.length) 0 := by
 simp only [List.getD_eq_getElem?_getD, List.getElem?_append]; split <;> rfl
theorem d9 (l : List Nat) (n t : Nat) (h : t < n) : (l.take n).getD t 0 = l.getD t 0 := by
 simp only [List.getD_eq_getElem?_getD, List.getElem?_take_of_lt h]
theorem e7 (l : List Nat) (n t : Nat) : (l.drop n).getD t 0 = l.getD (n + t) 0 := by
 simp only [List.getD_eq_getElem?_getD, List.getElem?_drop]
theorem K6 {l : List Nat} {s m e : Nat} (h1 : s ≤ m) (h2 : m ≤ e) (h3 : e ≤ l.length) (t : Nat) : (G2 l s m e).getD t 0 = l.getD (T1 s m e t) 0 := by
 have a1 : (l.take s).length = s := by simp; omega
 have a2 : ((l.drop m).take (e - m)).length = e - m := by simp; omega
 have a3 : ((l.drop s).take (m - s)).length = m - s := by simp; omega
 unfold G2 T1
 rw [l6, a1]
 by_cases c1 : t < s
 ·rw [if_pos c1, if_pos c1, d9 _ _ _ c1]
 rw [if_neg c1, if_neg c1, l6, a2]
 by_cases c2 : t < s + (e - m)
 ·rw [if_pos (by omega), if_pos c2, d9 _ _ _ (by omega), e7]
 rw [if_neg (by omega), if_neg c2, l6, a3]
 by_cases c3 : t < e
 ·rw [if_pos (by omega), if_pos c3, d9 _ _ _ (by omega), e7]; congr 1; omega
 rw [if_neg (by omega), if_neg c3, e7]; congr 1; omega
theorem B0c {l : List Nat} {s m e : Nat} (h1 : s ≤ m) (h2 : m ≤ e) (h3 : e ≤ l.length) : (G2 l s m e).Perm l := by
 have e1 : l = l.take s ++ ((l.drop s).take (m - s) ++ ((l.drop m).take (e - m) ++ l.drop e)) := by
  apply A33
  ·simp; omega
  ·intro t ht
   rw [l6, l6, l6]
   have a1 : (l.take s).length = s := by simp; omega
   have a2 : ((l.drop m).take (e - m)).length = e - m := by simp; omega
   have a3 : ((l.drop s).take (m - s)).length = m - s := by simp; omega
   rw [a1, a2, a3]
   by_cases c1 : t < s
   ·rw [if_pos c1, d9 _ _ _ c1]
   rw [if_neg c1]
   by_cases c2 : t - s < m - s
   ·rw [if_pos c2, d9 _ _ _ c2, e7]; congr 1; omega
   rw [if_neg c2]
   by_cases c3 : t - s - (m - s) < e - m
   ·rw [if_pos c3, d9 _ _ _ c3, e7]; congr 1; omega
   rw [if_neg c3, e7]; congr 1; omega
 conv => rhs; rw [e1]
 unfold G2
 refine List.Perm.append_left _ ?_
 rw [← List.append_assoc, ← List.append_assoc]
 exact List.Perm.append_right _ List.perm_append_comm
def S5 (l : List Nat) (x y : Nat) : Nat → List Nat
 | 0 => l
 | n + 1 => A0Z (S5 l x y n) (x + n) (y + n)
def swI (x y n t : Nat) : Nat := if x ≤ t ∧ t < x + n then y + (t - x) else if y ≤ t ∧ t < y + n then x + (t - y) else t
theorem W2 (l : List Nat) (x y n : Nat) : (S5 l x y n).length = l.length := by
 induction n with
 | zero => rfl
 | succ n ih => rw [S5, A2s, ih]
theorem A2W {l : List Nat} {x y n : Nat} (h1 : x + n ≤ y) (h2 : y + n ≤ l.length) (t : Nat) : (S5 l x y n).getD t 0 = l.getD (swI x y n t) 0 := by
 induction n generalizing t with
 | zero =>
  have e : swI x y 0 t = t := by unfold swI; rw [if_neg (by omega), if_neg (by omega)]
  rw [e]; rfl
 | succ n ih =>
  have hl := W2 l x y n
  rw [S5, A2Y _ _ _ _ (by omega) (by omega), ih (by omega) (by omega), ih (by omega) (by omega), ih (by omega) (by omega)]
  by_cases c1 : t = y + n
  ·rw [if_pos c1]; congr 1; unfold swI; repeat' split
   all_goals omega
  rw [if_neg c1]
  by_cases c2 : t = x + n
  ·rw [if_pos c2]; congr 1; unfold swI; repeat' split
   all_goals omega
  rw [if_neg c2]; congr 1; unfold swI; repeat' split
  all_goals omega
theorem B3w {l : List Nat} {m i j : Nat} (hi : i ≤ m) (h : j < i) (hl : m + j ≤ l.length) : G2 (S5 l (m - i) m j) (m - i + j) m (m + j) = G2 l (m - i) m (m + j) := by
 have e := W2 l (m - i) m j
 apply A33
 ·rw [U4 (by omega) (by omega) (by omega), U4 (by omega) (by omega) (by omega), e]
 intro t ht
 rw [K6 (by omega) (by omega) (by omega), K6 (by omega) (by omega) (by omega), A2W (by omega) (by omega)]
 congr 1; unfold T1 swI; repeat' split
 all_goals omega
theorem B3p {l : List Nat} {m i j : Nat} (hi : i ≤ m) (h : i < j) (hl : m + j ≤ l.length) : G2 (S5 l (m - i) (m + j - i) i) (m - i) m (m + j - i) = G2 l (m - i) m (m + j) := by
 have e := W2 l (m - i) (m + j - i) i
 apply A33
 ·rw [U4 (by omega) (by omega) (by omega), U4 (by omega) (by omega) (by omega), e]
 intro t ht
 rw [K6 (by omega) (by omega) (by omega), K6 (by omega) (by omega) (by omega), A2W (by omega) (by omega)]
 congr 1; unfold T1 swI; repeat' split
 all_goals omega
theorem B4U {l : List Nat} {m i : Nat} (hi : i ≤ m) (hl : m + i ≤ l.length) : S5 l (m - i) m i = G2 l (m - i) m (m + i) := by
 apply A33
 ·rw [W2, U4 (by omega) (by omega) (by omega)]
 intro t ht
 rw [K6 (by omega) (by omega) (by omega), A2W (by omega) (by omega)]
 congr 1; unfold T1 swI; repeat' split
 all_goals omega
def V1 (key : Nat → Int) (x y : Nat) : Prop := key x < key y ∨ key x = key y ∧ x < y
theorem V1.trans {key : Nat → Int} {x y z : Nat} (h : V1 key x y) (h' : V1 key y z) : V1 key x z := by unfold V1 at *; omega
def E6 (key : Nat → Int) (l : List Nat) (a b : Nat) : Prop := ∀ i j, a ≤ i → i < j → j < b → V1 key (l.getD i 0) (l.getD j 0)
def St (key : Nat → Int) (l : List Nat) (a m b : Nat) : Prop := ∀ i j, a ≤ i → i < m → m ≤ j → j < b → key (l.getD i 0) = key (l.getD j 0) → l.getD i 0 < l.getD j 0
structure Mix (l : List Nat) (a b : Nat) (l' : List Nat) : Prop where
 len : l'.length = l.length
 out : ∀ i, i < a ∨ b ≤ i → l'.getD i 0 = l.getD i 0
 ins : ∀ i, a ≤ i → i < b → ∃ j, a ≤ j ∧ j < b ∧ l'.getD i 0 = l.getD j 0
 perm : l'.Perm l
theorem Mix.refl (l : List Nat) (a b : Nat) : Mix l a b l := ⟨rfl, fun _ _ => rfl, fun i h1 h2 => ⟨i, h1, h2, rfl⟩, List.Perm.refl _⟩
theorem Mix.trans {l l1 l2 : List Nat} {a b : Nat} (h : Mix l a b l1) (h' : Mix l1 a b l2) : Mix l a b l2 :=
 ⟨h'.len.trans h.len, fun i hi => (h'.out i hi).trans (h.out i hi), fun i h1 h2 => by
  obtain ⟨j, j1, j2, e⟩ := h'.ins i h1 h2
  obtain ⟨k, k1, k2, e'⟩ := h.ins j j1 j2
  exact ⟨k, k1, k2, e.trans e'⟩, h'.perm.trans h.perm⟩
theorem Mix.wide {l l' : List Nat} {a b a' b' : Nat} (h : Mix l a b l') (h1 : a' ≤ a) (h2 : b ≤ b') : Mix l a' b' l' :=
 ⟨h.len, fun i hi => h.out i (by omega), fun i i1 i2 => by
  by_cases c : a ≤ i ∧ i < b
  ·obtain ⟨j, j1, j2, e⟩ := h.ins i c.1 c.2
   exact ⟨j, by omega, by omega, e⟩
  ·exact ⟨i, i1, i2, h.out i (by omega)⟩, h.perm⟩
theorem A8l {s m e i : Nat} (h1 : s ≤ m) (h2 : m ≤ e) (i1 : s ≤ i) (i2 : i < e) : s ≤ T1 s m e i ∧ T1 s m e i < e := by
 unfold T1; repeat' split
 all_goals omega
theorem A7a {s m e i : Nat} (h1 : s ≤ m) (h2 : m ≤ e) (h : i < s ∨ e ≤ i) : T1 s m e i = i := by
 unfold T1; repeat' split
 all_goals omega
theorem A5j {l : List Nat} {s m e : Nat} (h1 : s ≤ m) (h2 : m ≤ e) (h3 : e ≤ l.length) : Mix l s e (G2 l s m e) :=
 ⟨U4 h1 h2 h3, fun i hi => by rw [K6 h1 h2 h3, A7a h1 h2 hi], fun i i1 i2 => ⟨_, (A8l h1 h2 i1 i2).1, (A8l h1 h2 i1 i2).2, K6 h1 h2 h3 i⟩, B0c h1 h2 h3⟩
structure Halves (key : Nat → Int) (l : List Nat) (a s mid e b : Nat) : Prop where
 s1 : E6 key l a s
 s2 : E6 key l s mid
 st1 : St key l a s mid
 s3 : E6 key l mid e
 s4 : E6 key l e b
 st2 : St key l mid e b
 cross : ∀ i j, a ≤ i → i < mid → mid ≤ j → j < b → V1 key (l.getD i 0) (l.getD j 0)
theorem A7A {s m e t : Nat} (h : t < s) : T1 s m e t = t := by unfold T1; rw [if_pos h]
theorem A7D {s m e t : Nat} (h : s ≤ t) (h' : t < s + (e - m)) : T1 s m e t = m + (t - s) := by unfold T1; rw [if_neg (by omega), if_pos h']
theorem A5e {s m e t : Nat} (h1 : s ≤ m) (h : s + (e - m) ≤ t) (h' : t < e) : T1 s m e t = t - (e - m) := by unfold T1; rw [if_neg (by omega), if_neg (by omega), if_pos h']
theorem A5l {s m e t : Nat} (h1 : s ≤ m) (h2 : m ≤ e) (h : e ≤ t) : T1 s m e t = t := A7a h1 h2 (Or.inr h)
theorem B31 {key : Nat → Int} {l : List Nat} {a s m e b : Nat} (ha : a ≤ s) (h1 : s ≤ m) (h2 : m ≤ e) (hb : e ≤ b) (hl : b ≤ l.length) (hS1 : E6 key l a m) (hS2 : E6 key l m b) (hSt : St key l a m b)
  (hL : ∀ i j, a ≤ i → i < s → e ≤ j → j < b → V1 key (l.getD i 0) (l.getD j 0)) (hR : ∀ i j, s ≤ i → i < m → m ≤ j → j < e → V1 key (l.getD j 0) (l.getD i 0)) :
  Halves key (G2 l s m e) a s (s + (e - m)) e b := by
 have g := fun t => K6 (l := l) h1 h2 (by omega) t
 refine ⟨fun i j i1 i2 i3 => ?_, fun i j i1 i2 i3 => ?_, fun i j i1 i2 i3 i4 => ?_, fun i j i1 i2 i3 => ?_, fun i j i1 i2 i3 => ?_, fun i j i1 i2 i3 i4 => ?_, fun i j i1 i2 i3 i4 => ?_⟩
 ·rw [g, g, A7A (by omega), A7A (by omega)]; exact hS1 i j i1 i2 (by omega)
 ·rw [g, g, A7D (by omega) (by omega), A7D (by omega) (by omega)]; exact hS2 _ _ (by omega) (by omega) (by omega)
 ·rw [g, g, A7A (by omega), A7D (by omega) (by omega)]; exact hSt _ _ i1 (by omega) (by omega) (by omega)
 ·rw [g, g, A5e h1 (by omega) (by omega), A5e h1 (by omega) (by omega)]; exact hS1 _ _ (by omega) (by omega) (by omega)
 ·rw [g, g, A5l h1 h2 (by omega), A5l h1 h2 (by omega)]; exact hS2 _ _ (by omega) (by omega) (by omega)
 ·rw [g, g, A5e h1 (by omega) (by omega), A5l h1 h2 (by omega)]; exact hSt _ _ (by omega) (by omega) (by omega) (by omega)
 ·rw [g, g]
  by_cases c1 : i < s
  ·rw [A7A c1]
   by_cases c2 : j < e
   ·rw [A5e h1 (by omega) c2]; exact hS1 _ _ i1 (by omega) (by omega)
   ·rw [A5l h1 h2 (by omega)]; exact hL _ _ i1 c1 (by omega) i4
  ·rw [A7D (by omega) (by omega)]
   by_cases c2 : j < e
   ·rw [A5e h1 (by omega) c2]; exact hR _ _ (by omega) (by omega) (by omega) (by omega)
   ·rw [A5l h1 h2 (by omega)]; exact hS2 _ _ (by omega) (by omega) (by omega)
theorem A4y {key : Nat → Int} {l : List Nat} {a m b i j : Nat} (hSt : St key l a m b) (i1 : a ≤ i) (i2 : i < m) (j1 : m ≤ j) (j2 : j < b) : (key (l.getD j 0) < key (l.getD i 0) → V1 key (l.getD j 0) (l.getD i 0)) ∧ (¬ key (l.getD j 0) < key (l.getD i 0) → V1 key (l.getD i 0) (l.getD j 0)) := by
 have h := hSt i j i1 i2 j1 j2
 refine ⟨fun h => Or.inl h, fun hn => ?_⟩
 by_cases c : key (l.getD i 0) = key (l.getD j 0)
 ·exact Or.inr ⟨c, h c⟩
 ·exact Or.inl (by omega)
theorem E6.le {key : Nat → Int} {l : List Nat} {a b i j x : Nat} (h : E6 key l a b) (i1 : a ≤ i) (i2 : i ≤ j) (i3 : j < b) (hx : V1 key (l.getD j 0) x) : V1 key (l.getD i 0) x := by
 by_cases c : i = j
 ·subst c; exact hx
 ·exact (h i j i1 (by omega) i3).trans hx
theorem E6.ge {key : Nat → Int} {l : List Nat} {a b i j x : Nat} (h : E6 key l a b) (i1 : a ≤ i) (i2 : i ≤ j) (i3 : j < b) (hx : V1 key x (l.getD i 0)) : V1 key x (l.getD j 0) := by
 by_cases c : i = j
 ·subst c; exact hx
 ·exact hx.trans (h i j i1 (by omega) i3)
theorem A2j {key : Nat → Int} {l : List Nat} {a s m e b : Nat} (ha : a ≤ s) (h1 : s ≤ m) (h2 : m ≤ e) (hb : e ≤ b) (hl : b ≤ l.length) (hS1 : E6 key l a m) (hS2 : E6 key l m b) (hSt : St key l a m b)
  (hL : a < s → e < b → ¬ key (l.getD e 0) < key (l.getD (s - 1) 0)) (hR : s < m → m < e → key (l.getD (e - 1) 0) < key (l.getD s 0)) : Halves key (G2 l s m e) a s (s + (e - m)) e b := by
 refine B31 ha h1 h2 hb hl hS1 hS2 hSt (fun i j i1 i2 i3 i4 => ?_) (fun i j i1 i2 i3 i4 => ?_)
 ·have := (A4y hSt (i := s - 1) (j := e) (by omega) (by omega) h2 (by omega)).2 (hL (by omega) (by omega))
  exact hS1.le i1 (by omega) (by omega) (hS2.ge h2 i3 i4 this)
 ·have := (A4y hSt (i := s) (j := e - 1) (by omega) (by omega) (by omega) (by omega)).1 (hR (by omega) (by omega))
  exact hS2.le i3 (by omega) (by omega) (hS1.ge (by omega) i1 i2 this)
theorem B1G {key : Nat → Int} {l l1 l2 : List Nat} {a s mid e b : Nat} (h : Halves key l a s mid e b) (hm : a ≤ mid) (hb : mid ≤ b) (m1 : Mix l a mid l1) (g1 : E6 key l1 a mid) (m2 : Mix l1 mid b l2) (g2 : E6 key l2 mid b) : E6 key l2 a b ∧ Mix l a b l2 := by
 refine ⟨fun i j i1 i2 i3 => ?_, (m1.wide (by omega) hb).trans (m2.wide hm (by omega))⟩
 by_cases c1 : j < mid
 ·rw [m2.out i (by omega), m2.out j (by omega)]; exact g1 i j i1 i2 c1
 by_cases c2 : mid ≤ i
 ·exact g2 i j c2 i2 i3
 ·rw [m2.out i (by omega)]
  obtain ⟨i', p1, p2, e1⟩ := m1.ins i i1 (by omega)
  obtain ⟨j', q1, q2, e2⟩ := m2.ins j (by omega) i3
  rw [e1, e2, m1.out j' (by omega)]
  exact h.cross i' j' p1 p2 q1 q2
theorem E6.same {key : Nat → Int} {l l' : List Nat} {a b : Nat} (h : E6 key l a b) (he : ∀ i, a ≤ i → i < b → l'.getD i 0 = l.getD i 0) : E6 key l' a b := fun i j i1 i2 i3 => by
 rw [he i i1 (by omega), he j (by omega) i3]; exact h i j i1 i2 i3
theorem St.same {key : Nat → Int} {l l' : List Nat} {a m b : Nat} (h : St key l a m b) (he : ∀ i, a ≤ i → i < b → l'.getD i 0 = l.getD i 0) (hm : a ≤ m) (hb : m ≤ b) : St key l' a m b := fun i j i1 i2 i3 i4 => by
 rw [he i i1 (by omega), he j (by omega) i4]; exact h i j i1 i2 i3 i4
theorem A4p {key : Nat → Int} {l : List Nat} {a s m e b : Nat} (ha : a ≤ s) (h1 : s ≤ m) (h2 : m ≤ e) (hb : e ≤ b) (h : Halves key (G2 l s m e) a s (s + (e - m)) e b)
  (hA : ∀ i j, a ≤ i → i < s → s ≤ j → j < s + (e - m) → V1 key ((G2 l s m e).getD i 0) ((G2 l s m e).getD j 0)) (hB : ∀ i j, s + (e - m) ≤ i → i < e → e ≤ j → j < b → V1 key ((G2 l s m e).getD i 0) ((G2 l s m e).getD j 0)) : E6 key (G2 l s m e) a b := fun i j i1 i2 i3 => by
 by_cases c1 : j < s
 ·exact h.s1 i j i1 i2 c1
 by_cases c2 : j < s + (e - m)
 ·by_cases c3 : i < s
  ·exact hA i j i1 c3 (by omega) c2
  ·exact h.s2 i j (by omega) i2 c2
 by_cases c3 : i < s + (e - m)
 ·exact h.cross i j i1 c3 (by omega) i3
 by_cases c4 : j < e
 ·exact h.s3 i j (by omega) i2 c4
 by_cases c5 : i < e
 ·exact hB i j (by omega) c5 (by omega) i3
 ·exact h.s4 i j (by omega) i2 i3
def upL (l : List Nat) (a : Nat) : Nat → List Nat
 | 0 => l
 | n + 1 => A0Z (upL l a n) (a + n) (a + n + 1)
theorem A5C (l : List Nat) (a n : Nat) : (upL l a n).length = l.length := by
 induction n with
 | zero => rfl
 | succ n ih => rw [upL, A2s, ih]
theorem B20 {l : List Nat} {a n : Nat} (h : a + n < l.length) (t : Nat) : (upL l a n).getD t 0 = l.getD (if a ≤ t ∧ t < a + n then t + 1 else if t = a + n then a else t) 0 := by
 induction n generalizing t with
 | zero =>
  have e : (if a ≤ t ∧ t < a + 0 then t + 1 else if t = a + 0 then a else t) = t := by
   repeat' split
   all_goals omega
  rw [e]; rfl
 | succ n ih =>
  have hl := A5C l a n
  rw [upL, A2Y _ _ _ _ (by omega) (by omega), ih (by omega), ih (by omega), ih (by omega)]
  by_cases c1 : t = a + n + 1
  ·rw [if_pos c1]; congr 1; repeat' split
   all_goals omega
  rw [if_neg c1]
  by_cases c2 : t = a + n
  ·rw [if_pos c2]; congr 1; repeat' split
   all_goals omega
  rw [if_neg c2]; congr 1; repeat' split
  all_goals omega
theorem B2r {l : List Nat} {a n : Nat} (h : a + n < l.length) : upL l a n = G2 l a (a + 1) (a + n + 1) := by
 apply A33
 ·rw [A5C, U4 (by omega) (by omega) (by omega)]
 intro t ht
 rw [B20 h, K6 (by omega) (by omega) (by omega)]
 congr 1; unfold T1; repeat' split
 all_goals omega
def H0 (l : List Nat) (m : Nat) : Nat → List Nat
 | 0 => l
 | n + 1 => A0Z (H0 l m n) (m - n) (m - n - 1)
theorem A0s (l : List Nat) (m n : Nat) : (H0 l m n).length = l.length := by
 induction n with
 | zero => rfl
 | succ n ih => rw [H0, A2s, ih]
theorem A29 {l : List Nat} {m n : Nat} (h : m < l.length) (hn : n ≤ m) (t : Nat) : (H0 l m n).getD t 0 = l.getD (if t = m - n then m else if m - n < t ∧ t ≤ m then t - 1 else t) 0 := by
 induction n generalizing t with
 | zero =>
  have e : (if t = m - 0 then m else if m - 0 < t ∧ t ≤ m then t - 1 else t) = t := by
   repeat' split
   all_goals omega
  rw [e]; rfl
 | succ n ih =>
  have hl := A0s l m n
  rw [H0, A2Y _ _ _ _ (by omega) (by omega), ih (by omega), ih (by omega), ih (by omega)]
  by_cases c1 : t = m - n - 1
  ·rw [if_pos c1]; congr 1; repeat' split
   all_goals omega
  rw [if_neg c1]
  by_cases c2 : t = m - n
  ·rw [if_pos c2]; congr 1; repeat' split
   all_goals omega
  rw [if_neg c2]; congr 1; repeat' split
  all_goals omega
theorem A5y {l : List Nat} {m n : Nat} (h : m < l.length) (hn : n ≤ m) : H0 l m n = G2 l (m - n) m (m + 1) := by
 apply A33
 ·rw [A0s, U4 (by omega) (by omega) (by omega)]
 intro t ht
 rw [A29 h hn, K6 (by omega) (by omega) (by omega)]
 congr 1; unfold T1; repeat' split
 all_goals omega
theorem A5p {key : Nat → Int} {l : List Nat} {a s m : Nat} (ha : a ≤ s) (h1 : s ≤ m) (hl : m < l.length) (hS : E6 key l a m) (hSt : St key l a m (m + 1)) (hL : a < s → ¬ key (l.getD m 0) < key (l.getD (s - 1) 0)) (hR : s < m → key (l.getD m 0) < key (l.getD s 0)) :
  E6 key (G2 l s m (m + 1)) a (m + 1) ∧ Mix l a (m + 1) (G2 l s m (m + 1)) := by
 have hS2 : E6 key l m (m + 1) := fun i j _ _ _ => by omega
 have hh := A2j ha h1 (show m ≤ m + 1 by omega) (Nat.le_refl _) (by omega) hS hS2 hSt (fun _ h => by omega) (fun h _ => hR h)
 have g := fun t => K6 (l := l) h1 (show m ≤ m + 1 by omega) (by omega) t
 refine ⟨A4p ha h1 (by omega) (Nat.le_refl _) hh (fun i j i1 i2 i3 i4 => ?_) (fun i j _ _ _ _ => by omega), (A5j h1 (by omega) (by omega)).wide ha (Nat.le_refl _)⟩
 rw [g, g, A7A (by omega), A7D (by omega) (by omega), show m + (j - s) = m by omega]
 have := (A4y hSt (i := s - 1) (j := m) (by omega) (by omega) (Nat.le_refl _) (by omega)).2 (hL (by omega))
 exact hS.le i1 (by omega) (by omega) this
theorem B1j {key : Nat → Int} {l : List Nat} {a e b : Nat} (h2 : a + 1 ≤ e) (hb : e ≤ b) (hl : b ≤ l.length) (hS : E6 key l (a + 1) b) (hSt : St key l a (a + 1) b) (hL : e < b → ¬ key (l.getD e 0) < key (l.getD a 0)) (hR : a + 1 < e → key (l.getD (e - 1) 0) < key (l.getD a 0)) :
  E6 key (G2 l a (a + 1) e) a b ∧ Mix l a b (G2 l a (a + 1) e) := by
 have hS1 : E6 key l a (a + 1) := fun i j _ _ _ => by omega
 have hh := A2j (Nat.le_refl a) (show a ≤ a + 1 by omega) h2 hb hl hS1 hS hSt (fun h => by omega) (fun _ h => hR h)
 have g := fun t => K6 (l := l) (show a ≤ a + 1 by omega) h2 (by omega) t
 refine ⟨A4p (Nat.le_refl a) (by omega) h2 hb hh (fun i j _ _ _ _ => by omega) (fun i j i1 i2 i3 i4 => ?_), (A5j (by omega) h2 (by omega)).wide (Nat.le_refl a) hb⟩
 rw [g, g, A5e (by omega) i1 i2, A5l (by omega) h2 i3, show i - (e - (a + 1)) = a by omega]
 have := (A4y hSt (i := a) (j := e) (Nat.le_refl _) (by omega) (by omega) (by omega)).2 (hL (by omega))
 exact hS.ge (by omega) i3 i4 this
def Inc (l : List Nat) (a b : Nat) : Prop := ∀ i j, a ≤ i → i < j → j < b → l.getD i 0 < l.getD j 0
theorem Inc.st {key : Nat → Int} {l l' : List Nat} {a i b : Nat} (h : Inc l a b) (hm : Mix l a i l') (hi : i < b) : St key l' a i (i + 1) := fun p q p1 p2 q1 q2 _ => by
 obtain ⟨p', r1, r2, e⟩ := hm.ins p p1 p2
 rw [e, hm.out q (by omega)]
 exact h p' q r1 (by omega) (by omega)
theorem B4M {key : Nat → Int} {l l' : List Nat} (hp : l'.Perm l) (h : E6 key l 0 l.length) (h' : E6 key l' 0 l'.length) : l' = l := by
 have pw : ∀ m : List Nat, E6 key m 0 m.length → m.Pairwise (V1 key) := fun m hm => List.pairwise_iff_getElem.2 fun i j hi hj hij => by
  have := hm i j (Nat.zero_le _) hij hj
  simpa [List.getD_eq_getElem?_getD, List.getElem?_eq_getElem hi, List.getElem?_eq_getElem hj] using this
 exact hp.eq_of_pairwise (fun a b _ _ h1 h2 => by unfold V1 at h1 h2; omega) (pw l' h') (pw l h)
end Go.Proofs.Ytlplkjgcfjdinaa
namespace Go.Proofs.Ytlplkjgcfjdinaa
open Go
end Go.Proofs.Ytlplkjgcfjdinaa
