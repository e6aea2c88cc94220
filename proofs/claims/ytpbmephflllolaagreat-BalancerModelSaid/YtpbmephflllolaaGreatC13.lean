/- The proof of a given statement, a part of it (Args Join ShR17 Few ArgsC ShModel). No condition but what each lemma says. -/
import Derived.WalkKit
import Derived.ProofKit
import Derived.OpenShut
import Derived.Carry
import Derived.Deep.Slices
import Derived.Test.YtpbmephflllolaaGreatRows
import Derived.Test.YtpbmephflllolaaGreatC12
set_option linter.unusedVariables false
set_option linter.unusedSimpArgs false
namespace Go.Proofs.YtpbmephflllolaaGreat
open Go Go.ChangeShapes Go.WideShapes Go.ChangeAt Go.RowKit
theorem C0x {w w' : World} (h : C5 [] w w') (hk : Sk B4 w w') (may : MemPlace → Prop) : w.keptBut w' may := by
 refine ⟨hk.2.2.2.1, hk.2.2.2.2, fun i hi => ?_⟩
 have h1 : w.heap[i]? = some w.heap[i] := Array.getElem?_eq_getElem hi
 have h2 : w'.heap[i]? = some w.heap[i] := h.2 i _ (by simp) h1
 rw [h1, h2]
 cases w.heap[i] <;> simp
theorem B7Z {f : FuncId} {args : Array Value} {w : World} (h : Fn PR B4 f args w (fun v w' => v = .bool true ∧ C5 [] w w')) :
  Calls PR f args w fun e w' => e = .returned (.bool true) ∧ (∀ may, w.keptBut w' may) ∧ C5 [] w w' :=
 Calls.mono h fun _ w' ⟨v, he, ⟨hv, hb⟩, hs⟩ => ⟨by rw [he, hv], C0x hb hs, hb⟩
theorem own : ownKnob PR.godebug = none := by kernel_rfl
theorem C2e : laidOutB PR = true := by kernel_rfl
theorem B6Y {H : Type} {enc : TypeId × Value → H} {P : Program} {f : Func} {s : ChangeSpec} {apart fresh handsOn : Bool} {W W' : World} {args : Array Value} {v : Value} {ds gs : List (DataW H)} {before pa pv : List MemPlace}
  (hW : DataW.Whole enc P f.params.toList s.vars apart W args.toList ds gs before)
  (hres : ∀ (b : Nat) (sp : Nat → Bool) (hd : Bool), DataW.TrodAll enc P W' b sp hd f.resultTypes.toList (v.resultList f.resultTypes.size) (s.fn H (ds ++ gs)).results [])
  (hargs : ∀ sp : Nat → Bool, (∀ p ∈ before, sp p.block = true) → DataW.TrodAll enc P W' 0 sp true f.params.toList args.toList (s.fn H (ds ++ gs)).args pa)
  (hvars : ∀ sp : Nat → Bool, (∀ p ∈ before, sp p.block = true) → DataW.TrodVars enc P W' sp s.vars (s.fn H (ds ++ gs)).vars pv)
  (hk : ∀ may, W.keptBut W' may) : s.post enc P f apart fresh handsOn false W args v W' := by
 have hold : ∀ p ∈ before, (fun b => decide (b < W.heap.size)) p.block = true := fun p hp => by simpa using hW.lt p hp
 exact ⟨ds, gs, before, [], pa, pv, hW, hres _ _ _, hargs _ hold, hvars _ hold, hk _, fun h => by cases h⟩
theorem B2j {v x : Value} (h : v.cells.toList = [x]) (hv : plain v = true) : v = x := by
 cases v <;> first | (simp [Value.cells] at h; exact h) | (simp [plain] at hv)
section
variable {H : Type} {enc : TypeId × Value → H} {P : Program} {w : World} {base : Nat} {spare : Nat → Bool} {held : Bool}
theorem B49 {α : Type} {f : α → List Value} {k : Nat} (hk : ∀ x, (f x).length = k) (hkp : 0 < k) {Q : α → Prop} {t e : TypeId} {fuel : Nat} {cs : List Value} {x : DataW H × List MemPlace}
  (ht : P.underlying t = some (.slice e)) (hc : P.cellsOf e = k) (h : DataW.trod enc P w base spare held fuel t cs = some x)
  (he : ∀ n cs' y, DataW.trod enc P w base spare held n e cs' = some y → ∃ a, cs' = f a ∧ Q a) :
  ∃ (v : Value) (l : List α), cs = [v] ∧ F5 w v l.length (l.flatMap f) ∧ (∀ a ∈ l, Q a) ∧ l.length ≤ maxLen := by
 rcases Go.Deep.open_slice ht h with ⟨rfl, _⟩ | ⟨a, len, cap, m, n, D, Pl, rfl, hb, hl, hm, hmm, _, hx⟩
 ·exact ⟨_, [], rfl, Or.inl ⟨rfl, rfl, none, 0, rfl⟩, by simp, by simp⟩
 have hlm : len ≤ m := by rw [hmm]; split <;> omega
 have hch : ∀ i : Fin len, ∃ a' : α, Q a' ∧ w.cells? base (a.add (i.1 * k)) k = some (f a') := by
  intro i
  obtain ⟨cs', h1, h2⟩ := hx i.1 (by omega)
  obtain ⟨a', rfl, hq⟩ := he _ _ _ h2
  rw [hc] at h1
  exact ⟨a', hq, h1⟩
 let g : Fin len → α := fun i => Classical.choose (hch i)
 have hg : ∀ i, Q (g i) ∧ w.cells? base (a.add (i.1 * k)) k = some (f (g i)) := fun i => Classical.choose_spec (hch i)
 refine ⟨_, List.ofFn g, rfl, ?_, ?_, by simp; omega⟩
 ·by_cases h0 : len = 0
  ·subst h0; exact Or.inl ⟨by simp, by simp, _, _, rfl⟩
  obtain ⟨b, o, spot⟩ := a
  have h1 := (World.cells?_some (hg ⟨0, by omega⟩).2).2.2 0 hkp
  have hfl := hk (g ⟨0, by omega⟩)
  rw [List.getElem?_eq_getElem (by omega)] at h1
  have hspot : spot = none := by simpa [Addr.add] using World.cell?_spot h1
  subst hspot
  refine Or.inr ⟨b, o, cap, by simp, fun i hi => ?_⟩
  rw [H4 hk] at hi
  simp only [List.length_ofFn] at hi
  have hd : i / k * k + i % k = i := by rw [Nat.mul_comm]; exact Nat.div_add_mod i k
  have hj : i % k < k := Nat.mod_lt _ hkp
  have hi' : i / k < len := by rw [Nat.div_lt_iff_lt_mul hkp]; exact hi
  have h2 := (World.cells?_some (hg ⟨i / k, hi'⟩).2).2.2 (i % k) hj
  rw [← hd, T0 hk _ _ _ hj, List.getElem?_ofFn, dif_pos hi']
  simp only [Option.bind_some]
  rw [← h2, Y7, Y7]
  simp only [Nat.add_assoc]
 ·intro a' ha'
  rw [List.mem_ofFn] at ha'
  obtain ⟨i, rfl⟩ := ha'
  exact (hg i).1
theorem U7 {t : TypeId} {k : IntKind} {fuel : Nat} {cs : List Value} {x : DataW H × List MemPlace} (ht : P.underlying t = some (.int k)) (h : DataW.trod enc P w base spare held fuel t cs = some x) :
  ∃ a : Int, cs = [.int k a] ∧ (Lit.int k a).wf = true := by
 obtain ⟨n, h1, _, h2⟩ := DataW.trod_int ht h
 exact ⟨n, h1, h2⟩
theorem B7S {t : TypeId} {fuel : Nat} {cs : List Value} {x : DataW H × List MemPlace} (ht : P.underlying t = some .string) (h : DataW.trod enc P w base spare held fuel t cs = some x) :
  ∃ s : ByteArray, cs = [.string s] ∧ s.size ≤ maxLen := by
 obtain ⟨s, h1, _, h2⟩ := DataW.trod_string ht h
 exact ⟨s, h1, h2⟩
theorem B5g {α : Type} {f : α → List Value} {t e : TypeId} {Q : List α → Prop} {r : Reach} {b0 : Nat} {v : Value} {d : DataW H} {ps : List MemPlace} (ht : P.underlying t = some (.slice e)) (hval : Value.okWide P w r b0 t v) (hd : DataW.Trod enc P w base spare held t v d ps)
  (h : ∀ fuel cs x, DataW.trod enc P w base spare held fuel t cs = some x → ∃ (v : Value) (l : List α), cs = [v] ∧ F5 w v l.length (l.flatMap f) ∧ Q l) : ∃ l : List α, F5 w v l.length (l.flatMap f) ∧ Q l := by
 obtain ⟨a, len, cap, rfl⟩ := okWide_slice ht hval
 obtain ⟨fuel, hf⟩ := hd
 obtain ⟨v', l, h1, h2⟩ := h _ _ _ hf
 have : Value.slice a len cap = v' := B2j h1 rfl
 subst this
 exact ⟨l, h2⟩
end
theorem B15 {H : Type} {enc : TypeId × Value → H} {P : Program} (hl : laidOutB P = true) {W W' : World} (hb : C5 [] W W') {sp : Nat → Bool} :
  ∀ {ts : List TypeId} {vs : List Value} {ds : List (DataW H)} {ps : List MemPlace}, (ts.all fun t => P.readableRec t && decide (t < P.types.size)) = true → DataW.TrodAll enc P W 0 (fun _ => true) true ts vs ds ps →
   (∀ p ∈ ps, p.block < W.heap.size) → (∀ p ∈ ps, sp p.block = true) → DataW.TrodAll enc P W' 0 sp true ts vs ds ps := by
 intro ts
 induction ts with
 | nil => intro vs ds ps _ h _ _; cases vs <;> cases ds <;> exact h
 | cons t ts ih =>
  intro vs ds ps ht h hlt hsp
  simp only [List.all_cons, Bool.and_eq_true, decide_eq_true_eq] at ht
  obtain ⟨v, vs', d, ds', p, q, rfl, rfl, rfl, h0, hr⟩ := trodAll_cons h
  refine ⟨p, q, WideElems.Trod_stays hl ht.1.1 ht.1.2 h0 (fun x hx => ?_) (fun x hx => hsp x (List.mem_append_left _ hx)),
   ih ht.2 hr (fun x hx => hlt x (List.mem_append_right _ hx)) (fun x hx => hsp x (List.mem_append_right _ hx)), rfl⟩
  have hlt' := hlt x (List.mem_append_left _ hx)
  have e1 : W.heap[x.block]? = some W.heap[x.block] := Array.getElem?_eq_getElem hlt'
  have e2 : W'.heap[x.block]? = some W.heap[x.block] := hb.2 _ _ (by simp) e1
  cases x with
  | cell b o => show W'.cell? _ = W.cell? _; unfold World.cell?; rw [show W'.heap[b]? = W.heap[b]? from e2.trans e1.symm]
  | map b => exact e2.trans e1.symm
set_option maxRecDepth 10000
section
variable {H : Type} {enc : TypeId × Value → H} {w : World} {base : Nat} {spare : Nat → Bool} {held : Bool} {fuel : Nat} {cs : List Value} {x : DataW H × List MemPlace}
theorem C1K (h : DataW.trod enc PR w base spare held fuel 75 cs = some x) : ∃ a : F9, cs = E1 a ∧ True := by
 obtain ⟨xs, n, _, rfl, hl, hxl, hf⟩ := DataW.trod_struct A6K.und h
 have hl4 : cs.length = 2 := hl.trans (by kernel_rfl)
 have hx4 : xs.length = 2 := hxl.trans (by kernel_rfl)
 match cs, hl4 with
 | [c0, c1], _ =>
  have f0 := hf 0 _ rfl
  have f1 := hf 1 _ rfl
  rw [List.getElem?_eq_getElem (by omega)] at f0 f1
  obtain ⟨a0, e0, _⟩ := U7 Tryz.underlying3 f0
  obtain ⟨a1, e1, _⟩ := U7 Tryz.underlying3 f1
  have e0 : [c0] = [.int .i64 a0] := e0
  have e1 : [c1] = [.int .i64 a1] := e1
  cases e0; cases e1
  exact ⟨(a0, a1), rfl, trivial⟩
theorem B8s (h : DataW.trod enc PR w base spare held fuel 32 cs = some x) : ∃ (v : Value) (l : List F9), cs = [v] ∧ F5 w v l.length (l.flatMap E1) ∧ l.length ≤ maxLen := by
 obtain ⟨v, l, h1, h2, _, h3⟩ := B49 (f := E1) (k := 2) (Q := fun _ => True) (fun _ => rfl) (by omega) Tryz.underlying32 (by kernel_rfl) h (fun n cs' y hy => C1K hy)
 exact ⟨v, l, h1, h2, h3⟩
end
end Go.Proofs.YtpbmephflllolaaGreat
namespace Go.Proofs.YtpbmephflllolaaGreat
open Go
set_option maxRecDepth 100000
theorem jf2 : mapsRowed Tryz.prog = true := by kernel_rfl
theorem jf6 : (Program.stops Tryz.prog == []) = true := by kernel_rfl
theorem jf8 : (Program.stopKnobs Tryz.prog == []) = true := by kernel_rfl
theorem C7B : Program.stopsHeard Tryz.prog = true := by kernel_rfl
theorem C6d : Program.mayEnter Tryz.prog = true := by kernel_rfl
end Go.Proofs.YtpbmephflllolaaGreat
namespace Go.Proofs.YtpbmephflllolaaGreat
open Go
def q9 (X : Nat → Prop) (t0 : Value) (R : Value → WP) : WP :=
 B2 PR X (Instr.box 23 t0) fun t1 =>
 A0 PR (Instr.fieldAt 23 t1 0) fun t3 =>
 A6 PR (Instr.loadAt 3 t3) fun t4 =>
 A0 PR (binOp .leq 3 t4 (.int .i64 6)) fun t5 =>
 gj t5 true (fun J => A0 PR (Instr.fieldAt 23 t1 1) J) fun t7 =>
 gj t5 true (fun J => A6 PR (Instr.loadAt 3 t7) J) fun t8 =>
 gj t5 true (fun J => A0 PR (binOp .leq 3 t8 (.int .i64 6)) J) fun t9 =>
 A0 PR (do pure (if ← asBool t5 then t9 else (.bool false))) fun t10 =>
 gj t10 true (fun J => A0 PR (Instr.fieldAt 23 t1 2) J) fun t12 =>
 gj t10 true (fun J => A6 PR (Instr.loadAt 3 t12) J) fun t13 =>
 gj t10 true (fun J => A0 PR (binOp .leq 3 t13 (.int .i64 12)) J) fun t14 =>
 A0 PR (do pure (if ← asBool t10 then t14 else (.bool false))) fun t15 =>
 R t15
theorem m6 : A9 PR 33 := A7 Tryz.func33 (by kernel_rfl) rfl
theorem A23 {X : Nat → Prop} {t0 : Value} {R : Value → WP} {w : World} (h : q9 X t0 R w) : Fn PR X 33 #[t0] w R := C9 (args := [t0]) mixed Tryz.func33 (by kernel_rfl) h
def y0 (X : Nat → Prop) (t0 t1 : Value) (R : Value → WP) : WP :=
 jn (n := 1) (fun t4 =>
 jn (n := 2) (fun t4_1 t5 =>
 R (.bool true)) fun J1 =>
 lp (n := 2) (fun L2 t4_2 t5_1 =>
 jn (n := 0) (
 jn (n := 1) (fun t4_3 =>
 A0 PR (binOp .add 3 t5_1 (.int .i64 1)) fun t15 =>
 L2 t4_3 t15) fun J3 =>
 A0 PR (Instr.indexAt 76 t0 t5_1) fun t18 =>
 A0 PR (Instr.fieldAt 42 t18 1) fun t19 =>
 A6 PR (Instr.loadAt 9 t19) fun t20 =>
 A0 PR (A8 .len #[9] 0 [t20]) fun t21 =>
 A0 PR (binOp .gtr 3 t21 (.int .i64 100)) fun t22 =>
 gj t22 false (fun J => J t0) fun t24 =>
 gj t22 false (fun J => J t5_1) fun t25 =>
 gj t22 false (fun J => A0 PR (Instr.indexAt 76 t24 t25) J) fun t26 =>
 gj t22 false (fun J => A0 PR (Instr.fieldAt 42 t26 2) J) fun t27 =>
 gj t22 false (fun J => A6 PR (Instr.loadAt 32 t27) J) fun t28 =>
 gj t22 false (fun J => A0 PR (A8 .len #[32] 0 [t28]) J) fun t29 =>
 gj t22 false (fun J => A0 PR (binOp .gtr 3 t29 (.int .i64 8)) J) fun t30 =>
 A0 PR (do pure (if ← asBool t22 then (.bool true) else t30)) fun t31 =>
 C3 t31 (
 R (.bool false)) (
 J3 t4_2)) fun J4 =>
 A0 PR (A8 .len #[76] 0 [t0]) fun t12 =>
 A0 PR (binOp .lss 3 t5_1 t12) fun t13 =>
 C3 t13 (
 J4) (
 J1 t4_2 t5_1)) t4 (.int .i64 0)) fun J5 =>
 A0 PR (A8 .len #[76] 0 [t0]) fun t7 =>
 A0 PR (binOp .gtr 3 t7 t1) fun t9 =>
 C3 t9 (
 R (.bool false)) (
 J5 (.bool false))
theorem A3f : A9 PR 34 := A7 Tryz.func34 (by kernel_rfl) rfl
theorem A4M {X : Nat → Prop} {t0 t1 : Value} {R : Value → WP} {w : World} (h : y0 X t0 t1 R w) : Fn PR X 34 #[t0, t1] w R := C9 (args := [t0, t1]) mixed Tryz.func34 (by kernel_rfl) h
end Go.Proofs.YtpbmephflllolaaGreat
namespace Go.Proofs.YtpbmephflllolaaGreat
open Go
theorem K9.partAt {w : World} {b o k : Nat} {α : Type} {l : List α} {f : α → List Value} (h : K9 w b o (l.flatMap f)) (hk : ∀ x, (f x).length = k) {i : Nat} {x : α} (hx : l[i]? = some x) (j n : Nat) (hn : j + n ≤ k) : b9 w b (o + i * k + j) n = some (((f x).drop j).take n) := by
 have hl : (((f x).drop j).take n).length = n := by simp [hk]; omega
 have h1 : K9 w b (o + i * k + j) (((f x).drop j).take n) := fun q hq => by
  rw [hl] at hq
  have h2 := h.cellAt hk hx (j := j + q) (u := (f x)[j + q]'(by rw [hk]; omega)) (List.getElem?_eq_getElem _)
  rw [Nat.add_assoc, h2, List.getElem?_take_of_lt hq, List.getElem?_drop, List.getElem?_eq_getElem (by rw [hk]; omega)]
 have := A2B h1
 rwa [hl] at this
def l2 (o : OpV × Value) : List Value := [.int .i64 o.1.kind, .string o.1.packet, o.2, .int .i64 o.1.shard]
def A2M (s : (OpV × Value) × Int) : List Value := [.int .i64 s.1.1.kind, .string s.1.1.packet, s.1.2, .int .i64 s.1.1.shard, .int .i64 s.2]
def B2c (o : OpV × Value) : Prop := ∃ a c, o.2 = .slice a o.1.pool.length c
def n9 (c : CfgV) : Bool := decide (c.wk ≤ 6) && decide (c.sh ≤ 6) && decide (c.cp ≤ 12)
def A8b (o : OpV) : Bool := decide (o.packet.size ≤ 100) && decide (o.pool.length ≤ 8)
def z6 (l : List OpV) (most : Int) : Bool := decide ((l.length : Int) ≤ most) && l.all A8b
theorem B3v (w : World) (c : CfgV) : Fn PR B4 33 #[c.val] w (fun r w' => r = .bool (n9 c) ∧ C5 [] w w') := by
 refine Fn.pure (A23 (TW.go (κ := false) (S := []) ?_))
 unfold q9
 simp only [CfgV.val]
 by_cases c1 : c.wk ≤ 6
 ·by_cases c2 : c.sh ≤ 6
  ·(have zz:=trivial;repeat((first|clear zz|with_reducible first|refine A3 ?_|refine A5 fun _=>?_|refine A4 fun _=>?_);try simp(disch:=first|omega|assumption|((repeat(first|exact A1|exact uH|apply A2|apply uT));first|done|fail)|(simp;first|done|omega|fail))[c1, c2]))
   exact B0 (by simp [n9, c1, c2])
  ·(have zz:=trivial;repeat((first|clear zz|with_reducible first|refine A3 ?_|refine A5 fun _=>?_|refine A4 fun _=>?_);try simp(disch:=first|omega|assumption|((repeat(first|exact A1|exact uH|apply A2|apply uT));first|done|fail)|(simp;first|done|omega|fail))[c1, c2]))
   exact B0 (by simp [n9, c1, c2])
 ·(have zz:=trivial;repeat((first|clear zz|with_reducible first|refine A3 ?_|refine A5 fun _=>?_|refine A4 fun _=>?_);try simp(disch:=first|omega|assumption|((repeat(first|exact A1|exact uH|apply A2|apply uT));first|done|fail)|(simp;first|done|omega|fail))[c1]))
  exact B0 (by simp [n9, c1])
theorem B8n (w : World) (v : Value) (l : List (OpV × Value)) (most : Int) (hn : l.length ≤ 9223372036854775807) (hv : F5 w v l.length (l.flatMap l2)) (hp : ∀ o ∈ l, B2c o) :
  Fn PR B4 34 #[v, .int .i64 most] w (fun r w' => r = .bool (z6 (l.map (·.1)) most) ∧ C5 [] w w') := by
 refine Fn.pure (A4M (TW.go (κ := false) (S := []) ?_))
 unfold y0
 obtain ⟨a, c, rfl, hr⟩ := hv.form
 by_cases c0 : most < (l.length : Int)
 ·(have zz:=trivial;repeat((first|clear zz|with_reducible first|refine A3 ?_|refine A5 fun _=>?_|refine A4 fun _=>?_);try simp(disch:=first|omega|assumption|((repeat(first|exact A1|exact uH|apply A2|apply uT));first|done|fail)|(simp;first|done|omega|fail))[c0]))
  exact B0 (by simp [z6]; omega)
 (have zz:=trivial;repeat((first|clear zz|with_reducible first|refine A3 ?_|refine A5 fun _=>?_|refine A4 fun _=>?_);try simp(disch:=first|omega|assumption|((repeat(first|exact A1|exact uH|apply A2|apply uT));first|done|fail)|(simp;first|done|omega|fail))[c0]))
 refine n0 l.length (fun _ _ => .bool false) (fun _ (_ : Unit) => []) (fun i _ => ∀ (j : Nat) x, j < i → l[j]? = some x → A8b x.1 = true) () (by intros; omega) ?_
 rintro i _ hi hφ L hL
 by_cases hlt : i < l.length
 ·have hx := List.getElem?_eq_getElem hlt
  obtain ⟨b, o, rfl, hrow⟩ := hr (by omega)
  have h1 := hrow.cellAt (f := l2) (k := 4) (j := 1) (fun _ => rfl) hx rfl
  have h2 := hrow.cellAt (f := l2) (k := 4) (j := 2) (fun _ => rfl) hx rfl
  obtain ⟨pa, pc, hpl⟩ := hp l[i] (List.getElem_mem hlt)
  rw [hpl] at h2
  have bad : A8b l[i].1 = false → z6 (l.map (·.1)) most = false := fun h => by
   unfold z6
   rw [Bool.and_eq_false_iff]; right
   rw [List.all_eq_false]
   exact ⟨l[i].1, List.mem_map_of_mem (List.getElem_mem hlt), by simp [h]⟩
  by_cases c1 : (100 : Int) < l[i].1.packet.size
  ·(have zz:=trivial;repeat((first|clear zz|with_reducible first|refine A3 ?_|refine A5 fun _=>?_|refine A4 fun _=>?_);try simp(disch:=first|omega|assumption|((repeat(first|exact A1|exact uH|apply A2|apply uT));first|done|fail)|(simp;first|done|omega|fail))[hlt, h1, h2, c1]))
   exact B0 (by rw [bad (by simp [A8b]; omega)])
  by_cases c2 : (8 : Int) < l[i].1.pool.length
  ·(have zz:=trivial;repeat((first|clear zz|with_reducible first|refine A3 ?_|refine A5 fun _=>?_|refine A4 fun _=>?_);try simp(disch:=first|omega|assumption|((repeat(first|exact A1|exact uH|apply A2|apply uT));first|done|fail)|(simp;first|done|omega|fail))[hlt, h1, h2, c1, c2]))
   exact B0 (by rw [bad (by simp [A8b]; omega)])
  (have zz:=trivial;repeat((first|clear zz|with_reducible first|refine A3 ?_|refine A5 fun _=>?_|refine A4 fun _=>?_);try simp(disch:=first|omega|assumption|((repeat(first|exact A1|exact uH|apply A2|apply uT));first|done|fail)|(simp;first|done|omega|fail))[hlt, h1, h2, c1, c2]))
  refine hL hlt () fun j x hj hx' => ?_
  by_cases e : j < i
  ·exact hφ j x e hx'
  ·obtain rfl : j = i := by omega
   rw [hx] at hx'; injection hx' with hx'; subst hx'
   simp [A8b]; omega
 ·(have zz:=trivial;repeat((first|clear zz|with_reducible first|refine A3 ?_|refine A5 fun _=>?_|refine A4 fun _=>?_);try simp(disch:=first|omega|assumption|((repeat(first|exact A1|exact uH|apply A2|apply uT));first|done|fail)|(simp;first|done|omega|fail))[hlt]))
  refine B0 ?_
  have : z6 (l.map (·.1)) most = true := by
   unfold z6
   rw [Bool.and_eq_true]
   refine ⟨by simp; omega, ?_⟩
   rw [List.all_eq_true]
   intro x hx
   obtain ⟨y, hy, rfl⟩ := List.mem_map.1 hx
   obtain ⟨j, hj, e⟩ := List.getElem_of_mem hy
   exact hφ j y (by omega) (by simp [hj, e])
  rw [this]
end Go.Proofs.YtpbmephflllolaaGreat
namespace Go.Proofs.YtpbmephflllolaaGreat
open Go Go.ChangeShapes Go.WideShapes Go.ChangeAt Go.RowKit
set_option maxRecDepth 10000
section
variable {H : Type} {enc : TypeId × Value → H} {w : World} {base : Nat} {spare : Nat → Bool} {held : Bool} {fuel : Nat} {cs : List Value} {x : DataW H × List MemPlace}
theorem C0D (h : DataW.trod enc PR w base spare held fuel 23 cs = some x) : ∃ c : CfgV, cs = [.int .i64 c.wk, .int .i64 c.sh, .int .i64 c.cp, .int .i64 c.idle, .int .i64 c.sl] ∧ True := by
 obtain ⟨xs, n, _, rfl, hl, hxl, hf⟩ := DataW.trod_struct A1e.und h
 have hl4 : cs.length = 5 := hl.trans (by kernel_rfl)
 have hx4 : xs.length = 5 := hxl.trans (by kernel_rfl)
 match cs, hl4 with
 | [c0, c1, c2, c3, c4], _ =>
  have f0 := hf 0 _ rfl
  have f1 := hf 1 _ rfl
  have f2 := hf 2 _ rfl
  have f3 := hf 3 _ rfl
  have f4 := hf 4 _ rfl
  rw [List.getElem?_eq_getElem (by omega)] at f0 f1 f2 f3 f4
  obtain ⟨a0, e0, _⟩ := U7 Tryz.underlying3 f0
  obtain ⟨a1, e1, _⟩ := U7 Tryz.underlying3 f1
  obtain ⟨a2, e2, _⟩ := U7 Tryz.underlying3 f2
  obtain ⟨a3, e3, _⟩ := U7 Tryz.underlying3 f3
  obtain ⟨a4, e4, _⟩ := U7 Tryz.underlying3 f4
  have e0 : [c0] = [.int .i64 a0] := e0
  have e1 : [c1] = [.int .i64 a1] := e1
  have e2 : [c2] = [.int .i64 a2] := e2
  have e3 : [c3] = [.int .i64 a3] := e3
  have e4 : [c4] = [.int .i64 a4] := e4
  cases e0; cases e1; cases e2; cases e3; cases e4
  exact ⟨⟨a0, a1, a2, a3, a4⟩, rfl, trivial⟩
theorem C02 (h : DataW.trod enc PR w base spare held fuel 42 cs = some x) : ∃ o : OpV × Value, cs = l2 o ∧ F5 w o.2 o.1.pool.length (o.1.pool.flatMap E1) := by
 obtain ⟨xs, n, _, rfl, hl, hxl, hf⟩ := DataW.trod_struct A3v.und h
 have hl4 : cs.length = 4 := hl.trans (by kernel_rfl)
 have hx4 : xs.length = 4 := hxl.trans (by kernel_rfl)
 match cs, hl4 with
 | [c0, c1, c2, c3], _ =>
  have f0 := hf 0 _ rfl
  have f1 := hf 1 _ rfl
  have f2 := hf 2 _ rfl
  have f3 := hf 3 _ rfl
  rw [List.getElem?_eq_getElem (by omega)] at f0 f1 f2 f3
  obtain ⟨a0, e0, _⟩ := U7 Tryz.underlying3 f0
  obtain ⟨a1, e1, _⟩ := B7S Tryz.underlying9 f1
  obtain ⟨v, l, e2, hv, _⟩ := B8s f2
  obtain ⟨a3, e3, _⟩ := U7 Tryz.underlying3 f3
  have e0 : [c0] = [.int .i64 a0] := e0
  have e1 : [c1] = [.string a1] := e1
  have e2 : [c2] = [v] := e2
  have e3 : [c3] = [.int .i64 a3] := e3
  cases e0; cases e1; cases e2; cases e3
  exact ⟨(⟨a0, a1, l, a3⟩, c2), rfl, hv⟩
theorem C3A {v : Value} {cs : Array Value} {l : List Value} (hv : v = .agg cs) (h : v.cells.toList = l) : v = .agg l.toArray := by
 subst hv
 have : cs.toList = l := h
 rw [← this]
theorem B35 {r : Reach} {b0 : Nat} {v : Value} {d : DataW H} {ps : List MemPlace} (hval : Value.okWide PR w r b0 23 v) (hd : DataW.Trod enc PR w base spare held 23 v d ps) : ∃ c : CfgV, v = c.val := by
 obtain ⟨cs, e, _⟩ := okWide_struct A1e.und hval
 obtain ⟨fuel, hf⟩ := hd
 obtain ⟨c, h, _⟩ := C0D hf
 exact ⟨c, C3A e h⟩
end
end Go.Proofs.YtpbmephflllolaaGreat
namespace Go.Proofs.YtpbmephflllolaaGreat
open Go
def A6u (X : Nat → Prop) (t0 : Value) (R : Value → WP) : WP :=
 B2 PR X (Instr.box 23 t0) fun t1 =>
 jn (n := 2) (fun t2 t3 =>
 drw <|
 A6 PR (Instr.loadAt 23 t1) fun t12 =>
 A0 PR (Instr.fieldAt 23 t1 1) fun t13 =>
 A6 PR (Instr.loadAt 3 t13) fun t14 =>
 B2 PR X (Instr.makeSlice 135 t14 t14) fun t15 =>
 watch PR [(none, (Instr.loadAt 23 t1), t12)] <|
 A0 PR (Instr.build 137 #[(0, t12), (2, t15)]) fun t16 =>
 B2 PR X (Instr.box 137 t16) fun t17 =>
 jn (n := 1) (fun t23 =>
 R (.tuple #[t17, (.int .i64 0)])) fun J1 =>
 A0 PR (E2 t17) fun t19 =>
 A0 PR (Instr.fieldAt 137 t19 2) fun t20 =>
 A6 PR (Instr.loadAt 135 t20) fun t21 =>
 A0 PR (A8 .len #[135] 0 [t21]) fun t22 =>
 lp (n := 1) (fun L2 t23_1 =>
 A0 PR (binOp .lss 3 t23_1 t22) fun t24 =>
 jn (n := 0) (
 jn (n := 0) (
 A0 PR (binOp .add 3 t23_1 (.int .i64 1)) fun t37 =>
 L2 t37) fun J3 =>
 drw <|
 A0 PR (E2 t17) fun t27 =>
 A0 PR (Instr.fieldAt 137 t27 2) fun t28 =>
 A6 PR (Instr.loadAt 135 t28) fun t29 =>
 A0 PR (Instr.fieldAt 23 t1 2) fun t31 =>
 A6 PR (Instr.loadAt 3 t31) fun t32 =>
 B1 PR X 37 [t32] fun t33 =>
 watch PR [(none, (Instr.loadAt 135 t28), t29)] <|
 A0 PR (Instr.indexAt 135 t29 t23_1) fun t34 =>
 A0 PR (Instr.fieldAt 141 t34 0) fun t35 =>
 A0 PR (Instr.fieldAt 139 t35 0) fun t36 =>
 B9 PR X (Instr.storeAt 94 t36 t33) <|
 J3) fun J4 =>
 C3 t24 (
 J4) (
 J1 t23_1)) (.int .i64 0)) fun J5 =>
 A6 PR (Instr.loadAt 23 t1) fun t7 =>
 B1 PR X 35 [t7] fun t8 =>
 A0 PR (binOp .neq 28 t8 (.int .i64 0)) fun t10 =>
 C3 t10 (
 R (.tuple #[(.pointer none), t8])) (
 J5 (.pointer none) (.int .i64 0))
theorem B1f : A9 PR 25 := A7 Tryz.func25 (by kernel_rfl) rfl
theorem B2z {X : Nat → Prop} {t0 : Value} {R : Value → WP} {w : World} (h : A6u X t0 R w) : Fn PR X 25 #[t0] w R := C9 (args := [t0]) mixed Tryz.func25 (by kernel_rfl) h
def A1u (X : Nat → Prop) (t0 t1 t2 : Value) (R : Value → WP) : WP :=
 B2 PR X (Instr.box 42 t1) fun t4 =>
 B2 PR X (Instr.alloc 39 true (.tuple #[])) fun t6 =>
 A0 PR (Instr.build 144 #[(0, (.func (.func 61) #[] #[])), (1, (.func (.func 62) #[] #[])), (2, (.func (.func 63) #[] #[])), (3, (.func (.func 64) #[] #[]))]) fun t8 =>
 B2 PR X (Instr.alloc 144 true (.tuple #[])) fun t7 =>
 B9 PR X (Instr.storeAt 144 t7 t8) <|
 jn (n := 0) (
 drw <|
 A0 PR (Instr.fieldAt 42 t4 0) fun t18 =>
 A6 PR (Instr.loadAt 3 t18) fun t19 =>
 A0 PR (Instr.indexAt 144 t7 t19) fun t20 =>
 A6 PR (Instr.loadAt 143 t20) fun t21 =>
 A6 PR (Instr.loadAt 42 t4) fun t23 =>
 H9 PR X t21 [t0, t23, t2] fun t25 =>
 B9 PR X (Instr.storeAt 39 t6 t25) <|
 A6 PR (D9 [.c 39 t6]) R) fun J1 =>
 A0 PR (Instr.fieldAt 42 t4 0) fun t9 =>
 A6 PR (Instr.loadAt 3 t9) fun t10 =>
 A0 PR (binOp .lss 3 t10 (.int .i64 0)) fun t11 =>
 gj t11 false (fun J => A0 PR (Instr.fieldAt 42 t4 0) J) fun t13 =>
 gj t11 false (fun J => A6 PR (Instr.loadAt 3 t13) J) fun t14 =>
 gj t11 false (fun J => A0 PR (binOp .geq 3 t14 (.int .i64 4)) J) fun t15 =>
 A0 PR (do pure (if ← asBool t11 then (.bool true) else t15)) fun t16 =>
 C3 t16 (
 A0 PR (Instr.build 39 #[(0, (.int .i64 1))]) fun t17 =>
 B9 PR X (Instr.storeAt 39 t6 t17) <|
 A6 PR (D9 [.c 39 t6]) R) (
 J1)
theorem A7H : A9 PR 28 := A7 Tryz.func28 (by kernel_rfl) rfl
theorem A7l {X : Nat → Prop} {t0 t1 t2 : Value} {R : Value → WP} {w : World} (h : A1u X t0 t1 t2 R w) : Fn PR X 28 #[t0, t1, t2] w R := C9 (args := [t0, t1, t2]) mixed Tryz.func28 (by kernel_rfl) h
def A0W (X : Nat → Prop) (t0 : Value) (R : Value → WP) : WP :=
 A0 PR (E2 t0) fun t4 =>
 A0 PR (Instr.fieldAt 137 t4 1) fun t5 =>
 A6 PR (Instr.loadAt 32 t5) fun t6 =>
 B1 PR X 49 [t6] fun t7 =>
 R t7
theorem A45 : A9 PR 30 := A7 Tryz.func30 (by kernel_rfl) rfl
theorem A59 {X : Nat → Prop} {t0 : Value} {R : Value → WP} {w : World} (h : A0W X t0 R w) : Fn PR X 30 #[t0] w R := C9 (args := [t0]) mixed Tryz.func30 (by kernel_rfl) h
def A37 (X : Nat → Prop) (t0 : Value) (R : Value → WP) : WP :=
 B2 PR X (Instr.box 23 t0) fun t1 =>
 B2 PR X (Instr.alloc 28 true (.tuple #[])) fun t3 =>
 B9 PR X (Instr.storeAt 28 t3 (.int .i64 0)) <|
 A0 PR (Instr.makeFunc (.func 71) #[] #[t3]) fun t5 =>
 A0 PR (Instr.fieldAt 23 t1 0) fun t7 =>
 A6 PR (Instr.loadAt 3 t7) fun t8 =>
 H9 PR X t5 [t8, (.int .i64 1), (.int .i64 64)] fun t9 =>
 A0 PR (Instr.fieldAt 23 t1 1) fun t11 =>
 A6 PR (Instr.loadAt 3 t11) fun t12 =>
 H9 PR X t5 [t12, (.int .i64 1), (.int .i64 16)] fun t13 =>
 A0 PR (Instr.fieldAt 23 t1 2) fun t15 =>
 A6 PR (Instr.loadAt 3 t15) fun t16 =>
 H9 PR X t5 [t16, (.int .i64 1), (.int .i64 64)] fun t17 =>
 A0 PR (Instr.fieldAt 23 t1 3) fun t19 =>
 A6 PR (Instr.loadAt 3 t19) fun t20 =>
 H9 PR X t5 [t20, (.int .i64 0), (.int .i64 1000000)] fun t21 =>
 A0 PR (Instr.fieldAt 23 t1 4) fun t23 =>
 A6 PR (Instr.loadAt 3 t23) fun t24 =>
 H9 PR X t5 [t24, (.int .i64 2), (.int .i64 8)] fun t25 =>
 A6 PR (Instr.loadAt 28 t3) fun t26 =>
 R t26
theorem A3a : A9 PR 35 := A7 Tryz.func35 (by kernel_rfl) rfl
theorem B0v {X : Nat → Prop} {t0 : Value} {R : Value → WP} {w : World} (h : A37 X t0 R w) : Fn PR X 35 #[t0] w R := C9 (args := [t0]) mixed Tryz.func35 (by kernel_rfl) h
def A4H (X : Nat → Prop) (t0 t1 : Value) (R : Value → WP) : WP :=
 jn (n := 1) (fun t4 =>
 B1 PR X 102 [t0] fun t8 =>
 A0 PR (binOp .shr 129 t8 (.int .u64 32)) fun t9 =>
 A0 PR (convert 3 129 t1) fun t11 =>
 A0 PR (binOp .rem 129 t9 t11) fun t12 =>
 A0 PR (convert 129 3 t12) fun t13 =>
 R t13) fun J1 =>
 A0 PR (binOp .lss 3 t1 (.int .i64 1)) fun t6 =>
 C3 t6 (
 R (.int .i64 0)) (
 J1 (.int .i64 0))
theorem A3c : A9 PR 57 := A7 Tryz.func57 (by kernel_rfl) rfl
theorem B0H {X : Nat → Prop} {t0 t1 : Value} {R : Value → WP} {w : World} (h : A4H X t0 t1 R w) : Fn PR X 57 #[t0, t1] w R := C9 (args := [t0, t1]) mixed Tryz.func57 (by kernel_rfl) h
def q8 (X : Nat → Prop) (t0 t1 t2 : Value) (R : Value → WP) : WP :=
 B2 PR X (Instr.box 42 t1) fun t4 =>
 B2 PR X (Instr.alloc 39 true (.tuple #[])) fun t6 =>
 A0 PR (Instr.fieldAt 42 t4 1) fun t15 =>
 A6 PR (Instr.loadAt 9 t15) fun t16 =>
 B1 PR X 56 [t16] fun t17 =>
 A0 PR (Instr.extract t17 0) fun t18 =>
 A0 PR (Instr.extract t17 1) fun t19 =>
 B2 PR X (Instr.alloc 58 true (.tuple #[])) fun t7 =>
 B9 PR X (Instr.storeAt 58 t7 t18) <|
 jn (n := 0) (
 A0 PR (Instr.fieldAt 58 t7 0) fun t24 =>
 A6 PR (Instr.loadAt 56 t24) fun t25 =>
 B1 PR X 23 [t25] fun t26 =>
 A0 PR (Instr.extract t26 0) fun t27 =>
 A0 PR (Instr.extract t26 1) fun t28 =>
 drw <|
 A0 PR (E2 t0) fun t30 =>
 A0 PR (Instr.fieldAt 137 t30 2) fun t31 =>
 A6 PR (Instr.loadAt 135 t31) fun t32 =>
 A0 PR (E2 t0) fun t35 =>
 A0 PR (Instr.fieldAt 137 t35 0) fun t36 =>
 A0 PR (Instr.fieldAt 23 t36 1) fun t37 =>
 A6 PR (Instr.loadAt 3 t37) fun t38 =>
 B1 PR X 57 [t27, t38] fun t39 =>
 watch PR [(none, (Instr.loadAt 135 t31), t32)] <|
 A0 PR (Instr.indexAt 135 t32 t39) fun t40 =>
 drw <|
 kt (n := 2) (fun t13 t12 =>
 A0 PR (E2 t40) fun t65 =>
 A0 PR (Instr.fieldAt 141 t65 0) fun t66 =>
 A0 PR (Instr.fieldAt 139 t66 0) fun t67 =>
 B9 PR X (Instr.storeAt 94 t67 t12) <|
 A6 PR (Instr.loadAt 39 t13) fun t68 =>
 B9 PR X (Instr.storeAt 39 t6 t68) <|
 A6 PR (D9 [.c 39 t6]) R) fun C1 =>
 A0 PR (E2 t40) fun t43_1 =>
 A0 PR (Instr.fieldAt 141 t43_1 0) fun t44_1 =>
 A0 PR (Instr.fieldAt 139 t44_1 0) fun t45_1 =>
 A6 PR (Instr.loadAt 94 t45_1) fun t46_1 =>
 A0 PR (E2 t0) fun t48_1 =>
 A0 PR (Instr.fieldAt 137 t48_1 1) fun t49_1 =>
 A6 PR (Instr.loadAt 32 t49_1) fun t50_1 =>
 A6 PR (Instr.loadAt 58 t7) fun t52_1 =>
 A0 PR (E2 t0) fun t56_1 =>
 A0 PR (Instr.fieldAt 137 t56_1 0) fun t57_1 =>
 A0 PR (Instr.fieldAt 23 t57_1 3) fun t58_1 =>
 A6 PR (Instr.loadAt 3 t58_1) fun t59_1 =>
 both (B1 PR X 22 [t52_1] fun t53_2 =>
 watch PR [(none, (Instr.loadAt 3 t58_1), t59_1), (none, (Instr.loadAt 32 t49_1), t50_1), (none, (Instr.loadAt 94 t45_1), t46_1)] <|
 both (B1 PR X 115 [t46_1, t50_1, t27, t53_2, t2, t59_1] fun t60_3 =>
 A0 PR (Instr.extract t60_3 0) fun t61_3 =>
 A0 PR (Instr.extract t60_3 1) fun t62_3 =>
 B2 PR X (Instr.alloc 39 true (.tuple #[])) fun t13_3 =>
 B9 PR X (Instr.storeAt 39 t13_3 t62_3) <|
 C1 t13_3 t61_3) (both (B2 PR X (Instr.alloc 39 true (.tuple #[])) fun t13_2 =>
 watch PR [(none, (Instr.loadAt 3 t58_1), t59_1), (none, (Instr.loadAt 32 t49_1), t50_1), (none, (Instr.loadAt 94 t45_1), t46_1)] <|
 B1 PR X 115 [t46_1, t50_1, t27, t53_2, t2, t59_1] fun t60_2 =>
 A0 PR (Instr.extract t60_2 0) fun t61_2 =>
 A0 PR (Instr.extract t60_2 1) fun t62_2 =>
 B9 PR X (Instr.storeAt 39 t13_2 t62_2) <|
 C1 t13_2 t61_2) ((fun _ => True)))) (both (B2 PR X (Instr.alloc 39 true (.tuple #[])) fun t13_1 =>
 watch PR [(none, (Instr.loadAt 3 t58_1), t59_1), (none, (Instr.loadAt 58 t7), t52_1), (none, (Instr.loadAt 32 t49_1), t50_1), (none, (Instr.loadAt 94 t45_1), t46_1)] <|
 B1 PR X 22 [t52_1] fun t53_1 =>
 watch PR [(none, (Instr.loadAt 3 t58_1), t59_1), (none, (Instr.loadAt 32 t49_1), t50_1), (none, (Instr.loadAt 94 t45_1), t46_1)] <|
 B1 PR X 115 [t46_1, t50_1, t27, t53_1, t2, t59_1] fun t60_1 =>
 A0 PR (Instr.extract t60_1 0) fun t61_1 =>
 A0 PR (Instr.extract t60_1 1) fun t62_1 =>
 B9 PR X (Instr.storeAt 39 t13_1 t62_1) <|
 C1 t13_1 t61_1) ((fun _ => True)))) fun J2 =>
 A0 PR (binOp .neq 28 t19 (.int .i64 0)) fun t21 =>
 C3 t21 (
 A0 PR (Instr.build 39 #[(0, (.int .i64 9))]) fun t22 =>
 B9 PR X (Instr.storeAt 39 t6 t22) <|
 A6 PR (D9 [.c 39 t6]) R) (
 J2)
theorem A2T : A9 PR 61 := A7 Tryz.func61 (by kernel_rfl) rfl
theorem A2y {X : Nat → Prop} {t0 t1 t2 : Value} {R : Value → WP} {w : World} (h : q8 X t0 t1 t2 R w) : Fn PR X 61 #[t0, t1, t2] w R := C9 (args := [t0, t1, t2]) mixed Tryz.func61 (by kernel_rfl) h
def y1 (X : Nat → Prop) (t0 t1 t2 : Value) (R : Value → WP) : WP :=
 B2 PR X (Instr.box 42 t1) fun t4 =>
 B2 PR X (Instr.alloc 39 true (.tuple #[])) fun t6 =>
 jn (n := 0) (
 A0 PR (Instr.fieldAt 42 t4 2) fun t16 =>
 A6 PR (Instr.loadAt 32 t16) fun t17 =>
 B1 PR X 49 [t17] fun t18 =>
 A0 PR (E2 t0) fun t19 =>
 A0 PR (Instr.fieldAt 137 t19 1) fun t20 =>
 B9 PR X (Instr.storeAt 32 t20 t18) <|
 A0 PR (Instr.build 39 #[]) fun t21 =>
 B9 PR X (Instr.storeAt 39 t6 t21) <|
 A6 PR (D9 [.c 39 t6]) R) fun J1 =>
 A0 PR (Instr.fieldAt 42 t4 2) fun t8 =>
 A6 PR (Instr.loadAt 32 t8) fun t9 =>
 B1 PR X 32 [t9] fun t10 =>
 A0 PR (binOp .neq 28 t10 (.int .i64 0)) fun t12 =>
 C3 t12 (
 A0 PR (Instr.build 39 #[(0, t10)]) fun t14 =>
 B9 PR X (Instr.storeAt 39 t6 t14) <|
 A6 PR (D9 [.c 39 t6]) R) (
 J1)
theorem A3r : A9 PR 62 := A7 Tryz.func62 (by kernel_rfl) rfl
theorem A4r {X : Nat → Prop} {t0 t1 t2 : Value} {R : Value → WP} {w : World} (h : y1 X t0 t1 t2 R w) : Fn PR X 62 #[t0, t1, t2] w R := C9 (args := [t0, t1, t2]) mixed Tryz.func62 (by kernel_rfl) h
def w9 (X : Nat → Prop) (t0 t1 t2 : Value) (R : Value → WP) : WP :=
 B2 PR X (Instr.box 42 t1) fun t4 =>
 B2 PR X (Instr.alloc 39 true (.tuple #[])) fun t6 =>
 jn (n := 0) (
 B2 PR X (Instr.alloc 39 true (.tuple #[])) fun t7 =>
 drw <|
 A0 PR (E2 t0) fun t24 =>
 A0 PR (Instr.fieldAt 137 t24 2) fun t25 =>
 A6 PR (Instr.loadAt 135 t25) fun t26 =>
 A0 PR (Instr.fieldAt 42 t4 3) fun t27 =>
 A6 PR (Instr.loadAt 3 t27) fun t28 =>
 A0 PR (Instr.indexAt 135 t26 t28) fun t29 =>
 drw <|
 A0 PR (E2 t29) fun t34 =>
 A0 PR (Instr.fieldAt 141 t34 0) fun t35 =>
 A0 PR (Instr.fieldAt 139 t35 0) fun t36 =>
 A6 PR (Instr.loadAt 94 t36) fun t37 =>
 A0 PR (E2 t29) fun t39 =>
 A0 PR (Instr.fieldAt 141 t39 1) fun t40 =>
 A6 PR (Instr.loadAt 3 t40) fun t41 =>
 B1 PR X 60 [t37, t41, (.int .i64 4), t2] fun t43 =>
 A0 PR (Instr.extract t43 0) fun t44 =>
 A0 PR (Instr.extract t43 1) fun t45 =>
 A0 PR (Instr.extract t43 2) fun t46 =>
 A0 PR (E2 t29) fun t47 =>
 A0 PR (Instr.fieldAt 141 t47 0) fun t48 =>
 A0 PR (Instr.fieldAt 139 t48 0) fun t49 =>
 B9 PR X (Instr.storeAt 94 t49 t44) <|
 A0 PR (E2 t29) fun t50 =>
 A0 PR (Instr.fieldAt 141 t50 1) fun t51 =>
 B9 PR X (Instr.storeAt 3 t51 t45) <|
 A0 PR (Instr.fieldAt 39 t7 3) fun t52 =>
 B9 PR X (Instr.storeAt 3 t52 t46) <|
 A6 PR (Instr.loadAt 39 t7) fun t53 =>
 B9 PR X (Instr.storeAt 39 t6 t53) <|
 A6 PR (D9 [.c 39 t6]) R) fun J1 =>
 drw <|
 A0 PR (Instr.fieldAt 42 t4 3) fun t9 =>
 A6 PR (Instr.loadAt 3 t9) fun t10 =>
 A0 PR (binOp .lss 3 t10 (.int .i64 0)) fun t11 =>
 gj t11 false (fun J => A0 PR (Instr.fieldAt 42 t4 3) J) fun t13 =>
 gj t11 false (fun J => A6 PR (Instr.loadAt 3 t13) J) fun t14 =>
 gj t11 false (fun J => J t0) fun t15 =>
 gj t11 false (fun J => A0 PR (E2 t15) J) fun t16 =>
 gj t11 false (fun J => A0 PR (Instr.fieldAt 137 t16 2) J) fun t17 =>
 gj t11 false (fun J => A6 PR (Instr.loadAt 135 t17) J) fun t18 =>
 gj t11 false (fun J => A0 PR (A8 .len #[135] 0 [t18]) J) fun t19 =>
 gj t11 false (fun J => A0 PR (binOp .geq 3 t14 t19) J) fun t20 =>
 A0 PR (do pure (if ← asBool t11 then (.bool true) else t20)) fun t21 =>
 C3 t21 (
 A0 PR (Instr.build 39 #[(0, (.int .i64 1))]) fun t22 =>
 B9 PR X (Instr.storeAt 39 t6 t22) <|
 A6 PR (D9 [.c 39 t6]) R) (
 J1)
theorem A3y : A9 PR 63 := A7 Tryz.func63 (by kernel_rfl) rfl
theorem A4p {X : Nat → Prop} {t0 t1 t2 : Value} {R : Value → WP} {w : World} (h : w9 X t0 t1 t2 R w) : Fn PR X 63 #[t0, t1, t2] w R := C9 (args := [t0, t1, t2]) mixed Tryz.func63 (by kernel_rfl) h
def A0Q (X : Nat → Prop) (t0 t1 t2 : Value) (R : Value → WP) : WP :=
 B2 PR X (Instr.box 42 t1) fun t4 =>
 B2 PR X (Instr.alloc 39 true (.tuple #[])) fun t6 =>
 B2 PR X (Instr.alloc 39 true (.tuple #[])) fun t7 =>
 jn (n := 1) (fun t14 =>
 A6 PR (Instr.loadAt 39 t7) fun t30 =>
 B9 PR X (Instr.storeAt 39 t6 t30) <|
 A6 PR (D9 [.c 39 t6]) R) fun J1 =>
 A0 PR (E2 t0) fun t10 =>
 A0 PR (Instr.fieldAt 137 t10 2) fun t11 =>
 A6 PR (Instr.loadAt 135 t11) fun t12 =>
 A0 PR (A8 .len #[135] 0 [t12]) fun t13 =>
 lp (n := 1) (fun L2 t14_1 =>
 A0 PR (binOp .lss 3 t14_1 t13) fun t15 =>
 jn (n := 0) (
 jn (n := 0) (
 A0 PR (binOp .add 3 t14_1 (.int .i64 1)) fun t29 =>
 L2 t29) fun J3 =>
 drw <|
 A0 PR (Instr.fieldAt 39 t7 3) fun t17 =>
 A6 PR (Instr.loadAt 3 t17) fun t18 =>
 A0 PR (E2 t0) fun t20 =>
 A0 PR (Instr.fieldAt 137 t20 2) fun t21 =>
 A6 PR (Instr.loadAt 135 t21) fun t22 =>
 A0 PR (Instr.indexAt 135 t22 t14_1) fun t24 =>
 A0 PR (Instr.fieldAt 141 t24 0) fun t25 =>
 B1 PR X 116 [t25] fun t26 =>
 watch PR [(none, (Instr.loadAt 3 t17), t18)] <|
 A0 PR (binOp .add 3 t18 t26) fun t27 =>
 A0 PR (Instr.fieldAt 39 t7 3) fun t28 =>
 B9 PR X (Instr.storeAt 3 t28 t27) <|
 J3) fun J4 =>
 C3 t15 (
 J4) (
 J1 t14_1)) (.int .i64 0)
theorem A4G : A9 PR 64 := A7 Tryz.func64 (by kernel_rfl) rfl
theorem A5G {X : Nat → Prop} {t0 t1 t2 : Value} {R : Value → WP} {w : World} (h : A0Q X t0 t1 t2 R w) : Fn PR X 64 #[t0, t1, t2] w R := C9 (args := [t0, t1, t2]) mixed Tryz.func64 (by kernel_rfl) h
def A1n (X : Nat → Prop) (t0 t1 t2 t3 : Value) (R : Value → WP) : WP :=
 A0 PR (binOp .lss 3 t0 t1) fun t9 =>
 gj t9 false (fun J => J t0) fun t11 =>
 gj t9 false (fun J => J t2) fun t12 =>
 gj t9 false (fun J => A0 PR (binOp .gtr 3 t11 t12) J) fun t13 =>
 A0 PR (do pure (if ← asBool t9 then (.bool true) else t13)) fun t14 =>
 C3 t14 (
 B9 PR X (Instr.storeAt 28 t3 (.int .i64 1)) <|
 R (.tuple #[])) (
 R (.tuple #[]))
theorem Q6 : A9 PR 71 := A7 Tryz.func71 (by kernel_rfl) rfl
theorem A7f {X : Nat → Prop} {t0 t1 t2 t3 : Value} {R : Value → WP} {w : World} (h : A1n X t0 t1 t2 t3 R w) : Fn PR X 71 #[t0, t1, t2, t3] w R := C9 (args := [t0, t1, t2, t3]) mixed Tryz.func71 (by kernel_rfl) h
def A3P (X : Nat → Prop) (t0 t1 t2 t3 t4 t5 : Value) (R : Value → WP) : WP :=
 B2 PR X (Instr.alloc 39 true (.tuple #[])) fun t13 =>
 B1 PR X 166 [t0, t1, t2, t4] fun t25 =>
 A0 PR (Instr.extract t25 0) fun t26 =>
 A0 PR (Instr.extract t25 1) fun t27 =>
 jn (n := 2) (fun t12 t14 =>
 jn (n := 1) (fun t12_1 =>
 A0 PR (binOp .add 3 t4 t5) fun t56 =>
 B1 PR X 106 [t0, t2, t14, t56] fun t57 =>
 A0 PR (Instr.extract t57 0) fun t58 =>
 A0 PR (Instr.extract t57 1) fun t59 =>
 jn (n := 1) (fun t12_2 =>
 A0 PR (Op.unary .not t27) fun t68 =>
 A0 PR (Instr.build 39 #[(1, t14), (2, t68)]) fun t69 =>
 B9 PR X (Instr.storeAt 39 t13 t69) <|
 A6 PR (D9 [.v t58, .c 39 t13]) R) fun J1 =>
 A0 PR (binOp .neq 28 t59 (.int .i64 0)) fun t61 =>
 C3 t61 (
 A0 PR (Instr.build 39 #[(0, t59)]) fun t64 =>
 B9 PR X (Instr.storeAt 39 t13 t64) <|
 A6 PR (D9 [.v t0, .c 39 t13]) R) (
 J1 t12_1)) fun J2 =>
 C3 t3 (
 B1 PR X 105 [t0, t2] fun t44 =>
 A0 PR (Instr.extract t44 0) fun t45 =>
 A0 PR (Instr.extract t44 1) fun t46 =>
 A0 PR (Instr.build 39 #[(1, t14)]) fun t49 =>
 B9 PR X (Instr.storeAt 39 t13 t49) <|
 A6 PR (D9 [.v t45, .c 39 t13]) R) (
 J2 t12)) fun J3 =>
 C3 t27 (
 J3 (.slice none 0 0) t26) (
 A0 PR (A8 .len #[32] 0 [t1]) fun t36 =>
 A0 PR (binOp .eql 3 t36 (.int .i64 0)) fun t37 =>
 C3 t37 (
 A0 PR (Instr.build 39 #[(0, (.int .i64 11))]) fun t39 =>
 B9 PR X (Instr.storeAt 39 t13 t39) <|
 A6 PR (D9 [.v t0, .c 39 t13]) R) (
 B1 PR X 102 [t2] fun t30 =>
 B1 PR X 167 [t1, t30] fun t31 =>
 J3 (.slice none 0 0) t31))
theorem Q3 : A9 PR 115 := A7 Tryz.func115 (by kernel_rfl) rfl
theorem A9l {X : Nat → Prop} {t0 t1 t2 t3 t4 t5 : Value} {R : Value → WP} {w : World} (h : A3P X t0 t1 t2 t3 t4 t5 R w) : Fn PR X 115 #[t0, t1, t2, t3, t4, t5] w R := C9 (args := [t0, t1, t2, t3, t4, t5]) mixed Tryz.func115 (by kernel_rfl) h
def A0V (X : Nat → Prop) (t0 : Value) (R : Value → WP) : WP :=
 A0 PR (E2 t0) fun t4 =>
 A0 PR (Instr.fieldAt 139 t4 0) fun t5 =>
 A6 PR (Instr.loadAt 94 t5) fun t6 =>
 B1 PR X 113 [t6, (.int .i64 1)] fun t7 =>
 R t7
theorem A48 : A9 PR 116 := A7 Tryz.func116 (by kernel_rfl) rfl
theorem A6D {X : Nat → Prop} {t0 : Value} {R : Value → WP} {w : World} (h : A0V X t0 R w) : Fn PR X 116 #[t0] w R := C9 (args := [t0]) mixed Tryz.func116 (by kernel_rfl) h
def A34 (X : Nat → Prop) (t0 t1 t2 t3 : Value) (R : Value → WP) : WP :=
 B1 PR X 150 [t0, t2] fun t13 =>
 jn (n := 2) (fun t8 t9 =>
 A0 PR (Instr.indexAt 94 t0 t13) fun t37 =>
 A0 PR (Instr.fieldAt 160 t37 2) fun t38 =>
 A6 PR (Instr.loadAt 3 t38) fun t39 =>
 R (.tuple #[t39, (.bool true)])) fun J1 =>
 A0 PR (binOp .lss 3 t13 (.int .i64 0)) fun t15 =>
 gj t15 false (fun J => J t0) fun t17 =>
 gj t15 false (fun J => J t13) fun t18 =>
 gj t15 false (fun J => A0 PR (Instr.indexAt 94 t17 t18) J) fun t19 =>
 gj t15 false (fun J => A0 PR (Instr.fieldAt 160 t19 3) J) fun t20 =>
 gj t15 false (fun J => A6 PR (Instr.loadAt 3 t20) J) fun t21 =>
 gj t15 false (fun J => J t3) fun t22 =>
 gj t15 false (fun J => A0 PR (binOp .lss 3 t21 t22) J) fun t23 =>
 A0 PR (do pure (if ← asBool t15 then (.bool true) else t23)) fun t24 =>
 gj t24 false (fun J => J t1) fun t26 =>
 gj t24 false (fun J => J t0) fun t27 =>
 gj t24 false (fun J => J t13) fun t28 =>
 gj t24 false (fun J => A0 PR (Instr.indexAt 94 t27 t28) J) fun t29 =>
 gj t24 false (fun J => A0 PR (Instr.fieldAt 160 t29 2) J) fun t30 =>
 gj t24 false (fun J => A6 PR (Instr.loadAt 3 t30) J) fun t31 =>
 gj t24 false (fun J => B1 PR X 199 [t26, t31] J) fun t32 =>
 gj t24 false (fun J => A0 PR (binOp .lss 3 t32 (.int .i64 0)) J) fun t33 =>
 A0 PR (do pure (if ← asBool t24 then (.bool true) else t33)) fun t34 =>
 C3 t34 (
 R (.tuple #[(.int .i64 0), (.bool false)])) (
 J1 (.int .i64 0) (.bool false))
theorem A9A : A9 PR 166 := A7 Tryz.func166 (by kernel_rfl) rfl
theorem B0b {X : Nat → Prop} {t0 t1 t2 t3 : Value} {R : Value → WP} {w : World} (h : A34 X t0 t1 t2 t3 R w) : Fn PR X 166 #[t0, t1, t2, t3] w R := C9 (args := [t0, t1, t2, t3]) mixed Tryz.func166 (by kernel_rfl) h
end Go.Proofs.YtpbmephflllolaaGreat
