/- The proof of a given statement, a part of it (Args Join ShR17 Few ArgsC ShL19 ShR15 ShR16 ShR18 ShR12 ShR11 Rf11 ShR02 Rf02 ShRing ShPoints Points ShFlows Flows Flows2 Points2 Ring Rf11b ShModel). No condition but what each lemma says. -/
import Derived.WalkKit
import Derived.ProofKit
import Derived.OpenShut
import Derived.Carry
import Derived.Deep.Slices
import Derived.Test.YtpnidmkaobfhiaaGreatRows
import Derived.Test.YtpnidmkaobfhiaaGreatJ12
set_option linter.unusedVariables false
set_option linter.unusedSimpArgs false
namespace Go.Proofs.YtpnidmkaobfhiaaGreat
open Go Go.ChangeShapes Go.WideShapes Go.ChangeAt Go.RowKit
theorem C4k {w w' : World} (h : D6 [] w w') (hk : Sk B6 w w') (may : MemPlace → Prop) : w.keptBut w' may := by
 refine ⟨hk.2.2.2.1, hk.2.2.2.2, fun i hi => ?_⟩
 have h1 : w.heap[i]? = some w.heap[i] := Array.getElem?_eq_getElem hi
 have h2 : w'.heap[i]? = some w.heap[i] := h.2 i _ (by simp) h1
 rw [h1, h2]
 cases w.heap[i] <;> simp
theorem C0f {f : FuncId} {args : Array Value} {w : World} (h : Fn PR B6 f args w (fun v w' => v = .bool true ∧ D6 [] w w')) :
  Calls PR f args w fun e w' => e = .returned (.bool true) ∧ (∀ may, w.keptBut w' may) ∧ D6 [] w w' :=
 Calls.mono h fun _ w' ⟨v, he, ⟨hv, hb⟩, hs⟩ => ⟨by rw [he, hv], C4k hb hs, hb⟩
theorem own : ownKnob PR.godebug = none := by kernel_rfl
theorem C57 : laidOutB PR = true := by kernel_rfl
theorem B80 {H : Type} {enc : TypeId × Value → H} {P : Program} {f : Func} {s : ChangeSpec} {apart fresh handsOn : Bool} {W W' : World} {args : Array Value} {v : Value} {ds gs : List (DataW H)} {before pa pv : List MemPlace}
  (hW : DataW.Whole enc P f.params.toList s.vars apart W args.toList ds gs before)
  (hres : ∀ (b : Nat) (sp : Nat → Bool) (hd : Bool), DataW.TrodAll enc P W' b sp hd f.resultTypes.toList (v.resultList f.resultTypes.size) (s.fn H (ds ++ gs)).results [])
  (hargs : ∀ sp : Nat → Bool, (∀ p ∈ before, sp p.block = true) → DataW.TrodAll enc P W' 0 sp true f.params.toList args.toList (s.fn H (ds ++ gs)).args pa)
  (hvars : ∀ sp : Nat → Bool, (∀ p ∈ before, sp p.block = true) → DataW.TrodVars enc P W' sp s.vars (s.fn H (ds ++ gs)).vars pv)
  (hk : ∀ may, W.keptBut W' may) : s.post enc P f apart fresh handsOn false W args v W' := by
 have hold : ∀ p ∈ before, (fun b => decide (b < W.heap.size)) p.block = true := fun p hp => by simpa using hW.lt p hp
 exact ⟨ds, gs, before, [], pa, pv, hW, hres _ _ _, hargs _ hold, hvars _ hold, hk _, fun h => by cases h⟩
theorem B5r {v x : Value} (h : v.cells.toList = [x]) (hv : plain v = true) : v = x := by
 cases v <;> first | (simp [Value.cells] at h; exact h) | (simp [plain] at hv)
section
variable {H : Type} {enc : TypeId × Value → H} {P : Program} {w : World} {base : Nat} {spare : Nat → Bool} {held : Bool}
theorem B3f {α : Type} {f : α → List Value} {k : Nat} (hk : ∀ x, (f x).length = k) (hkp : 0 < k) {Q : α → Prop} {t e : TypeId} {fuel : Nat} {cs : List Value} {x : DataW H × List MemPlace}
  (ht : P.underlying t = some (.slice e)) (hc : P.cellsOf e = k) (h : DataW.trod enc P w base spare held fuel t cs = some x)
  (he : ∀ n cs' y, DataW.trod enc P w base spare held n e cs' = some y → ∃ a, cs' = f a ∧ Q a) :
  ∃ (v : Value) (l : List α), cs = [v] ∧ D2 w v l.length (l.flatMap f) ∧ (∀ a ∈ l, Q a) ∧ l.length ≤ maxLen := by
 rcases Go.Deep.open_slice ht h with ⟨rfl, _⟩ | ⟨a, len, cap, m, n, D, Pl, rfl, hb, hl, hm, hmm, _, hx⟩
 ·exact ⟨_, [], rfl, Or.inl ⟨rfl, rfl, none, 0, rfl⟩, by simp, by simp⟩
 have hlm : len ≤ m := by rw [hmm]; split <;> omega
 have hch : ∀ i : Fin len, ∃ a' : α, Q a' ∧ w.cells? base (a.add (i.1 * k)) k = some (f a') := by
  intro i
  obtain ⟨cs', h1, h2⟩ := hx i.1 (by omega)
  obtain ⟨a', rfl, hq⟩ := he _ _ _ h2
  rw [hc] at h1
  exact ⟨a', hq, h1⟩
 let g : Fin len → α := fun i => Classical.choose (hch i)
 have hg : ∀ i, Q (g i) ∧ w.cells? base (a.add (i.1 * k)) k = some (f (g i)) := fun i => Classical.choose_spec (hch i)
 refine ⟨_, List.ofFn g, rfl, ?_, ?_, by simp; omega⟩
 ·by_cases h0 : len = 0
  ·subst h0; exact Or.inl ⟨by simp, by simp, _, _, rfl⟩
  obtain ⟨b, o, spot⟩ := a
  have h1 := (World.cells?_some (hg ⟨0, by omega⟩).2).2.2 0 hkp
  have hfl := hk (g ⟨0, by omega⟩)
  rw [List.getElem?_eq_getElem (by omega)] at h1
  have hspot : spot = none := by simpa [Addr.add] using World.cell?_spot h1
  subst hspot
  refine Or.inr ⟨b, o, cap, by simp, fun i hi => ?_⟩
  rw [P0 hk] at hi
  simp only [List.length_ofFn] at hi
  have hd : i / k * k + i % k = i := by rw [Nat.mul_comm]; exact Nat.div_add_mod i k
  have hj : i % k < k := Nat.mod_lt _ hkp
  have hi' : i / k < len := by rw [Nat.div_lt_iff_lt_mul hkp]; exact hi
  have h2 := (World.cells?_some (hg ⟨i / k, hi'⟩).2).2.2 (i % k) hj
  rw [← hd, m0 hk _ _ _ hj, List.getElem?_ofFn, dif_pos hi']
  simp only [Option.bind_some]
  rw [← h2, z7, z7]
  simp only [Nat.add_assoc]
 ·intro a' ha'
  rw [List.mem_ofFn] at ha'
  obtain ⟨i, rfl⟩ := ha'
  exact (hg i).1
theorem Y5 {t : TypeId} {k : IntKind} {fuel : Nat} {cs : List Value} {x : DataW H × List MemPlace} (ht : P.underlying t = some (.int k)) (h : DataW.trod enc P w base spare held fuel t cs = some x) :
  ∃ a : Int, cs = [.int k a] ∧ (Lit.int k a).wf = true := by
 obtain ⟨n, h1, _, h2⟩ := DataW.trod_int ht h
 exact ⟨n, h1, h2⟩
theorem C1P {t : TypeId} {fuel : Nat} {cs : List Value} {x : DataW H × List MemPlace} (ht : P.underlying t = some .string) (h : DataW.trod enc P w base spare held fuel t cs = some x) :
  ∃ s : ByteArray, cs = [.string s] ∧ s.size ≤ maxLen := by
 obtain ⟨s, h1, _, h2⟩ := DataW.trod_string ht h
 exact ⟨s, h1, h2⟩
theorem B3G {α : Type} {f : α → List Value} {t e : TypeId} {Q : List α → Prop} {r : Reach} {b0 : Nat} {v : Value} {d : DataW H} {ps : List MemPlace} (ht : P.underlying t = some (.slice e)) (hval : Value.okWide P w r b0 t v) (hd : DataW.Trod enc P w base spare held t v d ps)
  (h : ∀ fuel cs x, DataW.trod enc P w base spare held fuel t cs = some x → ∃ (v : Value) (l : List α), cs = [v] ∧ D2 w v l.length (l.flatMap f) ∧ Q l) : ∃ l : List α, D2 w v l.length (l.flatMap f) ∧ Q l := by
 obtain ⟨a, len, cap, rfl⟩ := okWide_slice ht hval
 obtain ⟨fuel, hf⟩ := hd
 obtain ⟨v', l, h1, h2⟩ := h _ _ _ hf
 have : Value.slice a len cap = v' := B5r h1 rfl
 subst this
 exact ⟨l, h2⟩
end
theorem B5D {H : Type} {enc : TypeId × Value → H} {P : Program} (hl : laidOutB P = true) {W W' : World} (hb : D6 [] W W') {sp : Nat → Bool} :
  ∀ {ts : List TypeId} {vs : List Value} {ds : List (DataW H)} {ps : List MemPlace}, (ts.all fun t => P.readableRec t && decide (t < P.types.size)) = true → DataW.TrodAll enc P W 0 (fun _ => true) true ts vs ds ps →
   (∀ p ∈ ps, p.block < W.heap.size) → (∀ p ∈ ps, sp p.block = true) → DataW.TrodAll enc P W' 0 sp true ts vs ds ps := by
 intro ts
 induction ts with
 | nil => intro vs ds ps _ h _ _; cases vs <;> cases ds <;> exact h
 | cons t ts ih =>
  intro vs ds ps ht h hlt hsp
  simp only [List.all_cons, Bool.and_eq_true, decide_eq_true_eq] at ht
  obtain ⟨v, vs', d, ds', p, q, rfl, rfl, rfl, h0, hr⟩ := trodAll_cons h
  refine ⟨p, q, WideElems.Trod_stays hl ht.1.1 ht.1.2 h0 (fun x hx => ?_) (fun x hx => hsp x (List.mem_append_left _ hx)),
   ih ht.2 hr (fun x hx => hlt x (List.mem_append_right _ hx)) (fun x hx => hsp x (List.mem_append_right _ hx)), rfl⟩
  have hlt' := hlt x (List.mem_append_left _ hx)
  have e1 : W.heap[x.block]? = some W.heap[x.block] := Array.getElem?_eq_getElem hlt'
  have e2 : W'.heap[x.block]? = some W.heap[x.block] := hb.2 _ _ (by simp) e1
  cases x with
  | cell b o => show W'.cell? _ = W.cell? _; unfold World.cell?; rw [show W'.heap[b]? = W.heap[b]? from e2.trans e1.symm]
  | map b => exact e2.trans e1.symm
set_option maxRecDepth 10000
section
variable {H : Type} {enc : TypeId × Value → H} {w : World} {base : Nat} {spare : Nat → Bool} {held : Bool} {fuel : Nat} {cs : List Value} {x : DataW H × List MemPlace}
theorem C5Q (h : DataW.trod enc PR w base spare held fuel 83 cs = some x) : ∃ a : G8, cs = E6 a ∧ True := by
 obtain ⟨xs, n, _, rfl, hl, hxl, hf⟩ := DataW.trod_struct B2S.und h
 have hl4 : cs.length = 2 := hl.trans (by kernel_rfl)
 have hx4 : xs.length = 2 := hxl.trans (by kernel_rfl)
 match cs, hl4 with
 | [c0, c1], _ =>
  have f0 := hf 0 _ rfl
  have f1 := hf 1 _ rfl
  rw [List.getElem?_eq_getElem (by omega)] at f0 f1
  obtain ⟨a0, e0, _⟩ := Y5 Tryz.underlying3 f0
  obtain ⟨a1, e1, _⟩ := Y5 Tryz.underlying3 f1
  have e0 : [c0] = [.int .i64 a0] := e0
  have e1 : [c1] = [.int .i64 a1] := e1
  cases e0; cases e1
  exact ⟨(a0, a1), rfl, trivial⟩
theorem B67 (h : DataW.trod enc PR w base spare held fuel 36 cs = some x) : ∃ (v : Value) (l : List G8), cs = [v] ∧ D2 w v l.length (l.flatMap E6) ∧ l.length ≤ maxLen := by
 obtain ⟨v, l, h1, h2, _, h3⟩ := B3f (f := E6) (k := 2) (Q := fun _ => True) (fun _ => rfl) (by omega) Tryz.underlying36 (by kernel_rfl) h (fun n cs' y hy => C5Q hy)
 exact ⟨v, l, h1, h2, h3⟩
end
end Go.Proofs.YtpnidmkaobfhiaaGreat
namespace Go.Proofs.YtpnidmkaobfhiaaGreat
open Go
set_option maxRecDepth 100000
theorem jf2 : mapsRowed Tryz.prog = true := by kernel_rfl
theorem jf6 : (Program.stops Tryz.prog == []) = true := by kernel_rfl
theorem jf8 : (Program.stopKnobs Tryz.prog == []) = true := by kernel_rfl
theorem D2K : Program.stopsHeard Tryz.prog = true := by kernel_rfl
theorem D1y : Program.mayEnter Tryz.prog = true := by kernel_rfl
end Go.Proofs.YtpnidmkaobfhiaaGreat
namespace Go.Proofs.YtpnidmkaobfhiaaGreat
open Go
def A0Z (X : Nat → Prop) (t0 : Value) (R : Value → WP) : WP :=
 B9 PR X (Instr.box 23 t0) fun t1 =>
 A0 PR (Instr.fieldAt 23 t1 0) fun t3 =>
 A6 PR (Instr.loadAt 3 t3) fun t4 =>
 A0 PR (binOp .leq 3 t4 (.int .i64 6)) fun t5 =>
 gj t5 true (fun J => A0 PR (Instr.fieldAt 23 t1 1) J) fun t7 =>
 gj t5 true (fun J => A6 PR (Instr.loadAt 3 t7) J) fun t8 =>
 gj t5 true (fun J => A0 PR (binOp .leq 3 t8 (.int .i64 6)) J) fun t9 =>
 A0 PR (do pure (if ← asBool t5 then t9 else (.bool false))) fun t10 =>
 gj t10 true (fun J => A0 PR (Instr.fieldAt 23 t1 2) J) fun t12 =>
 gj t10 true (fun J => A6 PR (Instr.loadAt 3 t12) J) fun t13 =>
 gj t10 true (fun J => A0 PR (binOp .leq 3 t13 (.int .i64 12)) J) fun t14 =>
 A0 PR (do pure (if ← asBool t10 then t14 else (.bool false))) fun t15 =>
 R t15
theorem A45 : B2 PR 6 := A7 Tryz.func6 (by kernel_rfl) rfl
theorem A5d {X : Nat → Prop} {t0 : Value} {R : Value → WP} {w : World} (h : A0Z X t0 R w) : Fn PR X 6 #[t0] w R := C9 (args := [t0]) mixed Tryz.func6 (by kernel_rfl) h
def A2G (X : Nat → Prop) (t0 t1 : Value) (R : Value → WP) : WP :=
 jn (n := 1) (fun t4 =>
 jn (n := 2) (fun t4_1 t5 =>
 R (.bool true)) fun J1 =>
 lp (n := 2) (fun L2 t4_2 t5_1 =>
 jn (n := 0) (
 jn (n := 1) (fun t4_3 =>
 A0 PR (binOp .add 3 t5_1 (.int .i64 1)) fun t15 =>
 L2 t4_3 t15) fun J3 =>
 A0 PR (Instr.indexAt 24 t0 t5_1) fun t18 =>
 A0 PR (Instr.fieldAt 38 t18 1) fun t19 =>
 A6 PR (Instr.loadAt 9 t19) fun t20 =>
 A0 PR (A8 .len #[9] 0 [t20]) fun t21 =>
 A0 PR (binOp .gtr 3 t21 (.int .i64 100)) fun t22 =>
 gj t22 false (fun J => J t0) fun t24 =>
 gj t22 false (fun J => J t5_1) fun t25 =>
 gj t22 false (fun J => A0 PR (Instr.indexAt 24 t24 t25) J) fun t26 =>
 gj t22 false (fun J => A0 PR (Instr.fieldAt 38 t26 2) J) fun t27 =>
 gj t22 false (fun J => A6 PR (Instr.loadAt 36 t27) J) fun t28 =>
 gj t22 false (fun J => A0 PR (A8 .len #[36] 0 [t28]) J) fun t29 =>
 gj t22 false (fun J => A0 PR (binOp .gtr 3 t29 (.int .i64 8)) J) fun t30 =>
 A0 PR (do pure (if ← asBool t22 then (.bool true) else t30)) fun t31 =>
 B7 t31 (
 R (.bool false)) (
 J3 t4_2)) fun J4 =>
 A0 PR (A8 .len #[24] 0 [t0]) fun t12 =>
 A0 PR (binOp .lss 3 t5_1 t12) fun t13 =>
 B7 t13 (
 J4) (
 J1 t4_2 t5_1)) t4 (.int .i64 0)) fun J5 =>
 A0 PR (A8 .len #[24] 0 [t0]) fun t7 =>
 A0 PR (binOp .gtr 3 t7 t1) fun t9 =>
 B7 t9 (
 R (.bool false)) (
 J5 (.bool false))
theorem A7L : B2 PR 7 := A7 Tryz.func7 (by kernel_rfl) rfl
theorem A8S {X : Nat → Prop} {t0 t1 : Value} {R : Value → WP} {w : World} (h : A2G X t0 t1 R w) : Fn PR X 7 #[t0, t1] w R := C9 (args := [t0, t1]) mixed Tryz.func7 (by kernel_rfl) h
end Go.Proofs.YtpnidmkaobfhiaaGreat
namespace Go.Proofs.YtpnidmkaobfhiaaGreat
open Go
theorem P9.partAt {w : World} {b o k : Nat} {α : Type} {l : List α} {f : α → List Value} (h : P9 w b o (l.flatMap f)) (hk : ∀ x, (f x).length = k) {i : Nat} {x : α} (hx : l[i]? = some x) (j n : Nat) (hn : j + n ≤ k) : f9 w b (o + i * k + j) n = some (((f x).drop j).take n) := by
 have hl : (((f x).drop j).take n).length = n := by simp [hk]; omega
 have h1 : P9 w b (o + i * k + j) (((f x).drop j).take n) := fun q hq => by
  rw [hl] at hq
  have h2 := h.cellAt hk hx (j := j + q) (u := (f x)[j + q]'(by rw [hk]; omega)) (List.getElem?_eq_getElem _)
  rw [Nat.add_assoc, h2, List.getElem?_take_of_lt hq, List.getElem?_drop, List.getElem?_eq_getElem (by rw [hk]; omega)]
 have := A7w h1
 rwa [hl] at this
def w7 (o : OpV × Value) : List Value := [.int .i64 o.1.kind, .string o.1.packet, o.2, .int .i64 o.1.shard]
def C6l (o : OpV × Value) : Prop := ∃ a c, o.2 = .slice a o.1.pool.length c
def A7k (c : CfgV) : Bool := decide (c.wk ≤ 6) && decide (c.sh ≤ 6) && decide (c.cp ≤ 12)
def B11 (o : OpV) : Bool := decide (o.packet.size ≤ 100) && decide (o.pool.length ≤ 8)
def y8 (l : List OpV) (most : Int) : Bool := decide ((l.length : Int) ≤ most) && l.all B11
theorem C12 (w : World) (c : CfgV) : Fn PR B6 6 #[c.val] w (fun r w' => r = .bool (A7k c) ∧ D6 [] w w') := by
 refine Fn.pure (A5d (TW.go (κ := false) (S := []) ?_))
 unfold A0Z
 simp only [CfgV.val]
 by_cases c1 : c.wk ≤ 6
 ·by_cases c2 : c.sh ≤ 6
  ·(have zz:=trivial;repeat((first|clear zz|with_reducible first|refine A3 ?_|refine A5 fun _=>?_|refine A4 fun _=>?_);try simp(disch:=first|omega|assumption|((repeat(first|exact A1|exact uH|apply A2|apply uT));first|done|fail)|(simp;first|done|omega|fail))[c1, c2]))
   exact B4 (by simp [A7k, c1, c2])
  ·(have zz:=trivial;repeat((first|clear zz|with_reducible first|refine A3 ?_|refine A5 fun _=>?_|refine A4 fun _=>?_);try simp(disch:=first|omega|assumption|((repeat(first|exact A1|exact uH|apply A2|apply uT));first|done|fail)|(simp;first|done|omega|fail))[c1, c2]))
   exact B4 (by simp [A7k, c1, c2])
 ·(have zz:=trivial;repeat((first|clear zz|with_reducible first|refine A3 ?_|refine A5 fun _=>?_|refine A4 fun _=>?_);try simp(disch:=first|omega|assumption|((repeat(first|exact A1|exact uH|apply A2|apply uT));first|done|fail)|(simp;first|done|omega|fail))[c1]))
  exact B4 (by simp [A7k, c1])
theorem C3Z (w : World) (v : Value) (l : List (OpV × Value)) (most : Int) (hn : l.length ≤ 9223372036854775807) (hv : D2 w v l.length (l.flatMap w7)) (hp : ∀ o ∈ l, C6l o) :
  Fn PR B6 7 #[v, .int .i64 most] w (fun r w' => r = .bool (y8 (l.map (·.1)) most) ∧ D6 [] w w') := by
 refine Fn.pure (A8S (TW.go (κ := false) (S := []) ?_))
 unfold A2G
 obtain ⟨a, c, rfl, hr⟩ := hv.form
 by_cases c0 : most < (l.length : Int)
 ·(have zz:=trivial;repeat((first|clear zz|with_reducible first|refine A3 ?_|refine A5 fun _=>?_|refine A4 fun _=>?_);try simp(disch:=first|omega|assumption|((repeat(first|exact A1|exact uH|apply A2|apply uT));first|done|fail)|(simp;first|done|omega|fail))[c0]))
  exact B4 (by simp [y8]; omega)
 (have zz:=trivial;repeat((first|clear zz|with_reducible first|refine A3 ?_|refine A5 fun _=>?_|refine A4 fun _=>?_);try simp(disch:=first|omega|assumption|((repeat(first|exact A1|exact uH|apply A2|apply uT));first|done|fail)|(simp;first|done|omega|fail))[c0]))
 refine Q6 l.length (fun _ _ => .bool false) (fun _ (_ : Unit) => []) (fun i _ => ∀ (j : Nat) x, j < i → l[j]? = some x → B11 x.1 = true) () (by intros; omega) ?_
 rintro i _ hi hφ L hL
 by_cases hlt : i < l.length
 ·have hx := List.getElem?_eq_getElem hlt
  obtain ⟨b, o, rfl, hrow⟩ := hr (by omega)
  have h1 := hrow.cellAt (f := w7) (k := 4) (j := 1) (fun _ => rfl) hx rfl
  have h2 := hrow.cellAt (f := w7) (k := 4) (j := 2) (fun _ => rfl) hx rfl
  obtain ⟨pa, pc, hpl⟩ := hp l[i] (List.getElem_mem hlt)
  rw [hpl] at h2
  have bad : B11 l[i].1 = false → y8 (l.map (·.1)) most = false := fun h => by
   unfold y8
   rw [Bool.and_eq_false_iff]; right
   rw [List.all_eq_false]
   exact ⟨l[i].1, List.mem_map_of_mem (List.getElem_mem hlt), by simp [h]⟩
  by_cases c1 : (100 : Int) < l[i].1.packet.size
  ·(have zz:=trivial;repeat((first|clear zz|with_reducible first|refine A3 ?_|refine A5 fun _=>?_|refine A4 fun _=>?_);try simp(disch:=first|omega|assumption|((repeat(first|exact A1|exact uH|apply A2|apply uT));first|done|fail)|(simp;first|done|omega|fail))[hlt, h1, h2, c1]))
   exact B4 (by rw [bad (by simp [B11]; omega)])
  by_cases c2 : (8 : Int) < l[i].1.pool.length
  ·(have zz:=trivial;repeat((first|clear zz|with_reducible first|refine A3 ?_|refine A5 fun _=>?_|refine A4 fun _=>?_);try simp(disch:=first|omega|assumption|((repeat(first|exact A1|exact uH|apply A2|apply uT));first|done|fail)|(simp;first|done|omega|fail))[hlt, h1, h2, c1, c2]))
   exact B4 (by rw [bad (by simp [B11]; omega)])
  (have zz:=trivial;repeat((first|clear zz|with_reducible first|refine A3 ?_|refine A5 fun _=>?_|refine A4 fun _=>?_);try simp(disch:=first|omega|assumption|((repeat(first|exact A1|exact uH|apply A2|apply uT));first|done|fail)|(simp;first|done|omega|fail))[hlt, h1, h2, c1, c2]))
  refine hL hlt () fun j x hj hx' => ?_
  by_cases e : j < i
  ·exact hφ j x e hx'
  ·obtain rfl : j = i := by omega
   rw [hx] at hx'; injection hx' with hx'; subst hx'
   simp [B11]; omega
 ·(have zz:=trivial;repeat((first|clear zz|with_reducible first|refine A3 ?_|refine A5 fun _=>?_|refine A4 fun _=>?_);try simp(disch:=first|omega|assumption|((repeat(first|exact A1|exact uH|apply A2|apply uT));first|done|fail)|(simp;first|done|omega|fail))[hlt]))
  refine B4 ?_
  have : y8 (l.map (·.1)) most = true := by
   unfold y8
   rw [Bool.and_eq_true]
   refine ⟨by simp; omega, ?_⟩
   rw [List.all_eq_true]
   intro x hx
   obtain ⟨y, hy, rfl⟩ := List.mem_map.1 hx
   obtain ⟨j, hj, e⟩ := List.getElem_of_mem hy
   exact hφ j y (by omega) (by simp [hj, e])
  rw [this]
end Go.Proofs.YtpnidmkaobfhiaaGreat
namespace Go.Proofs.YtpnidmkaobfhiaaGreat
open Go Go.ChangeShapes Go.WideShapes Go.ChangeAt Go.RowKit
set_option maxRecDepth 10000
section
variable {H : Type} {enc : TypeId × Value → H} {w : World} {base : Nat} {spare : Nat → Bool} {held : Bool} {fuel : Nat} {cs : List Value} {x : DataW H × List MemPlace}
theorem C18 (h : DataW.trod enc PR w base spare held fuel 23 cs = some x) : ∃ c : CfgV, cs = [.int .i64 c.wk, .int .i64 c.sh, .int .i64 c.cp, .int .i64 c.idle, .int .i64 c.sl] ∧ True := by
 obtain ⟨xs, n, _, rfl, hl, hxl, hf⟩ := DataW.trod_struct A5L.und h
 have hl4 : cs.length = 5 := hl.trans (by kernel_rfl)
 have hx4 : xs.length = 5 := hxl.trans (by kernel_rfl)
 match cs, hl4 with
 | [c0, c1, c2, c3, c4], _ =>
  have f0 := hf 0 _ rfl
  have f1 := hf 1 _ rfl
  have f2 := hf 2 _ rfl
  have f3 := hf 3 _ rfl
  have f4 := hf 4 _ rfl
  rw [List.getElem?_eq_getElem (by omega)] at f0 f1 f2 f3 f4
  obtain ⟨a0, e0, _⟩ := Y5 Tryz.underlying3 f0
  obtain ⟨a1, e1, _⟩ := Y5 Tryz.underlying3 f1
  obtain ⟨a2, e2, _⟩ := Y5 Tryz.underlying3 f2
  obtain ⟨a3, e3, _⟩ := Y5 Tryz.underlying3 f3
  obtain ⟨a4, e4, _⟩ := Y5 Tryz.underlying3 f4
  have e0 : [c0] = [.int .i64 a0] := e0
  have e1 : [c1] = [.int .i64 a1] := e1
  have e2 : [c2] = [.int .i64 a2] := e2
  have e3 : [c3] = [.int .i64 a3] := e3
  have e4 : [c4] = [.int .i64 a4] := e4
  cases e0; cases e1; cases e2; cases e3; cases e4
  exact ⟨⟨a0, a1, a2, a3, a4⟩, rfl, trivial⟩
theorem C41 (h : DataW.trod enc PR w base spare held fuel 38 cs = some x) : ∃ o : OpV × Value, cs = w7 o ∧ D2 w o.2 o.1.pool.length (o.1.pool.flatMap E6) := by
 obtain ⟨xs, n, _, rfl, hl, hxl, hf⟩ := DataW.trod_struct A6d.und h
 have hl4 : cs.length = 4 := hl.trans (by kernel_rfl)
 have hx4 : xs.length = 4 := hxl.trans (by kernel_rfl)
 match cs, hl4 with
 | [c0, c1, c2, c3], _ =>
  have f0 := hf 0 _ rfl
  have f1 := hf 1 _ rfl
  have f2 := hf 2 _ rfl
  have f3 := hf 3 _ rfl
  rw [List.getElem?_eq_getElem (by omega)] at f0 f1 f2 f3
  obtain ⟨a0, e0, _⟩ := Y5 Tryz.underlying3 f0
  obtain ⟨a1, e1, _⟩ := C1P Tryz.underlying9 f1
  obtain ⟨v, l, e2, hv, _⟩ := B67 f2
  obtain ⟨a3, e3, _⟩ := Y5 Tryz.underlying3 f3
  have e0 : [c0] = [.int .i64 a0] := e0
  have e1 : [c1] = [.string a1] := e1
  have e2 : [c2] = [v] := e2
  have e3 : [c3] = [.int .i64 a3] := e3
  cases e0; cases e1; cases e2; cases e3
  exact ⟨(⟨a0, a1, l, a3⟩, c2), rfl, hv⟩
theorem C6v {v : Value} {cs : Array Value} {l : List Value} (hv : v = .agg cs) (h : v.cells.toList = l) : v = .agg l.toArray := by
 subst hv
 have : cs.toList = l := h
 rw [← this]
theorem B6q {r : Reach} {b0 : Nat} {v : Value} {d : DataW H} {ps : List MemPlace} (hval : Value.okWide PR w r b0 23 v) (hd : DataW.Trod enc PR w base spare held 23 v d ps) : ∃ c : CfgV, v = c.val := by
 obtain ⟨cs, e, _⟩ := okWide_struct A5L.und hval
 obtain ⟨fuel, hf⟩ := hd
 obtain ⟨c, h, _⟩ := C18 hf
 exact ⟨c, C6v e h⟩
end
end Go.Proofs.YtpnidmkaobfhiaaGreat
namespace Go.Proofs.YtpnidmkaobfhiaaGreat
open Go
def A2J (X : Nat → Prop) (t0 : Value) (R : Value → WP) : WP :=
 jn (n := 1) (fun t2 =>
 jn (n := 2) (fun t2_1 t3 =>
 R (.bool true)) fun J1 =>
 lp (n := 2) (fun L2 t2_2 t3_1 =>
 jn (n := 0) (
 jn (n := 1) (fun t2_3 =>
 A0 PR (binOp .add 3 t3_1 (.int .i64 1)) fun t12 =>
 L2 t2_3 t12) fun J3 =>
 A0 PR (Instr.indexAt 25 t0 t3_1) fun t15 =>
 A0 PR (Instr.fieldAt 45 t15 2) fun t16 =>
 A6 PR (Instr.loadAt 36 t16) fun t17 =>
 A0 PR (A8 .len #[36] 0 [t17]) fun t18 =>
 A0 PR (binOp .gtr 3 t18 (.int .i64 8)) fun t19 =>
 B7 t19 (
 R (.bool false)) (
 J3 t2_2)) fun J4 =>
 A0 PR (A8 .len #[25] 0 [t0]) fun t9 =>
 A0 PR (binOp .lss 3 t3_1 t9) fun t10 =>
 B7 t10 (
 J4) (
 J1 t2_2 t3_1)) t2 (.int .i64 0)) fun J5 =>
 A0 PR (A8 .len #[25] 0 [t0]) fun t5 =>
 A0 PR (binOp .gtr 3 t5 (.int .i64 40)) fun t6 =>
 B7 t6 (
 R (.bool false)) (
 J5 (.bool false))
theorem A66 : B2 PR 8 := A7 Tryz.func8 (by kernel_rfl) rfl
theorem A8Q {X : Nat → Prop} {t0 : Value} {R : Value → WP} {w : World} (h : A2J X t0 R w) : Fn PR X 8 #[t0] w R := C9 (args := [t0]) mixed Tryz.func8 (by kernel_rfl) h
def y0 (X : Nat → Prop) (t0 t1 t2 : Value) (R : Value → WP) : WP :=
 B9 PR X (Instr.box 45 t2) fun t5 =>
 A0 PR (Instr.fieldAt 45 t5 0) fun t8 =>
 A6 PR (Instr.loadAt 3 t8) fun t9 =>
 A0 PR (binOp .eql 3 t9 (.int .i64 1)) fun t11 =>
 B7 t11 (
 A0 PR (A9 t0) fun t13 =>
 A0 PR (Instr.fieldAt 74 t13 1) fun t14 =>
 A6 PR (Instr.loadAt 69 t14) fun t15 =>
 B3 PR X 43 [t15, (.int .i64 0), (.int .i64 1)] fun t16 =>
 A0 PR (A9 t1) fun t19 =>
 A0 PR (Instr.fieldAt 110 t19 1) fun t20 =>
 A6 PR (Instr.loadAt 3 t20) fun t21 =>
 A0 PR (binOp .add 3 t21 (.int .i64 1)) fun t22 =>
 A0 PR (A9 t1) fun t23 =>
 A0 PR (Instr.fieldAt 110 t23 1) fun t24 =>
 C2 PR X (Instr.storeAt 3 t24 t22) <|
 R (.tuple #[])) (
 A0 PR (binOp .eql 3 t9 (.int .i64 2)) fun t26 =>
 B7 t26 (
 drw <|
 A0 PR (Instr.fieldAt 45 t5 1) fun t27 =>
 A6 PR (Instr.loadAt 3 t27) fun t28 =>
 A0 PR (binOp .geq 3 t28 (.int .i64 0)) fun t29 =>
 gj t29 true (fun J => A0 PR (Instr.fieldAt 45 t5 1) J) fun t31 =>
 gj t29 true (fun J => A6 PR (Instr.loadAt 3 t31) J) fun t32 =>
 gj t29 true (fun J => J t1) fun t33 =>
 gj t29 true (fun J => A0 PR (A9 t33) J) fun t34 =>
 gj t29 true (fun J => A0 PR (Instr.fieldAt 110 t34 0) J) fun t35 =>
 gj t29 true (fun J => A0 PR (Instr.fieldAt 23 t35 1) J) fun t36 =>
 gj t29 true (fun J => A6 PR (Instr.loadAt 3 t36) J) fun t37 =>
 gj t29 true (fun J => A0 PR (binOp .lss 3 t32 t37) J) fun t38 =>
 A0 PR (do pure (if ← asBool t29 then t38 else (.bool false))) fun t39 =>
 gj t39 true (fun J => J t1) fun t41 =>
 gj t39 true (fun J => A0 PR (A9 t41) J) fun t42 =>
 gj t39 true (fun J => A0 PR (Instr.fieldAt 110 t42 4) J) fun t43 =>
 gj t39 true (fun J => A6 PR (Instr.loadAt 54 t43) J) fun t44 =>
 gj t39 true (fun J => A0 PR (Instr.fieldAt 45 t5 1) J) fun t45 =>
 gj t39 true (fun J => A6 PR (Instr.loadAt 3 t45) J) fun t46 =>
 gj t39 true (fun J => A0 PR (Instr.indexAt 54 t44 t46) J) fun t47 =>
 gj t39 true (fun J => A6 PR (Instr.loadAt 3 t47) J) fun t48 =>
 gj t39 true (fun J => A0 PR (binOp .lss 3 t48 (.int .i64 0)) J) fun t49 =>
 A0 PR (do pure (if ← asBool t39 then t49 else (.bool false))) fun t50 =>
 B7 t50 (
 drw <|
 A0 PR (A9 t0) fun t52 =>
 A0 PR (Instr.fieldAt 74 t52 1) fun t53 =>
 A6 PR (Instr.loadAt 69 t53) fun t54 =>
 A0 PR (Instr.fieldAt 45 t5 1) fun t55 =>
 A6 PR (Instr.loadAt 3 t55) fun t56 =>
 B3 PR X 44 [t54, t56, (.int .i64 99)] fun t57 =>
 drw <|
 A0 PR (A9 t1) fun t59 =>
 A0 PR (Instr.fieldAt 110 t59 4) fun t60 =>
 A6 PR (Instr.loadAt 54 t60) fun t61 =>
 A0 PR (Instr.fieldAt 45 t5 1) fun t62 =>
 A6 PR (Instr.loadAt 3 t62) fun t63 =>
 A0 PR (Instr.indexAt 54 t61 t63) fun t64 =>
 C2 PR X (Instr.storeAt 3 t64 (.int .i64 99)) <|
 R (.tuple #[])) (
 R (.tuple #[]))) (
 A0 PR (binOp .eql 3 t9 (.int .i64 3)) fun t66 =>
 B7 t66 (
 drw <|
 A0 PR (Instr.fieldAt 45 t5 1) fun t67 =>
 A6 PR (Instr.loadAt 3 t67) fun t68 =>
 A0 PR (binOp .geq 3 t68 (.int .i64 0)) fun t69 =>
 gj t69 true (fun J => A0 PR (Instr.fieldAt 45 t5 1) J) fun t71 =>
 gj t69 true (fun J => A6 PR (Instr.loadAt 3 t71) J) fun t72 =>
 gj t69 true (fun J => J t1) fun t73 =>
 gj t69 true (fun J => A0 PR (A9 t73) J) fun t74 =>
 gj t69 true (fun J => A0 PR (Instr.fieldAt 110 t74 0) J) fun t75 =>
 gj t69 true (fun J => A0 PR (Instr.fieldAt 23 t75 1) J) fun t76 =>
 gj t69 true (fun J => A6 PR (Instr.loadAt 3 t76) J) fun t77 =>
 gj t69 true (fun J => A0 PR (binOp .lss 3 t72 t77) J) fun t78 =>
 A0 PR (do pure (if ← asBool t69 then t78 else (.bool false))) fun t79 =>
 gj t79 true (fun J => J t1) fun t81 =>
 gj t79 true (fun J => A0 PR (A9 t81) J) fun t82 =>
 gj t79 true (fun J => A0 PR (Instr.fieldAt 110 t82 4) J) fun t83 =>
 gj t79 true (fun J => A6 PR (Instr.loadAt 54 t83) J) fun t84 =>
 gj t79 true (fun J => A0 PR (Instr.fieldAt 45 t5 1) J) fun t85 =>
 gj t79 true (fun J => A6 PR (Instr.loadAt 3 t85) J) fun t86 =>
 gj t79 true (fun J => A0 PR (Instr.indexAt 54 t84 t86) J) fun t87 =>
 gj t79 true (fun J => A6 PR (Instr.loadAt 3 t87) J) fun t88 =>
 gj t79 true (fun J => A0 PR (binOp .eql 3 t88 (.int .i64 99)) J) fun t89 =>
 A0 PR (do pure (if ← asBool t79 then t89 else (.bool false))) fun t90 =>
 B7 t90 (
 drw <|
 A0 PR (A9 t0) fun t92 =>
 A0 PR (Instr.fieldAt 74 t92 1) fun t93 =>
 A6 PR (Instr.loadAt 69 t93) fun t94 =>
 A0 PR (Instr.fieldAt 45 t5 1) fun t95 =>
 A6 PR (Instr.loadAt 3 t95) fun t96 =>
 B3 PR X 45 [t94, t96, (.int .i64 99)] fun t97 =>
 drw <|
 A0 PR (A9 t1) fun t99 =>
 A0 PR (Instr.fieldAt 110 t99 4) fun t100 =>
 A6 PR (Instr.loadAt 54 t100) fun t101 =>
 A0 PR (Instr.fieldAt 45 t5 1) fun t102 =>
 A6 PR (Instr.loadAt 3 t102) fun t103 =>
 A0 PR (Instr.indexAt 54 t101 t103) fun t104 =>
 C2 PR X (Instr.storeAt 3 t104 (.int .i64 (-1))) <|
 R (.tuple #[])) (
 R (.tuple #[]))) (
 A0 PR (binOp .eql 3 t9 (.int .i64 4)) fun t106 =>
 B7 t106 (
 drw <|
 A0 PR (A9 t0) fun t108 =>
 A0 PR (Instr.fieldAt 74 t108 2) fun t109 =>
 A6 PR (Instr.loadAt 70 t109) fun t110 =>
 A0 PR (Instr.fieldAt 45 t5 1) fun t111 =>
 A6 PR (Instr.loadAt 3 t111) fun t112 =>
 B3 PR X 46 [t110, t112] fun t113 =>
 drw <|
 A0 PR (A9 t0) fun t115 =>
 A0 PR (Instr.fieldAt 74 t115 2) fun t116 =>
 A6 PR (Instr.loadAt 70 t116) fun t117 =>
 A0 PR (Instr.fieldAt 45 t5 1) fun t118 =>
 A6 PR (Instr.loadAt 3 t118) fun t119 =>
 A0 PR (Instr.fieldAt 45 t5 2) fun t120 =>
 A6 PR (Instr.loadAt 36 t120) fun t121 =>
 B3 PR X 47 [t117, t119, t121] fun t122 =>
 drw <|
 A0 PR (A9 t1) fun t125 =>
 A0 PR (Instr.fieldAt 110 t125 5) fun t126 =>
 A6 PR (Instr.loadAt 107 t126) fun t127 =>
 A0 PR (Instr.fieldAt 45 t5 1) fun t128 =>
 A6 PR (Instr.loadAt 3 t128) fun t129 =>
 B3 PR X 48 [t127, t129] fun t130 =>
 A0 PR (Instr.extract t130 0) fun t131 =>
 A0 PR (Instr.extract t130 1) fun t132 =>
 B7 t132 (
 A0 PR (Instr.fieldAt 45 t5 1) fun t137 =>
 A6 PR (Instr.loadAt 3 t137) fun t138 =>
 A0 PR (Instr.fieldAt 45 t5 2) fun t139 =>
 A6 PR (Instr.loadAt 36 t139) fun t140 =>
 B3 PR X 49 [t131, t138, t140] fun t141 =>
 A0 PR (Instr.extract t141 0) fun t142 =>
 A0 PR (Instr.extract t141 1) fun t143 =>
 A0 PR (A9 t1) fun t144 =>
 A0 PR (Instr.fieldAt 110 t144 5) fun t145 =>
 C2 PR X (Instr.storeAt 107 t145 t142) <|
 R (.tuple #[])) (
 R (.tuple #[]))) (
 A0 PR (binOp .eql 3 t9 (.int .i64 5)) fun t147 =>
 B7 t147 (
 drw <|
 A0 PR (A9 t0) fun t149 =>
 A0 PR (Instr.fieldAt 74 t149 2) fun t150 =>
 A6 PR (Instr.loadAt 70 t150) fun t151 =>
 A0 PR (Instr.fieldAt 45 t5 1) fun t152 =>
 A6 PR (Instr.loadAt 3 t152) fun t153 =>
 B3 PR X 50 [t151, t153] fun t154 =>
 drw <|
 A0 PR (A9 t1) fun t158 =>
 A0 PR (Instr.fieldAt 110 t158 5) fun t159 =>
 A6 PR (Instr.loadAt 107 t159) fun t160 =>
 A0 PR (Instr.fieldAt 45 t5 1) fun t161 =>
 A6 PR (Instr.loadAt 3 t161) fun t162 =>
 B3 PR X 51 [t160, t162] fun t163 =>
 A0 PR (Instr.extract t163 0) fun t164 =>
 A0 PR (Instr.extract t163 1) fun t165 =>
 A0 PR (A9 t1) fun t166 =>
 A0 PR (Instr.fieldAt 110 t166 5) fun t167 =>
 C2 PR X (Instr.storeAt 107 t167 t164) <|
 R (.tuple #[])) (
 A0 PR (binOp .eql 3 t9 (.int .i64 6)) fun t169 =>
 B7 t169 (
 drw <|
 A0 PR (Instr.fieldAt 45 t5 1) fun t170 =>
 A6 PR (Instr.loadAt 3 t170) fun t171 =>
 A0 PR (binOp .geq 3 t171 (.int .i64 (-1))) fun t172 =>
 gj t172 true (fun J => A0 PR (Instr.fieldAt 45 t5 1) J) fun t174 =>
 gj t172 true (fun J => A6 PR (Instr.loadAt 3 t174) J) fun t175 =>
 gj t172 true (fun J => J t1) fun t176 =>
 gj t172 true (fun J => A0 PR (A9 t176) J) fun t177 =>
 gj t172 true (fun J => A0 PR (Instr.fieldAt 110 t177 0) J) fun t178 =>
 gj t172 true (fun J => A0 PR (Instr.fieldAt 23 t178 4) J) fun t179 =>
 gj t172 true (fun J => A6 PR (Instr.loadAt 3 t179) J) fun t180 =>
 gj t172 true (fun J => A0 PR (binOp .lss 3 t175 t180) J) fun t181 =>
 A0 PR (do pure (if ← asBool t172 then t181 else (.bool false))) fun t182 =>
 B7 t182 (
 drw <|
 A0 PR (A9 t0) fun t184 =>
 A0 PR (Instr.fieldAt 74 t184 1) fun t185 =>
 A6 PR (Instr.loadAt 69 t185) fun t186 =>
 A0 PR (Instr.fieldAt 45 t5 1) fun t187 =>
 A6 PR (Instr.loadAt 3 t187) fun t188 =>
 A0 PR (binOp .add 3 t188 (.int .i64 1)) fun t189 =>
 B3 PR X 52 [t186, (.int .i64 1), t189] fun t190 =>
 A0 PR (Instr.fieldAt 45 t5 1) fun t192 =>
 A6 PR (Instr.loadAt 3 t192) fun t193 =>
 A0 PR (binOp .add 3 t193 (.int .i64 1)) fun t194 =>
 A0 PR (A9 t1) fun t195 =>
 A0 PR (Instr.fieldAt 110 t195 2) fun t196 =>
 C2 PR X (Instr.storeAt 3 t196 t194) <|
 R (.tuple #[])) (
 R (.tuple #[]))) (
 A0 PR (binOp .eql 3 t9 (.int .i64 7)) fun t198 =>
 B7 t198 (
 A0 PR (Instr.fieldAt 45 t5 1) fun t200 =>
 A6 PR (Instr.loadAt 3 t200) fun t201 =>
 B3 PR X 53 [t0, t201] fun t202 =>
 A0 PR (Instr.fieldAt 45 t5 1) fun t204 =>
 A6 PR (Instr.loadAt 3 t204) fun t205 =>
 B3 PR X 54 [t1, t205] fun t206 =>
 R (.tuple #[])) (
 R (.tuple #[]))))))))
theorem A4j : B2 PR 14 := A7 Tryz.func14 (by kernel_rfl) rfl
theorem A4y {X : Nat → Prop} {t0 t1 t2 : Value} {R : Value → WP} {w : World} (h : y0 X t0 t1 t2 R w) : Fn PR X 14 #[t0, t1, t2] w R := C9 (args := [t0, t1, t2]) mixed Tryz.func14 (by kernel_rfl) h
def A1a (X : Nat → Prop) (t0 t1 : Value) (R : Value → WP) : WP :=
 jn (n := 1) (fun t4 =>
 jn (n := 2) (fun t4_1 t5 =>
 jn (n := 2) (fun t4_2 t6 =>
 drw <|
 A0 PR (A9 t1) fun t138 =>
 A0 PR (Instr.fieldAt 110 t138 4) fun t139 =>
 A6 PR (Instr.loadAt 54 t139) fun t140 =>
 B3 PR X 89 [t0] fun t136 =>
 watch PR [(none, (Instr.loadAt 54 t139), t140)] <|
 B3 PR X 88 [t136, t140] fun t141 =>
 R t141) fun J1 =>
 lp (n := 2) (fun L2 t4_3 t6_1 =>
 jn (n := 0) (
 jn (n := 1) (fun t4_4 =>
 A0 PR (binOp .add 3 t6_1 (.int .i64 1)) fun t100 =>
 L2 t4_4 t100) fun J3 =>
 drw <|
 A0 PR (A9 t0) fun t102 =>
 A0 PR (Instr.fieldAt 74 t102 4) fun t103 =>
 A6 PR (Instr.loadAt 72 t103) fun t104 =>
 A0 PR (Instr.indexAt 72 t104 t6_1) fun t106 =>
 A6 PR (Instr.loadAt 55 t106) fun t107 =>
 A0 PR (A9 t1) fun t109 =>
 A0 PR (Instr.fieldAt 110 t109 7) fun t110 =>
 A6 PR (Instr.loadAt 72 t110) fun t111 =>
 A0 PR (Instr.indexAt 72 t111 t6_1) fun t113 =>
 A6 PR (Instr.loadAt 55 t113) fun t114 =>
 B3 PR X 27 [t107, t114] fun t115 =>
 drw <|
 A0 PR (Op.unary .not t115) fun t117 =>
 gj t117 false (fun J => J t0) fun t119 =>
 gj t117 false (fun J => A0 PR (A9 t119) J) fun t120 =>
 gj t117 false (fun J => A0 PR (Instr.fieldAt 74 t120 5) J) fun t121 =>
 gj t117 false (fun J => A6 PR (Instr.loadAt 54 t121) J) fun t122 =>
 gj t117 false (fun J => J t6_1) fun t123 =>
 gj t117 false (fun J => A0 PR (Instr.indexAt 54 t122 t123) J) fun t124 =>
 gj t117 false (fun J => A6 PR (Instr.loadAt 3 t124) J) fun t125 =>
 gj t117 false (fun J => J t1) fun t126 =>
 gj t117 false (fun J => A0 PR (A9 t126) J) fun t127 =>
 gj t117 false (fun J => A0 PR (Instr.fieldAt 110 t127 8) J) fun t128 =>
 gj t117 false (fun J => A6 PR (Instr.loadAt 54 t128) J) fun t129 =>
 gj t117 false (fun J => J t6_1) fun t130 =>
 gj t117 false (fun J => A0 PR (Instr.indexAt 54 t129 t130) J) fun t131 =>
 gj t117 false (fun J => A6 PR (Instr.loadAt 3 t131) J) fun t132 =>
 gj t117 false (fun J => A0 PR (binOp .neq 3 t125 t132) J) fun t133 =>
 A0 PR (do pure (if ← asBool t117 then (.bool true) else t133)) fun t134 =>
 B7 t134 (
 R (.bool false)) (
 J3 t4_3)) fun J4 =>
 A0 PR (A9 t1) fun t94 =>
 A0 PR (Instr.fieldAt 110 t94 7) fun t95 =>
 A6 PR (Instr.loadAt 72 t95) fun t96 =>
 A0 PR (A8 .len #[72] 0 [t96]) fun t97 =>
 A0 PR (binOp .lss 3 t6_1 t97) fun t98 =>
 B7 t98 (
 J4) (
 J1 t4_3 t6_1)) t4_1 (.int .i64 0)) fun J5 =>
 lp (n := 2) (fun L6 t4_5 t5_1 =>
 jn (n := 0) (
 jn (n := 1) (fun t4_6 =>
 A0 PR (binOp .add 3 t5_1 (.int .i64 1)) fun t75 =>
 L6 t4_6 t75) fun J7 =>
 drw <|
 A0 PR (A9 t0) fun t77 =>
 A0 PR (Instr.fieldAt 74 t77 1) fun t78 =>
 A6 PR (Instr.loadAt 69 t78) fun t79 =>
 A0 PR (A9 t1) fun t85 =>
 A0 PR (Instr.fieldAt 110 t85 3) fun t86 =>
 A6 PR (Instr.loadAt 54 t86) fun t87 =>
 A0 PR (Instr.indexAt 54 t87 t5_1) fun t89 =>
 A6 PR (Instr.loadAt 3 t89) fun t90 =>
 B3 PR X 87 [t0, t5_1] fun t82 =>
 watch PR [(none, (Instr.loadAt 3 t89), t90), (none, (Instr.loadAt 54 t86), t87), (none, (Instr.loadAt 69 t78), t79)] <|
 B3 PR X 25 [t79, t82] fun t83 =>
 watch PR [(none, (Instr.loadAt 3 t89), t90), (none, (Instr.loadAt 54 t86), t87)] <|
 A0 PR (binOp .neq 3 t83 t90) fun t91 =>
 B7 t91 (
 R (.bool false)) (
 J7 t4_5)) fun J8 =>
 A0 PR (A9 t1) fun t69 =>
 A0 PR (Instr.fieldAt 110 t69 3) fun t70 =>
 A6 PR (Instr.loadAt 54 t70) fun t71 =>
 A0 PR (A8 .len #[54] 0 [t71]) fun t72 =>
 A0 PR (binOp .lss 3 t5_1 t72) fun t73 =>
 B7 t73 (
 J8) (
 J5 t4_5 t5_1)) t4 (.int .i64 1)) fun J9 =>
 drw <|
 A0 PR (A9 t0) fun t9 =>
 A0 PR (Instr.fieldAt 74 t9 1) fun t10 =>
 A6 PR (Instr.loadAt 69 t10) fun t11 =>
 A0 PR (A9 t1) fun t14 =>
 A0 PR (Instr.fieldAt 110 t14 1) fun t15 =>
 A6 PR (Instr.loadAt 3 t15) fun t16 =>
 B3 PR X 25 [t11, (.int .i64 0)] fun t12 =>
 watch PR [(none, (Instr.loadAt 3 t15), t16)] <|
 A0 PR (binOp .neq 3 t12 t16) fun t17 =>
 gj t17 false (fun J => J t0) fun t19 =>
 gj t17 false (fun J => A0 PR (A9 t19) J) fun t20 =>
 gj t17 false (fun J => A0 PR (Instr.fieldAt 74 t20 1) J) fun t21 =>
 gj t17 false (fun J => A6 PR (Instr.loadAt 69 t21) J) fun t22 =>
 gj t17 false (fun J => J t1) fun t24 =>
 gj t17 false (fun J => A0 PR (A9 t24) J) fun t25 =>
 gj t17 false (fun J => A0 PR (Instr.fieldAt 110 t25 2) J) fun t26 =>
 gj t17 false (fun J => A6 PR (Instr.loadAt 3 t26) J) fun t27 =>
 gj t17 false (fun J => B3 PR X 25 [t22, (.int .i64 1)] J) fun t23 =>
 watch PR [((some (t17, false)), (Instr.loadAt 3 t26), t27)] <|
 gj t17 false (fun J => A0 PR (binOp .neq 3 t23 t27) J) fun t28 =>
 A0 PR (do pure (if ← asBool t17 then (.bool true) else t28)) fun t29 =>
 gj t29 false (fun J => J t0) fun t31 =>
 gj t29 false (fun J => A0 PR (A9 t31) J) fun t32 =>
 gj t29 false (fun J => A0 PR (Instr.fieldAt 74 t32 6) J) fun t33 =>
 gj t29 false (fun J => A6 PR (Instr.loadAt 3 t33) J) fun t34 =>
 gj t29 false (fun J => J t1) fun t35 =>
 gj t29 false (fun J => A0 PR (A9 t35) J) fun t36 =>
 gj t29 false (fun J => A0 PR (Instr.fieldAt 110 t36 9) J) fun t37 =>
 gj t29 false (fun J => A6 PR (Instr.loadAt 3 t37) J) fun t38 =>
 gj t29 false (fun J => A0 PR (binOp .neq 3 t34 t38) J) fun t39 =>
 A0 PR (do pure (if ← asBool t29 then (.bool true) else t39)) fun t40 =>
 gj t40 false (fun J => J t0) fun t42 =>
 gj t40 false (fun J => A0 PR (A9 t42) J) fun t43 =>
 gj t40 false (fun J => A0 PR (Instr.fieldAt 74 t43 4) J) fun t44 =>
 gj t40 false (fun J => A6 PR (Instr.loadAt 72 t44) J) fun t45 =>
 gj t40 false (fun J => A0 PR (A8 .len #[72] 0 [t45]) J) fun t46 =>
 gj t40 false (fun J => J t1) fun t47 =>
 gj t40 false (fun J => A0 PR (A9 t47) J) fun t48 =>
 gj t40 false (fun J => A0 PR (Instr.fieldAt 110 t48 7) J) fun t49 =>
 gj t40 false (fun J => A6 PR (Instr.loadAt 72 t49) J) fun t50 =>
 gj t40 false (fun J => A0 PR (A8 .len #[72] 0 [t50]) J) fun t51 =>
 gj t40 false (fun J => A0 PR (binOp .neq 3 t46 t51) J) fun t52 =>
 A0 PR (do pure (if ← asBool t40 then (.bool true) else t52)) fun t53 =>
 gj t53 false (fun J => J t0) fun t55 =>
 gj t53 false (fun J => A0 PR (A9 t55) J) fun t56 =>
 gj t53 false (fun J => A0 PR (Instr.fieldAt 74 t56 5) J) fun t57 =>
 gj t53 false (fun J => A6 PR (Instr.loadAt 54 t57) J) fun t58 =>
 gj t53 false (fun J => A0 PR (A8 .len #[54] 0 [t58]) J) fun t59 =>
 gj t53 false (fun J => J t1) fun t60 =>
 gj t53 false (fun J => A0 PR (A9 t60) J) fun t61 =>
 gj t53 false (fun J => A0 PR (Instr.fieldAt 110 t61 8) J) fun t62 =>
 gj t53 false (fun J => A6 PR (Instr.loadAt 54 t62) J) fun t63 =>
 gj t53 false (fun J => A0 PR (A8 .len #[54] 0 [t63]) J) fun t64 =>
 gj t53 false (fun J => A0 PR (binOp .neq 3 t59 t64) J) fun t65 =>
 A0 PR (do pure (if ← asBool t53 then (.bool true) else t65)) fun t66 =>
 B7 t66 (
 R (.bool false)) (
 J9 (.bool false))
theorem A5y : B2 PR 63 := A7 Tryz.func63 (by kernel_rfl) rfl
theorem A6n {X : Nat → Prop} {t0 t1 : Value} {R : Value → WP} {w : World} (h : A1a X t0 t1 R w) : Fn PR X 63 #[t0, t1] w R := C9 (args := [t0, t1]) mixed Tryz.func63 (by kernel_rfl) h
end Go.Proofs.YtpnidmkaobfhiaaGreat
namespace Go.Proofs.YtpnidmkaobfhiaaGreat
open Go
def A17 (X : Nat → Prop) (t0 : Value) (R : Value → WP) : WP :=
 A0 PR (A8 .min #[3, 3] 0 [t0, (.int .i64 8)]) fun t4 =>
 A0 PR (A8 .max #[3, 3] 0 [(.int .i64 0), t4]) fun t5 =>
 B9 PR X (Instr.makeSlice 108 t5 t5) fun t6 =>
 R t6
theorem A6u : B2 PR 42 := A7 Tryz.func42 (by kernel_rfl) rfl
theorem A8E {X : Nat → Prop} {t0 : Value} {R : Value → WP} {w : World} (h : A17 X t0 R w) : Fn PR X 42 #[t0] w R := C9 (args := [t0]) mixed Tryz.func42 (by kernel_rfl) h
def A0c (X : Nat → Prop) (t0 t1 : Value) (R : Value → WP) : WP :=
 jn (n := 1) (fun t4 =>
 A0 PR (Instr.indexAt 108 t0 t1) fun t15 =>
 A0 PR (Instr.fieldAt 186 t15 0) fun t16 =>
 A6 PR (Instr.loadAt 3 t16) fun t17 =>
 R t17) fun J1 =>
 A0 PR (binOp .lss 3 t1 (.int .i64 0)) fun t6 =>
 gj t6 false (fun J => J t1) fun t8 =>
 gj t6 false (fun J => J t0) fun t9 =>
 gj t6 false (fun J => A0 PR (A8 .len #[108] 0 [t9]) J) fun t10 =>
 gj t6 false (fun J => A0 PR (binOp .geq 3 t8 t10) J) fun t11 =>
 A0 PR (do pure (if ← asBool t6 then (.bool true) else t11)) fun t12 =>
 B7 t12 (
 R (.int .i64 (-1))) (
 J1 (.int .i64 0))
theorem d6 : B2 PR 62 := A7 Tryz.func62 (by kernel_rfl) rfl
theorem A53 {X : Nat → Prop} {t0 t1 : Value} {R : Value → WP} {w : World} (h : A0c X t0 t1 R w) : Fn PR X 62 #[t0, t1] w R := C9 (args := [t0, t1]) mixed Tryz.func62 (by kernel_rfl) h
def z8 (X : Nat → Prop) (t0 t1 t2 : Value) (R : Value → WP) : WP :=
 jn (n := 2) (fun t6 t7 =>
 A0 PR (Instr.build 186 #[(0, (.int .i64 2)), (1, t2)]) fun t16 =>
 B3 PR X 106 [t0, t1, t16] fun t17 =>
 R (.tuple #[t17, (.bool true)])) fun J1 =>
 B3 PR X 62 [t0, t1] fun t10 =>
 A0 PR (binOp .neq 3 t10 (.int .i64 1)) fun t11 =>
 B7 t11 (
 R (.tuple #[t0, (.bool false)])) (
 J1 (.slice none 0 0) (.bool false))
theorem A4b : B2 PR 83 := A7 Tryz.func83 (by kernel_rfl) rfl
theorem A42 {X : Nat → Prop} {t0 t1 t2 : Value} {R : Value → WP} {w : World} (h : z8 X t0 t1 t2 R w) : Fn PR X 83 #[t0, t1, t2] w R := C9 (args := [t0, t1, t2]) mixed Tryz.func83 (by kernel_rfl) h
def A09 (X : Nat → Prop) (t0 t1 : Value) (R : Value → WP) : WP :=
 jn (n := 2) (fun t4 t5 =>
 R (.int .i64 (-1))) fun J1 =>
 lp (n := 2) (fun L2 t4_1 t5_1 =>
 jn (n := 0) (
 jn (n := 1) (fun t4_2 =>
 A0 PR (binOp .add 3 t5_1 (.int .i64 1)) fun t11 =>
 L2 t4_2 t11) fun J3 =>
 A0 PR (Instr.indexAt 108 t0 t5_1) fun t14 =>
 A0 PR (Instr.fieldAt 186 t14 0) fun t15 =>
 A6 PR (Instr.loadAt 3 t15) fun t16 =>
 A0 PR (binOp .eql 3 t16 (.int .i64 2)) fun t17 =>
 gj t17 true (fun J => J t1) fun t19 =>
 gj t17 true (fun J => J t0) fun t20 =>
 gj t17 true (fun J => J t5_1) fun t21 =>
 gj t17 true (fun J => A0 PR (Instr.indexAt 108 t20 t21) J) fun t22 =>
 gj t17 true (fun J => A0 PR (Instr.fieldAt 186 t22 1) J) fun t23 =>
 gj t17 true (fun J => A6 PR (Instr.loadAt 3 t23) J) fun t24 =>
 gj t17 true (fun J => B3 PR X 134 [t19, t24] J) fun t25 =>
 A0 PR (do pure (if ← asBool t17 then t25 else (.bool false))) fun t26 =>
 B7 t26 (
 R t5_1) (
 J3 t4_1)) fun J4 =>
 A0 PR (A8 .len #[108] 0 [t0]) fun t8 =>
 A0 PR (binOp .lss 3 t5_1 t8) fun t9 =>
 B7 t9 (
 J4) (
 J1 t4_1 t5_1)) (.int .i64 0) (.int .i64 0)
theorem f8 : B2 PR 103 := A7 Tryz.func103 (by kernel_rfl) rfl
theorem A7V {X : Nat → Prop} {t0 t1 : Value} {R : Value → WP} {w : World} (h : A09 X t0 t1 R w) : Fn PR X 103 #[t0, t1] w R := C9 (args := [t0, t1]) mixed Tryz.func103 (by kernel_rfl) h
def A1T (X : Nat → Prop) (t0 t1 : Value) (R : Value → WP) : WP :=
 jn (n := 2) (fun t4 t5 =>
 A0 PR (Instr.build 186 #[]) fun t13 =>
 B3 PR X 106 [t0, t1, t13] fun t14 =>
 R (.tuple #[t14, (.bool true)])) fun J1 =>
 B3 PR X 62 [t0, t1] fun t8 =>
 A0 PR (binOp .neq 3 t8 (.int .i64 2)) fun t9 =>
 B7 t9 (
 R (.tuple #[t0, (.bool false)])) (
 J1 (.slice none 0 0) (.bool false))
theorem A5Y : B2 PR 104 := A7 Tryz.func104 (by kernel_rfl) rfl
theorem A7D {X : Nat → Prop} {t0 t1 : Value} {R : Value → WP} {w : World} (h : A1T X t0 t1 R w) : Fn PR X 104 #[t0, t1] w R := C9 (args := [t0, t1]) mixed Tryz.func104 (by kernel_rfl) h
def A08 (X : Nat → Prop) (t0 : Value) (R : Value → WP) : WP :=
 jn (n := 3) (fun t2 t3 t4 =>
 R (.tuple #[t0, (.int .i64 (-1))])) fun J1 =>
 lp (n := 3) (fun L2 t2_1 t3_1 t4_1 =>
 jn (n := 0) (
 jn (n := 2) (fun t2_2 t3_2 =>
 A0 PR (binOp .add 3 t4_1 (.int .i64 1)) fun t10 =>
 L2 t2_2 t3_2 t10) fun J3 =>
 A0 PR (Instr.indexAt 108 t0 t4_1) fun t13 =>
 A0 PR (Instr.fieldAt 186 t13 0) fun t14 =>
 A6 PR (Instr.loadAt 3 t14) fun t15 =>
 A0 PR (binOp .eql 3 t15 (.int .i64 0)) fun t16 =>
 B7 t16 (
 A0 PR (Instr.build 186 #[(0, (.int .i64 1))]) fun t19 =>
 B3 PR X 106 [t0, t4_1, t19] fun t20 =>
 R (.tuple #[t20, t4_1])) (
 J3 t2_1 t3_1)) fun J4 =>
 A0 PR (A8 .len #[108] 0 [t0]) fun t7 =>
 A0 PR (binOp .lss 3 t4_1 t7) fun t8 =>
 B7 t8 (
 J4) (
 J1 t2_1 t3_1 t4_1)) (.slice none 0 0) (.int .i64 0) (.int .i64 0)
theorem A0l : B2 PR 105 := A7 Tryz.func105 (by kernel_rfl) rfl
theorem A6q {X : Nat → Prop} {t0 : Value} {R : Value → WP} {w : World} (h : A08 X t0 R w) : Fn PR X 105 #[t0] w R := C9 (args := [t0]) mixed Tryz.func105 (by kernel_rfl) h
def A00 (X : Nat → Prop) (t0 t1 t2 : Value) (R : Value → WP) : WP :=
 B9 PR X (Instr.box 186 t2) fun t5 =>
 B9 PR X (Instr.buildSlice 108 0 #[]) fun t8 =>
 B9 PR X (A8 .append #[108, 108] 108 [t8, t0]) fun t10 =>
 A6 PR (Instr.loadAt 186 t5) fun t13 =>
 A0 PR (Instr.indexAt 108 t10 t1) fun t14 =>
 C2 PR X (Instr.storeAt 186 t14 t13) <|
 R t10
theorem f5 : B2 PR 106 := A7 Tryz.func106 (by kernel_rfl) rfl
theorem A62 {X : Nat → Prop} {t0 t1 t2 : Value} {R : Value → WP} {w : World} (h : A00 X t0 t1 t2 R w) : Fn PR X 106 #[t0, t1, t2] w R := C9 (args := [t0, t1, t2]) mixed Tryz.func106 (by kernel_rfl) h
def A0b (X : Nat → Prop) (t0 t1 : Value) (R : Value → WP) : WP :=
 jn (n := 2) (fun t4 t5 =>
 R (.bool true)) fun J1 =>
 lp (n := 2) (fun L2 t4_1 t5_1 =>
 jn (n := 0) (
 jn (n := 1) (fun t4_2 =>
 A0 PR (binOp .add 3 t5_1 (.int .i64 1)) fun t11 =>
 L2 t4_2 t11) fun J3 =>
 A0 PR (Instr.indexAt 54 t0 t5_1) fun t14 =>
 A6 PR (Instr.loadAt 3 t14) fun t15 =>
 A0 PR (binOp .neq 3 t15 (.int .i64 0)) fun t16 =>
 gj t16 true (fun J => J t0) fun t18 =>
 gj t16 true (fun J => J t5_1) fun t19 =>
 gj t16 true (fun J => A0 PR (Instr.indexAt 54 t18 t19) J) fun t20 =>
 gj t16 true (fun J => A6 PR (Instr.loadAt 3 t20) J) fun t21 =>
 gj t16 true (fun J => J t1) fun t22 =>
 gj t16 true (fun J => A0 PR (binOp .leq 3 t21 t22) J) fun t23 =>
 A0 PR (do pure (if ← asBool t16 then t23 else (.bool false))) fun t24 =>
 B7 t24 (
 R (.bool false)) (
 J3 t4_1)) fun J4 =>
 A0 PR (A8 .len #[54] 0 [t0]) fun t8 =>
 A0 PR (binOp .lss 3 t5_1 t8) fun t9 =>
 B7 t9 (
 J4) (
 J1 t4_1 t5_1)) (.bool false) (.int .i64 0)
theorem A48 : B2 PR 134 := A7 Tryz.func134 (by kernel_rfl) rfl
theorem A5W {X : Nat → Prop} {t0 t1 : Value} {R : Value → WP} {w : World} (h : A0b X t0 t1 R w) : Fn PR X 134 #[t0, t1] w R := C9 (args := [t0, t1]) mixed Tryz.func134 (by kernel_rfl) h
end Go.Proofs.YtpnidmkaobfhiaaGreat
namespace Go.Proofs.YtpnidmkaobfhiaaGreat
open Go
def A2C (X : Nat → Prop) (t0 : Value) (R : Value → WP) : WP :=
 A0 PR (A8 .min #[3, 3] 0 [t0, (.int .i64 8)]) fun t4 =>
 A0 PR (A8 .max #[3, 3] 0 [(.int .i64 0), t4]) fun t5 =>
 B9 PR X (Instr.makeSlice 107 t5 t5) fun t6 =>
 R t6
theorem A7U : B2 PR 41 := A7 Tryz.func41 (by kernel_rfl) rfl
theorem A8U {X : Nat → Prop} {t0 : Value} {R : Value → WP} {w : World} (h : A2C X t0 R w) : Fn PR X 41 #[t0] w R := C9 (args := [t0]) mixed Tryz.func41 (by kernel_rfl) h
def A0V (X : Nat → Prop) (t0 t1 : Value) (R : Value → WP) : WP :=
 jn (n := 2) (fun t4 t5 =>
 A0 PR (Instr.build 179 #[(0, (.int .i64 1))]) fun t13 =>
 B3 PR X 80 [t0, t1, t13] fun t14 =>
 R (.tuple #[t14, (.bool true)])) fun J1 =>
 B3 PR X 79 [t0, t1] fun t8 =>
 A0 PR (Op.unary .not t8) fun t9 =>
 B7 t9 (
 R (.tuple #[t0, (.bool false)])) (
 J1 (.slice none 0 0) (.bool false))
theorem y7 : B2 PR 48 := A7 Tryz.func48 (by kernel_rfl) rfl
theorem A5m {X : Nat → Prop} {t0 t1 : Value} {R : Value → WP} {w : World} (h : A0V X t0 t1 R w) : Fn PR X 48 #[t0, t1] w R := C9 (args := [t0, t1]) mixed Tryz.func48 (by kernel_rfl) h
def A1C (X : Nat → Prop) (t0 t1 t2 : Value) (R : Value → WP) : WP :=
 jn (n := 2) (fun t6 t7 =>
 A0 PR (Instr.build 179 #[(0, (.int .i64 2)), (1, t2)]) fun t29 =>
 B3 PR X 80 [t0, t1, t29] fun t30 =>
 R (.tuple #[t30, (.bool true)])) fun J1 =>
 B3 PR X 79 [t0, t1] fun t10 =>
 A0 PR (Op.unary .not t10) fun t11 =>
 gj t11 false (fun J => J t0) fun t13 =>
 gj t11 false (fun J => J t1) fun t14 =>
 gj t11 false (fun J => A0 PR (Instr.indexAt 107 t13 t14) J) fun t15 =>
 gj t11 false (fun J => A0 PR (Instr.fieldAt 179 t15 0) J) fun t16 =>
 gj t11 false (fun J => A6 PR (Instr.loadAt 3 t16) J) fun t17 =>
 gj t11 false (fun J => A0 PR (binOp .neq 3 t17 (.int .i64 1)) J) fun t18 =>
 A0 PR (do pure (if ← asBool t11 then (.bool true) else t18)) fun t19 =>
 gj t19 false (fun J => J t2) fun t21 =>
 gj t19 false (fun J => B3 PR X 81 [t21] J) fun t22 =>
 gj t19 false (fun J => A0 PR (binOp .neq 31 t22 (.int .i64 0)) J) fun t23 =>
 A0 PR (do pure (if ← asBool t19 then (.bool true) else t23)) fun t24 =>
 B7 t24 (
 R (.tuple #[t0, (.bool false)])) (
 J1 (.slice none 0 0) (.bool false))
theorem A0m : B2 PR 49 := A7 Tryz.func49 (by kernel_rfl) rfl
theorem A6z {X : Nat → Prop} {t0 t1 t2 : Value} {R : Value → WP} {w : World} (h : A1C X t0 t1 t2 R w) : Fn PR X 49 #[t0, t1, t2] w R := C9 (args := [t0, t1, t2]) mixed Tryz.func49 (by kernel_rfl) h
def A0e (X : Nat → Prop) (t0 t1 : Value) (R : Value → WP) : WP :=
 jn (n := 2) (fun t4 t5 =>
 A0 PR (Instr.build 179 #[]) fun t13 =>
 B3 PR X 80 [t0, t1, t13] fun t14 =>
 R (.tuple #[t14, (.bool true)])) fun J1 =>
 B3 PR X 79 [t0, t1] fun t8 =>
 A0 PR (Op.unary .not t8) fun t9 =>
 B7 t9 (
 R (.tuple #[t0, (.bool false)])) (
 J1 (.slice none 0 0) (.bool false))
theorem y5 : B2 PR 51 := A7 Tryz.func51 (by kernel_rfl) rfl
theorem A5e {X : Nat → Prop} {t0 t1 : Value} {R : Value → WP} {w : World} (h : A0e X t0 t1 R w) : Fn PR X 51 #[t0, t1] w R := C9 (args := [t0, t1]) mixed Tryz.func51 (by kernel_rfl) h
def A1Y (X : Nat → Prop) (t0 t1 : Value) (R : Value → WP) : WP :=
 jn (n := 2) (fun t4 t5 =>
 A0 PR (Instr.indexAt 107 t0 t1) fun t12 =>
 A0 PR (Instr.fieldAt 179 t12 1) fun t13 =>
 A6 PR (Instr.loadAt 36 t13) fun t14 =>
 A0 PR (A8 .len #[36] 0 [t14]) fun t15 =>
 R (.tuple #[t15, (.bool true)])) fun J1 =>
 B3 PR X 86 [t0, t1] fun t8 =>
 A0 PR (Op.unary .not t8) fun t9 =>
 B7 t9 (
 R (.tuple #[(.int .i64 0), (.bool false)])) (
 J1 (.int .i64 0) (.bool false))
theorem A55 : B2 PR 60 := A7 Tryz.func60 (by kernel_rfl) rfl
theorem A61 {X : Nat → Prop} {t0 t1 : Value} {R : Value → WP} {w : World} (h : A1Y X t0 t1 R w) : Fn PR X 60 #[t0, t1] w R := C9 (args := [t0, t1]) mixed Tryz.func60 (by kernel_rfl) h
def A2V (X : Nat → Prop) (t0 t1 : Value) (R : Value → WP) : WP :=
 A0 PR (binOp .geq 3 t1 (.int .i64 0)) fun t6 =>
 gj t6 true (fun J => J t1) fun t8 =>
 gj t6 true (fun J => J t0) fun t9 =>
 gj t6 true (fun J => A0 PR (A8 .len #[107] 0 [t9]) J) fun t10 =>
 gj t6 true (fun J => A0 PR (binOp .lss 3 t8 t10) J) fun t11 =>
 A0 PR (do pure (if ← asBool t6 then t11 else (.bool false))) fun t12 =>
 R t12
theorem Y7 : B2 PR 79 := A7 Tryz.func79 (by kernel_rfl) rfl
theorem A8q {X : Nat → Prop} {t0 t1 : Value} {R : Value → WP} {w : World} (h : A2V X t0 t1 R w) : Fn PR X 79 #[t0, t1] w R := C9 (args := [t0, t1]) mixed Tryz.func79 (by kernel_rfl) h
def A04 (X : Nat → Prop) (t0 t1 t2 : Value) (R : Value → WP) : WP :=
 B9 PR X (Instr.box 179 t2) fun t5 =>
 B9 PR X (Instr.buildSlice 107 0 #[]) fun t8 =>
 B9 PR X (A8 .append #[107, 107] 107 [t8, t0]) fun t10 =>
 A6 PR (Instr.loadAt 179 t5) fun t13 =>
 A0 PR (Instr.indexAt 107 t10 t1) fun t14 =>
 C2 PR X (Instr.storeAt 179 t14 t13) <|
 R t10
theorem g6 : B2 PR 80 := A7 Tryz.func80 (by kernel_rfl) rfl
theorem A6s {X : Nat → Prop} {t0 t1 t2 : Value} {R : Value → WP} {w : World} (h : A04 X t0 t1 t2 R w) : Fn PR X 80 #[t0, t1, t2] w R := C9 (args := [t0, t1, t2]) mixed Tryz.func80 (by kernel_rfl) h
def A0W (X : Nat → Prop) (t0 t1 : Value) (R : Value → WP) : WP :=
 B3 PR X 79 [t0, t1] fun t7 =>
 gj t7 true (fun J => J t0) fun t9 =>
 gj t7 true (fun J => J t1) fun t10 =>
 gj t7 true (fun J => A0 PR (Instr.indexAt 107 t9 t10) J) fun t11 =>
 gj t7 true (fun J => A0 PR (Instr.fieldAt 179 t11 0) J) fun t12 =>
 gj t7 true (fun J => A6 PR (Instr.loadAt 3 t12) J) fun t13 =>
 gj t7 true (fun J => A0 PR (binOp .eql 3 t13 (.int .i64 2)) J) fun t14 =>
 A0 PR (do pure (if ← asBool t7 then t14 else (.bool false))) fun t15 =>
 R t15
theorem A5J : B2 PR 86 := A7 Tryz.func86 (by kernel_rfl) rfl
theorem A5V {X : Nat → Prop} {t0 t1 : Value} {R : Value → WP} {w : World} (h : A0W X t0 t1 R w) : Fn PR X 86 #[t0, t1] w R := C9 (args := [t0, t1]) mixed Tryz.func86 (by kernel_rfl) h
end Go.Proofs.YtpnidmkaobfhiaaGreat
namespace Go.Proofs.YtpnidmkaobfhiaaGreat
open Go
def A2F (X : Nat → Prop) (t0 : Value) (R : Value → WP) : WP :=
 B9 PR X (Instr.box 23 t0) fun t1 =>
 drw <|
 kt (n := 1) (fun t3 =>
 jn (n := 1) (fun t4 =>
 A0 PR (Instr.fieldAt 23 t1 4) fun t43 =>
 A6 PR (Instr.loadAt 3 t43) fun t44 =>
 B3 PR X 41 [t44] fun t45 =>
 A0 PR (A9 t3) fun t46 =>
 A0 PR (Instr.fieldAt 110 t46 5) fun t47 =>
 C2 PR X (Instr.storeAt 107 t47 t45) <|
 A0 PR (Instr.fieldAt 23 t1 4) fun t49 =>
 A6 PR (Instr.loadAt 3 t49) fun t50 =>
 B3 PR X 42 [t50] fun t51 =>
 A0 PR (A9 t3) fun t52 =>
 A0 PR (Instr.fieldAt 110 t52 6) fun t53 =>
 C2 PR X (Instr.storeAt 108 t53 t51) <|
 R t3) fun J1 =>
 lp (n := 1) (fun L2 t4_1 =>
 jn (n := 0) (
 jn (n := 0) (
 A0 PR (binOp .add 3 t4_1 (.int .i64 1)) fun t20 =>
 L2 t20) fun J3 =>
 A0 PR (A9 t3) fun t23 =>
 A0 PR (Instr.fieldAt 110 t23 4) fun t24 =>
 A6 PR (Instr.loadAt 54 t24) fun t25 =>
 B9 PR X (Instr.buildSlice 54 1 #[(0, (.int .i64 (-1)))]) fun t26 =>
 B9 PR X (A8 .append #[54, 54] 54 [t25, t26]) fun t27 =>
 A0 PR (A9 t3) fun t28 =>
 A0 PR (Instr.fieldAt 110 t28 4) fun t29 =>
 C2 PR X (Instr.storeAt 54 t29 t27) <|
 drw <|
 A0 PR (A9 t3) fun t32 =>
 A0 PR (Instr.fieldAt 110 t32 7) fun t33 =>
 A6 PR (Instr.loadAt 72 t33) fun t34 =>
 A0 PR (Instr.fieldAt 23 t1 2) fun t35 =>
 A6 PR (Instr.loadAt 3 t35) fun t36 =>
 B3 PR X 40 [t36] fun t37 =>
 watch PR [(none, (Instr.loadAt 72 t33), t34)] <|
 B9 PR X (Instr.buildSlice 72 1 #[(0, t37)]) fun t38 =>
 watch PR [(none, (Instr.loadAt 72 t33), t34)] <|
 B9 PR X (A8 .append #[72, 72] 72 [t34, t38]) fun t39 =>
 A0 PR (A9 t3) fun t40 =>
 A0 PR (Instr.fieldAt 110 t40 7) fun t41 =>
 C2 PR X (Instr.storeAt 72 t41 t39) <|
 J3) fun J4 =>
 A0 PR (Instr.fieldAt 23 t1 1) fun t16 =>
 A6 PR (Instr.loadAt 3 t16) fun t17 =>
 A0 PR (binOp .lss 3 t4_1 t17) fun t18 =>
 B7 t18 (
 J4) (
 J1 t4_1)) (.int .i64 0)) fun C5 =>
 A6 PR (Instr.loadAt 23 t1) fun t5_1 =>
 A0 PR (Instr.fieldAt 23 t1 0) fun t6_1 =>
 A6 PR (Instr.loadAt 3 t6_1) fun t7_1 =>
 A0 PR (binOp .add 3 t7_1 (.int .i64 1)) fun t8_1 =>
 A0 PR (Instr.fieldAt 23 t1 1) fun t10_1 =>
 A6 PR (Instr.loadAt 3 t10_1) fun t11_1 =>
 both (B9 PR X (Instr.makeSlice 54 t8_1 t8_1) fun t9_2 =>
 watch PR [(none, (Instr.loadAt 3 t10_1), t11_1), (none, (Instr.loadAt 23 t1), t5_1)] <|
 B9 PR X (Instr.makeSlice 54 t11_1 t11_1) fun t12_2 =>
 watch PR [(none, (Instr.loadAt 23 t1), t5_1)] <|
 A0 PR (Instr.build 110 #[(0, t5_1), (3, t9_2), (8, t12_2)]) fun t13_2 =>
 B9 PR X (Instr.box 110 t13_2) fun t14_2 =>
 C5 t14_2) (both (B9 PR X (Instr.makeSlice 54 t11_1 t11_1) fun t12_1 =>
 watch PR [(none, (Instr.loadAt 3 t6_1), t7_1), (none, (Instr.loadAt 23 t1), t5_1)] <|
 B9 PR X (Instr.makeSlice 54 t8_1 t8_1) fun t9_1 =>
 watch PR [(none, (Instr.loadAt 23 t1), t5_1)] <|
 A0 PR (Instr.build 110 #[(0, t5_1), (3, t9_1), (8, t12_1)]) fun t13_1 =>
 B9 PR X (Instr.box 110 t13_1) fun t14_1 =>
 C5 t14_1) ((fun _ => True)))
theorem A7A : B2 PR 12 := A7 Tryz.func12 (by kernel_rfl) rfl
theorem A75 {X : Nat → Prop} {t0 : Value} {R : Value → WP} {w : World} (h : A2F X t0 R w) : Fn PR X 12 #[t0] w R := C9 (args := [t0]) mixed Tryz.func12 (by kernel_rfl) h
def p4 (X : Nat → Prop) (t0 t1 : Value) (R : Value → WP) : WP :=
 A0 PR (binOp .geq 3 t1 (.int .i64 0)) fun t5 =>
 gj t5 true (fun J => J t1) fun t7 =>
 gj t5 true (fun J => A0 PR (binOp .leq 3 t7 (.int .i64 1000000)) J) fun t8 =>
 A0 PR (do pure (if ← asBool t5 then t8 else (.bool false))) fun t9 =>
 gj t9 true (fun J => J t0) fun t11 =>
 gj t9 true (fun J => A0 PR (A9 t11) J) fun t12 =>
 gj t9 true (fun J => A0 PR (Instr.fieldAt 110 t12 9) J) fun t13 =>
 gj t9 true (fun J => A6 PR (Instr.loadAt 3 t13) J) fun t14 =>
 gj t9 true (fun J => J t1) fun t15 =>
 gj t9 true (fun J => A0 PR (binOp .add 3 t14 t15) J) fun t16 =>
 gj t9 true (fun J => A0 PR (binOp .leq 3 t16 (.int .i64 1000000000)) J) fun t17 =>
 A0 PR (do pure (if ← asBool t9 then t17 else (.bool false))) fun t18 =>
 B7 t18 (
 A0 PR (A9 t0) fun t21 =>
 A0 PR (Instr.fieldAt 110 t21 9) fun t22 =>
 A6 PR (Instr.loadAt 3 t22) fun t23 =>
 A0 PR (binOp .add 3 t23 t1) fun t25 =>
 A0 PR (A9 t0) fun t26 =>
 A0 PR (Instr.fieldAt 110 t26 9) fun t27 =>
 C2 PR X (Instr.storeAt 3 t27 t25) <|
 R (.tuple #[])) (
 R (.tuple #[]))
theorem A3B : B2 PR 54 := A7 Tryz.func54 (by kernel_rfl) rfl
theorem A3Z {X : Nat → Prop} {t0 t1 : Value} {R : Value → WP} {w : World} (h : p4 X t0 t1 R w) : Fn PR X 54 #[t0, t1] w R := C9 (args := [t0, t1]) mixed Tryz.func54 (by kernel_rfl) h
end Go.Proofs.YtpnidmkaobfhiaaGreat
namespace Go.Proofs.YtpnidmkaobfhiaaGreat
open Go
def A1r (X : Nat → Prop) (t0 : Value) (R : Value → WP) : WP :=
 A0 PR (A8 .min #[3, 3] 0 [t0, (.int .i64 64)]) fun t4 =>
 A0 PR (A8 .max #[3, 3] 0 [(.int .i64 0), t4]) fun t5 =>
 B9 PR X (Instr.makeSlice 55 t5 t5) fun t6 =>
 R t6
theorem A1F : B2 PR 40 := A7 Tryz.func40 (by kernel_rfl) rfl
theorem A8J {X : Nat → Prop} {t0 : Value} {R : Value → WP} {w : World} (h : A1r X t0 R w) : Fn PR X 40 #[t0] w R := C9 (args := [t0]) mixed Tryz.func40 (by kernel_rfl) h
def A1J (X : Nat → Prop) (t0 t1 : Value) (R : Value → WP) : WP :=
 A0 PR (Instr.build 155 #[(0, (.int .i64 2))]) fun t7 =>
 B3 PR X 135 [t0, t1, t7] fun t8 =>
 R t8
theorem A51 : B2 PR 108 := A7 Tryz.func108 (by kernel_rfl) rfl
theorem A6v {X : Nat → Prop} {t0 t1 : Value} {R : Value → WP} {w : World} (h : A1J X t0 t1 R w) : Fn PR X 108 #[t0, t1] w R := C9 (args := [t0, t1]) mixed Tryz.func108 (by kernel_rfl) h
def y9 (X : Nat → Prop) (t0 : Value) (R : Value → WP) : WP :=
 jn (n := 1) (fun t2 =>
 R t0) fun J1 =>
 B3 PR X 85 [t0, (.int .i64 2)] fun t4 =>
 A0 PR (binOp .mul 3 (.int .i64 2) t4) fun t5 =>
 A0 PR (A8 .len #[55] 0 [t0]) fun t7 =>
 A0 PR (binOp .gtr 3 t5 t7) fun t8 =>
 B7 t8 (
 B3 PR X 136 [t0] fun t10 =>
 R t10) (
 J1 (.slice none 0 0))
theorem A4l : B2 PR 109 := A7 Tryz.func109 (by kernel_rfl) rfl
theorem A5T {X : Nat → Prop} {t0 : Value} {R : Value → WP} {w : World} (h : y9 X t0 R w) : Fn PR X 109 #[t0] w R := C9 (args := [t0]) mixed Tryz.func109 (by kernel_rfl) h
def A0v (X : Nat → Prop) (t0 t1 t2 : Value) (R : Value → WP) : WP :=
 B9 PR X (Instr.box 155 t2) fun t5 =>
 jn (n := 2) (fun t7 t8 =>
 R t7) fun J1 =>
 lp (n := 2) (fun L2 t7_1 t8_1 =>
 jn (n := 0) (
 jn (n := 1) (fun t7_2 =>
 A0 PR (binOp .add 3 t8_1 (.int .i64 1)) fun t14 =>
 L2 t7_2 t14) fun J3 =>
 A0 PR (binOp .eql 3 t8_1 t1) fun t17 =>
 B7 t17 (
 A6 PR (Instr.loadAt 155 t5) fun t19 =>
 B9 PR X (Instr.buildSlice 55 1 #[(0, t19)]) fun t20 =>
 B9 PR X (A8 .append #[55, 55] 55 [t7_1, t20]) fun t21 =>
 J3 t21) (
 A0 PR (Instr.indexAt 55 t0 t8_1) fun t25 =>
 A6 PR (Instr.loadAt 155 t25) fun t26 =>
 B9 PR X (Instr.buildSlice 55 1 #[(0, t26)]) fun t27 =>
 B9 PR X (A8 .append #[55, 55] 55 [t7_1, t27]) fun t28 =>
 J3 t28)) fun J4 =>
 A0 PR (A8 .len #[55] 0 [t0]) fun t11 =>
 A0 PR (binOp .lss 3 t8_1 t11) fun t12 =>
 B7 t12 (
 J4) (
 J1 t7_1 t8_1)) (.slice none 0 0) (.int .i64 0)
theorem A0a : B2 PR 135 := A7 Tryz.func135 (by kernel_rfl) rfl
theorem A7J {X : Nat → Prop} {t0 t1 t2 : Value} {R : Value → WP} {w : World} (h : A0v X t0 t1 t2 R w) : Fn PR X 135 #[t0, t1, t2] w R := C9 (args := [t0, t1, t2]) mixed Tryz.func135 (by kernel_rfl) h
def A0z (X : Nat → Prop) (t0 : Value) (R : Value → WP) : WP :=
 A0 PR (A8 .len #[55] 0 [t0]) fun t8 =>
 B3 PR X 40 [t8] fun t9 =>
 jn (n := 2) (fun t3 t4 =>
 R t3) fun J1 =>
 lp (n := 2) (fun L2 t3_1 t4_1 =>
 jn (n := 0) (
 jn (n := 1) (fun t3_2 =>
 A0 PR (binOp .add 3 t4_1 (.int .i64 1)) fun t15 =>
 L2 t3_2 t15) fun J3 =>
 A0 PR (Instr.indexAt 55 t0 t4_1) fun t18 =>
 A0 PR (Instr.fieldAt 155 t18 0) fun t19 =>
 A6 PR (Instr.loadAt 3 t19) fun t20 =>
 A0 PR (binOp .eql 3 t20 (.int .i64 1)) fun t21 =>
 B7 t21 (
 drw <|
 A0 PR (Instr.indexAt 55 t0 t4_1) fun t26 =>
 A0 PR (Instr.fieldAt 155 t26 1) fun t27 =>
 A6 PR (Instr.loadAt 9 t27) fun t28 =>
 A0 PR (Instr.indexAt 55 t0 t4_1) fun t31 =>
 A0 PR (Instr.fieldAt 155 t31 2) fun t32 =>
 A6 PR (Instr.loadAt 3 t32) fun t33 =>
 A0 PR (Instr.indexAt 55 t0 t4_1) fun t36 =>
 A0 PR (Instr.fieldAt 155 t36 3) fun t37 =>
 A6 PR (Instr.loadAt 3 t37) fun t38 =>
 B3 PR X 166 [t3_1, t28, t33, t38] fun t39 =>
 A0 PR (Instr.extract t39 0) fun t40 =>
 A0 PR (Instr.extract t39 1) fun t41 =>
 J3 t40) (
 J3 t3_1)) fun J4 =>
 A0 PR (A8 .len #[55] 0 [t0]) fun t12 =>
 A0 PR (binOp .lss 3 t4_1 t12) fun t13 =>
 B7 t13 (
 J4) (
 J1 t3_1 t4_1)) t9 (.int .i64 0)
theorem A5z : B2 PR 136 := A7 Tryz.func136 (by kernel_rfl) rfl
theorem A6p {X : Nat → Prop} {t0 : Value} {R : Value → WP} {w : World} (h : A0z X t0 R w) : Fn PR X 136 #[t0] w R := C9 (args := [t0]) mixed Tryz.func136 (by kernel_rfl) h
def A1s (X : Nat → Prop) (t0 t1 t2 t3 : Value) (R : Value → WP) : WP :=
 B3 PR X 195 [t0, t1] fun t13 =>
 jn (n := 1) (fun t10 =>
 jn (n := 2) (fun t8 t9 =>
 A0 PR (Instr.build 155 #[(0, (.int .i64 1)), (1, t1), (2, t2), (3, t3)]) fun t27 =>
 B3 PR X 135 [t0, t10, t27] fun t28 =>
 R (.tuple #[t28, (.int .i64 0)])) fun J1 =>
 A0 PR (binOp .lss 3 t10 (.int .i64 0)) fun t20 =>
 B7 t20 (
 R (.tuple #[t0, (.int .i64 12)])) (
 J1 (.slice none 0 0) (.int .i64 0))) fun J2 =>
 A0 PR (binOp .lss 3 t13 (.int .i64 0)) fun t15 =>
 B7 t15 (
 B3 PR X 196 [t0, t1] fun t18 =>
 J2 t18) (
 J2 t13)
theorem A63 : B2 PR 166 := A7 Tryz.func166 (by kernel_rfl) rfl
theorem A8F {X : Nat → Prop} {t0 t1 t2 t3 : Value} {R : Value → WP} {w : World} (h : A1s X t0 t1 t2 t3 R w) : Fn PR X 166 #[t0, t1, t2, t3] w R := C9 (args := [t0, t1, t2, t3]) mixed Tryz.func166 (by kernel_rfl) h
end Go.Proofs.YtpnidmkaobfhiaaGreat
namespace Go.Proofs.YtpnidmkaobfhiaaGreat
open Go
def A1N (X : Nat → Prop) (t0 t1 : Value) (R : Value → WP) : WP :=
 jn (n := 1) (fun t4 =>
 jn (n := 2) (fun t4_1 t5 =>
 R (.bool true)) fun J1 =>
 lp (n := 2) (fun L2 t4_2 t5_1 =>
 jn (n := 0) (
 jn (n := 1) (fun t4_3 =>
 A0 PR (binOp .add 3 t5_1 (.int .i64 1)) fun t16 =>
 L2 t4_3 t16) fun J3 =>
 drw <|
 A0 PR (Instr.indexAt 55 t0 t5_1) fun t19 =>
 A6 PR (Instr.loadAt 155 t19) fun t20 =>
 A0 PR (Instr.indexAt 55 t1 t5_1) fun t23 =>
 A6 PR (Instr.loadAt 155 t23) fun t24 =>
 A6 PR (J0 .neq 155 (.tmp 20) (.tmp 24) t20 t24) fun t25 =>
 B7 t25 (
 R (.bool false)) (
 J3 t4_2)) fun J4 =>
 A0 PR (A8 .len #[55] 0 [t0]) fun t13 =>
 A0 PR (binOp .lss 3 t5_1 t13) fun t14 =>
 B7 t14 (
 J4) (
 J1 t4_2 t5_1)) t4 (.int .i64 0)) fun J5 =>
 A0 PR (A8 .len #[55] 0 [t0]) fun t7 =>
 A0 PR (A8 .len #[55] 0 [t1]) fun t9 =>
 A0 PR (binOp .neq 3 t7 t9) fun t10 =>
 B7 t10 (
 R (.bool false)) (
 J5 (.bool false))
theorem A5w : B2 PR 27 := A7 Tryz.func27 (by kernel_rfl) rfl
theorem A7K {X : Nat → Prop} {t0 t1 : Value} {R : Value → WP} {w : World} (h : A1N X t0 t1 R w) : Fn PR X 27 #[t0, t1] w R := C9 (args := [t0, t1]) mixed Tryz.func27 (by kernel_rfl) h
def A0Y (X : Nat → Prop) (t0 t1 : Value) (R : Value → WP) : WP :=
 jn (n := 2) (fun t5 t6 =>
 R t5) fun J1 =>
 lp (n := 2) (fun L2 t5_1 t6_1 =>
 jn (n := 0) (
 jn (n := 1) (fun t5_2 =>
 A0 PR (binOp .add 3 t6_1 (.int .i64 1)) fun t12 =>
 L2 t5_2 t12) fun J3 =>
 A0 PR (Instr.indexAt 55 t0 t6_1) fun t15 =>
 A0 PR (Instr.fieldAt 155 t15 0) fun t16 =>
 A6 PR (Instr.loadAt 3 t16) fun t17 =>
 A0 PR (binOp .eql 3 t17 t1) fun t19 =>
 B7 t19 (
 A0 PR (binOp .add 3 t5_1 (.int .i64 1)) fun t21 =>
 J3 t21) (
 J3 t5_1)) fun J4 =>
 A0 PR (A8 .len #[55] 0 [t0]) fun t9 =>
 A0 PR (binOp .lss 3 t6_1 t9) fun t10 =>
 B7 t10 (
 J4) (
 J1 t5_1 t6_1)) (.int .i64 0) (.int .i64 0)
theorem A0C : B2 PR 85 := A7 Tryz.func85 (by kernel_rfl) rfl
theorem A5n {X : Nat → Prop} {t0 t1 : Value} {R : Value → WP} {w : World} (h : A0Y X t0 t1 R w) : Fn PR X 85 #[t0, t1] w R := C9 (args := [t0, t1]) mixed Tryz.func85 (by kernel_rfl) h
def A1K (X : Nat → Prop) (t0 t1 : Value) (R : Value → WP) : WP :=
 A0 PR (A8 .len #[55] 0 [t0]) fun t10 =>
 B3 PR X 209 [t1, t10] fun t11 =>
 jn (n := 2) (fun t4 t6 =>
 R (.int .i64 (-1))) fun J1 =>
 lp (n := 2) (fun L2 t4_1 t6_1 =>
 jn (n := 0) (
 jn (n := 1) (fun t4_2 =>
 A0 PR (binOp .add 3 t6_1 (.int .i64 1)) fun t17 =>
 L2 t4_2 t17) fun J3 =>
 A0 PR (binOp .add 3 t11 t6_1) fun t20 =>
 A0 PR (A8 .len #[55] 0 [t0]) fun t22 =>
 A0 PR (binOp .rem 3 t20 t22) fun t23 =>
 jn (n := 1) (fun t4_3 =>
 A0 PR (Instr.indexAt 55 t0 t23) fun t32 =>
 A0 PR (Instr.fieldAt 155 t32 0) fun t33 =>
 A6 PR (Instr.loadAt 3 t33) fun t34 =>
 A0 PR (binOp .eql 3 t34 (.int .i64 1)) fun t35 =>
 gj t35 true (fun J => J t0) fun t37 =>
 gj t35 true (fun J => J t23) fun t38 =>
 gj t35 true (fun J => A0 PR (Instr.indexAt 55 t37 t38) J) fun t39 =>
 gj t35 true (fun J => A0 PR (Instr.fieldAt 155 t39 1) J) fun t40 =>
 gj t35 true (fun J => A6 PR (Instr.loadAt 9 t40) J) fun t41 =>
 gj t35 true (fun J => J t1) fun t42 =>
 gj t35 true (fun J => A0 PR (binOp .eql 9 t41 t42) J) fun t43 =>
 A0 PR (do pure (if ← asBool t35 then t43 else (.bool false))) fun t44 =>
 B7 t44 (
 R t23) (
 J3 t4_3)) fun J4 =>
 A0 PR (Instr.indexAt 55 t0 t23) fun t26 =>
 A0 PR (Instr.fieldAt 155 t26 0) fun t27 =>
 A6 PR (Instr.loadAt 3 t27) fun t28 =>
 A0 PR (binOp .eql 3 t28 (.int .i64 0)) fun t29 =>
 B7 t29 (
 R (.int .i64 (-1))) (
 J4 t4_1)) fun J5 =>
 A0 PR (A8 .len #[55] 0 [t0]) fun t14 =>
 A0 PR (binOp .lss 3 t6_1 t14) fun t15 =>
 B7 t15 (
 J5) (
 J1 t4_1 t6_1)) (.int .i64 0) (.int .i64 0)
theorem A0p : B2 PR 195 := A7 Tryz.func195 (by kernel_rfl) rfl
theorem A6x {X : Nat → Prop} {t0 t1 : Value} {R : Value → WP} {w : World} (h : A1K X t0 t1 R w) : Fn PR X 195 #[t0, t1] w R := C9 (args := [t0, t1]) mixed Tryz.func195 (by kernel_rfl) h
def A1M (X : Nat → Prop) (t0 t1 : Value) (R : Value → WP) : WP :=
 jn (n := 1) (fun t4 =>
 A0 PR (A8 .len #[55] 0 [t0]) fun t14 =>
 B3 PR X 209 [t1, t14] fun t15 =>
 jn (n := 2) (fun t4_1 t6 =>
 R (.int .i64 (-1))) fun J1 =>
 lp (n := 2) (fun L2 t4_2 t6_1 =>
 jn (n := 0) (
 jn (n := 1) (fun t4_3 =>
 A0 PR (binOp .add 3 t6_1 (.int .i64 1)) fun t21 =>
 L2 t4_3 t21) fun J3 =>
 A0 PR (binOp .add 3 t15 t6_1) fun t24 =>
 A0 PR (A8 .len #[55] 0 [t0]) fun t26 =>
 A0 PR (binOp .rem 3 t24 t26) fun t27 =>
 A0 PR (Instr.indexAt 55 t0 t27) fun t30 =>
 A0 PR (Instr.fieldAt 155 t30 0) fun t31 =>
 A6 PR (Instr.loadAt 3 t31) fun t32 =>
 A0 PR (binOp .neq 3 t32 (.int .i64 1)) fun t33 =>
 B7 t33 (
 R t27) (
 J3 t4_2)) fun J4 =>
 A0 PR (A8 .len #[55] 0 [t0]) fun t18 =>
 A0 PR (binOp .lss 3 t6_1 t18) fun t19 =>
 B7 t19 (
 J4) (
 J1 t4_2 t6_1)) t4 (.int .i64 0)) fun J5 =>
 B3 PR X 195 [t0, t1] fun t10 =>
 A0 PR (binOp .geq 3 t10 (.int .i64 0)) fun t11 =>
 B7 t11 (
 R (.int .i64 (-1))) (
 J5 (.int .i64 0))
theorem A5p : B2 PR 196 := A7 Tryz.func196 (by kernel_rfl) rfl
theorem A6w {X : Nat → Prop} {t0 t1 : Value} {R : Value → WP} {w : World} (h : A1M X t0 t1 R w) : Fn PR X 196 #[t0, t1] w R := C9 (args := [t0, t1]) mixed Tryz.func196 (by kernel_rfl) h
def A1D (X : Nat → Prop) (t0 t1 : Value) (R : Value → WP) : WP :=
 jn (n := 1) (fun t4 =>
 B3 PR X 212 [t0] fun t8 =>
 A0 PR (convert 3 208 t1) fun t10 =>
 A0 PR (binOp .rem 208 t8 t10) fun t11 =>
 A0 PR (convert 208 3 t11) fun t12 =>
 R t12) fun J1 =>
 A0 PR (binOp .lss 3 t1 (.int .i64 1)) fun t6 =>
 B7 t6 (
 R (.int .i64 0)) (
 J1 (.int .i64 0))
theorem A0g : B2 PR 209 := A7 Tryz.func209 (by kernel_rfl) rfl
theorem A67 {X : Nat → Prop} {t0 t1 : Value} {R : Value → WP} {w : World} (h : A1D X t0 t1 R w) : Fn PR X 209 #[t0, t1] w R := C9 (args := [t0, t1]) mixed Tryz.func209 (by kernel_rfl) h
end Go.Proofs.YtpnidmkaobfhiaaGreat
namespace Go.Proofs.YtpnidmkaobfhiaaGreat
open Go
end Go.Proofs.YtpnidmkaobfhiaaGreat
namespace Go.Proofs.YtpnidmkaobfhiaaGreat
open Go
def A2E (X : Nat → Prop) (t0 : Value) (R : Value → WP) : WP :=
 B3 PR X 214 [(.int .u64 14695981039346656037), t0] fun t4 =>
 R t4
theorem A7C : B2 PR 212 := A7 Tryz.func212 (by kernel_rfl) rfl
theorem A7u {X : Nat → Prop} {t0 : Value} {R : Value → WP} {w : World} (h : A2E X t0 R w) : Fn PR X 212 #[t0] w R := C9 (args := [t0]) mixed Tryz.func212 (by kernel_rfl) h
def A07 (X : Nat → Prop) (t0 t1 : Value) (R : Value → WP) : WP :=
 jn (n := 2) (fun t0_1 t5 =>
 R t0_1) fun J1 =>
 lp (n := 2) (fun L2 t0_2 t5_1 =>
 jn (n := 0) (
 jn (n := 1) (fun t0_3 =>
 A0 PR (binOp .add 3 t5_1 (.int .i64 1)) fun t11 =>
 L2 t0_3 t11) fun J3 =>
 A0 PR (Instr.index 9 t1 t5_1) fun t15 =>
 B3 PR X 215 [t0_2, t15] fun t16 =>
 J3 t16) fun J4 =>
 A0 PR (A8 .len #[9] 0 [t1]) fun t8 =>
 A0 PR (binOp .lss 3 t5_1 t8) fun t9 =>
 B7 t9 (
 J4) (
 J1 t0_2 t5_1)) t0 (.int .i64 0)
theorem A5x : B2 PR 214 := A7 Tryz.func214 (by kernel_rfl) rfl
theorem A7H {X : Nat → Prop} {t0 t1 : Value} {R : Value → WP} {w : World} (h : A07 X t0 t1 R w) : Fn PR X 214 #[t0, t1] w R := C9 (args := [t0, t1]) mixed Tryz.func214 (by kernel_rfl) h
def A03 (X : Nat → Prop) (t0 t1 : Value) (R : Value → WP) : WP :=
 A0 PR (convert 5 208 t1) fun t7 =>
 A0 PR (binOp .xor 208 t0 t7) fun t8 =>
 A0 PR (binOp .mul 208 t8 (.int .u64 1099511628211)) fun t9 =>
 R t9
theorem A5a : B2 PR 215 := A7 Tryz.func215 (by kernel_rfl) rfl
theorem A6r {X : Nat → Prop} {t0 t1 : Value} {R : Value → WP} {w : World} (h : A03 X t0 t1 R w) : Fn PR X 215 #[t0, t1] w R := C9 (args := [t0, t1]) mixed Tryz.func215 (by kernel_rfl) h
end Go.Proofs.YtpnidmkaobfhiaaGreat
namespace Go.Proofs.YtpnidmkaobfhiaaGreat
open Go
theorem C2v (w : World) (h b : Nat) (hh : h < 2 ^ 64) (hb : b < 256) : Fn PR B6 215 #[.int .u64 (h : Int), .int .u8 (b : Int)] w (fun v w' => v = .int .u64 (A8u h b : Nat) ∧ D6 [] w w') := by
 refine Fn.pure (A6r (TW.go (κ := false) (S := []) ?_))
 unfold A03
 (have zz:=trivial;repeat((first|clear zz|with_reducible first|refine A3 ?_|refine A5 fun _=>?_|refine A4 fun _=>?_);try simp(disch:=first|omega|assumption|((repeat(first|exact A1|exact uH|apply A2|apply uT));first|done|fail)|(simp;first|done|omega|fail))[]))
 have e1 : (h % 2 ^ IntKind.u64.bits ^^^ b % 2 ^ IntKind.u64.bits) = h ^^^ b := by rw [show (2 : Nat) ^ IntKind.u64.bits = 2 ^ 64 from rfl, Nat.mod_eq_of_lt hh, Nat.mod_eq_of_lt (by omega)]
 have e2 : h ^^^ b < 2 ^ 64 := Nat.xor_lt_two_pow hh (by omega)
 rw [e1, B7v (n := ((h ^^^ b : Nat) : Int)) (by omega) (by omega)]
 refine B4 ?_
 have e3 : IntKind.u64.wrap (((h ^^^ b : Nat) : Int) * 1099511628211) = (A8u h b : Nat) := by
  simp only [IntKind.wrap, IntKind.bits, IntKind.signed, A8u]
  simp
 rw [e3]
theorem C3W (w : World) (h : Nat) (s : ByteArray) (hh : h < 2 ^ 64) (hs : s.size < 2 ^ 60) : Fn PR B6 214 #[.int .u64 (h : Int), .string s] w (fun v w' => v = .int .u64 (B6f h s : Nat) ∧ D6 [] w w') := by
 refine Fn.pure (A7H (TW.go (κ := false) (S := []) ?_))
 unfold A07
 (have zz:=trivial;repeat((first|clear zz|with_reducible first|refine A3 ?_|refine A5 fun _=>?_|refine A4 fun _=>?_);try simp(disch:=first|omega|assumption|((repeat(first|exact A1|exact uH|apply A2|apply uT));first|done|fail)|(simp;first|done|omega|fail))[]))
 refine Q6 s.size (fun i (_ : Unit) => .int .u64 (B15 h s i : Nat)) (fun _ _ => []) (fun _ _ => True) () trivial ?_
 rintro i _ hi _ L hL
 by_cases hlt : i < s.size
 ·obtain ⟨by0, hb0, hb1⟩ := B6k (s := s) (i := i) hlt
  have hb0' : s[((i : Nat) : Int).toNat]? = some by0 := by rw [Int.toNat_natCast]; exact hb0
  (have zz:=trivial;repeat((first|clear zz|with_reducible first|refine A3 ?_|refine A5 fun _=>?_|refine A4 fun _=>?_);try simp(disch:=first|omega|assumption|((repeat(first|exact A1|exact uH|apply A2|apply uT));first|done|fail)|(simp;first|done|omega|fail))[hlt, C1M]))
  rw [hb1]
  refine D4 A5a (fun w' _ => C2v w' _ _ (B3k hh s i) (B43 s i)) ?_
  (have zz:=trivial;repeat((first|clear zz|with_reducible first|refine A3 ?_|refine A5 fun _=>?_|refine A4 fun _=>?_);try simp(disch:=first|omega|assumption|((repeat(first|exact A1|exact uH|apply A2|apply uT));first|done|fail)|(simp;first|done|omega|fail))[]))
  exact hL hlt () trivial
 ·obtain rfl : i = s.size := by omega
  (have zz:=trivial;repeat((first|clear zz|with_reducible first|refine A3 ?_|refine A5 fun _=>?_|refine A4 fun _=>?_);try simp(disch:=first|omega|assumption|((repeat(first|exact A1|exact uH|apply A2|apply uT));first|done|fail)|(simp;first|done|omega|fail))[]))
  exact B4 rfl
theorem C5F (w : World) (s : ByteArray) (hs : s.size < 2 ^ 60) : Fn PR B6 212 #[.string s] w (fun v w' => v = .int .u64 (A44 s : Nat) ∧ D6 [] w w') := by
 refine Fn.pure (A7u (TW.go (κ := false) (S := []) ?_))
 unfold A2E
 refine D4 A5x (fun w' _ => C3W w' 14695981039346656037 s (by omega) hs) ?_
 exact B4 rfl
end Go.Proofs.YtpnidmkaobfhiaaGreat
namespace Go.Proofs.YtpnidmkaobfhiaaGreat
open Go
end Go.Proofs.YtpnidmkaobfhiaaGreat
namespace Go.Proofs.YtpnidmkaobfhiaaGreat
open Go
def B0C (X : Nat → Prop) (t0 : Value) (R : Value → WP) : WP :=
 jn (n := 2) (fun t3 t10 =>
 R t3) fun J1 =>
 B3 PR X 100 [t0] fun t7 =>
 B3 PR X 99 [t7, (.func (.func 101) #[] #[])] fun t8 =>
 A0 PR (A8 .len #[206] 0 [t8]) fun t9 =>
 lp (n := 2) (fun L2 t3_1 t10_1 =>
 A0 PR (binOp .lss 3 t10_1 t9) fun t11 =>
 jn (n := 0) (
 jn (n := 1) (fun t3_2 =>
 A0 PR (binOp .add 3 t10_1 (.int .i64 1)) fun t18 =>
 L2 t3_2 t18) fun J3 =>
 A0 PR (Instr.indexAt 206 t8 t10_1) fun t12 =>
 A6 PR (Instr.loadAt 210 t12) fun t13 =>
 B9 PR X (Instr.alloc 210 true (.tuple #[])) fun t5 =>
 C2 PR X (Instr.storeAt 210 t5 t13) <|
 A6 PR (Instr.loadAt 210 t5) fun t15 =>
 B9 PR X (Instr.buildSlice 150 1 #[(0, t15)]) fun t16 =>
 B9 PR X (A8 .append #[150, 150] 150 [t3_1, t16]) fun t17 =>
 J3 t17) fun J4 =>
 B7 t11 (
 J4) (
 J1 t3_1 t10_1)) (.slice none 0 0) (.int .i64 0)
theorem B48 : B2 PR 78 := A7 Tryz.func78 (by kernel_rfl) rfl
theorem B7D {X : Nat → Prop} {t0 : Value} {R : Value → WP} {w : World} (h : B0C X t0 R w) : Fn PR X 78 #[t0] w R := C9 (args := [t0]) mixed Tryz.func78 (by kernel_rfl) h
def A8W (X : Nat → Prop) (t0 : Value) (R : Value → WP) : WP :=
 B9 PR X (Instr.box 36 t0) fun t1 =>
 A0 PR (Instr.makeFunc (.func 129) #[] #[t1]) fun t3 =>
 R t3
theorem B3J : B2 PR 100 := A7 Tryz.func100 (by kernel_rfl) rfl
theorem B3j {X : Nat → Prop} {t0 : Value} {R : Value → WP} {w : World} (h : A8W X t0 R w) : Fn PR X 100 #[t0] w R := C9 (args := [t0]) mixed Tryz.func100 (by kernel_rfl) h
def A1z (X : Nat → Prop) (t0 t1 : Value) (R : Value → WP) : WP :=
 B9 PR X (Instr.box 210 t0) fun t2 =>
 B9 PR X (Instr.box 210 t1) fun t3 =>
 drw <|
 A0 PR (Instr.fieldAt 210 t2 0) fun t5 =>
 A6 PR (Instr.loadAt 208 t5) fun t6 =>
 A0 PR (Instr.fieldAt 210 t3 0) fun t7 =>
 A6 PR (Instr.loadAt 208 t7) fun t8 =>
 A0 PR (Instr.fieldAt 210 t2 1) fun t10 =>
 A6 PR (Instr.loadAt 3 t10) fun t11 =>
 A0 PR (Instr.fieldAt 210 t3 1) fun t12 =>
 A6 PR (Instr.loadAt 3 t12) fun t13 =>
 B3 PR X 132 [t6, t8] fun t9 =>
 watch PR [(none, (Instr.loadAt 3 t12), t13), (none, (Instr.loadAt 3 t10), t11)] <|
 B3 PR X 133 [t11, t13] fun t14 =>
 B9 PR X (Instr.buildSlice 54 2 #[(0, t9), (1, t14)]) fun t15 =>
 B3 PR X 131 [t15] fun t16 =>
 R t16
theorem A7Z : B2 PR 101 := A7 Tryz.func101 (by kernel_rfl) rfl
theorem A7s {X : Nat → Prop} {t0 t1 : Value} {R : Value → WP} {w : World} (h : A1z X t0 t1 R w) : Fn PR X 101 #[t0, t1] w R := C9 (args := [t0, t1]) mixed Tryz.func101 (by kernel_rfl) h
def A4P (X : Nat → Prop) (t0 t1 : Value) (R : Value → WP) : WP :=
 A6 PR (Instr.loadAt 36 t1) fun t6 =>
 A0 PR (A8 .len #[36] 0 [t6]) fun t7 =>
 lp (n := 1) (fun L1 t8 =>
 A0 PR (binOp .lss 3 t8 t7) fun t9 =>
 jn (n := 0) (
 jn (n := 1) (fun t17 =>
 A0 PR (binOp .add 3 t8 (.int .i64 1)) fun t31 =>
 L1 t31) fun J2 =>
 A0 PR (Instr.indexAt 36 t6 t8) fun t10 =>
 A6 PR (Instr.loadAt 83 t10) fun t11 =>
 B9 PR X (Instr.alloc 83 true (.tuple #[])) fun t4 =>
 C2 PR X (Instr.storeAt 83 t4 t11) <|
 A0 PR (Instr.fieldAt 83 t4 1) fun t12 =>
 A6 PR (Instr.loadAt 3 t12) fun t13 =>
 A0 PR (A8 .min #[3, 3] 0 [t13, (.int .i64 16)]) fun t14 =>
 A0 PR (A8 .max #[3, 3] 0 [(.int .i64 0), t14]) fun t15 =>
 A0 PR (binOp .mul 3 (.int .i64 8) t15) fun t16 =>
 lp (n := 1) (fun L3 t17_1 =>
 A0 PR (binOp .lss 3 t17_1 t16) fun t18 =>
 jn (n := 0) (
 jn (n := 0) (
 A0 PR (binOp .add 3 t17_1 (.int .i64 1)) fun t30 =>
 L3 t30) fun J4 =>
 drw <|
 A0 PR (Instr.fieldAt 83 t4 0) fun t21 =>
 A6 PR (Instr.loadAt 3 t21) fun t22 =>
 A0 PR (Instr.fieldAt 83 t4 0) fun t25 =>
 A6 PR (Instr.loadAt 3 t25) fun t26 =>
 B3 PR X 130 [t22, t17_1] fun t24 =>
 watch PR [(none, (Instr.loadAt 3 t25), t26)] <|
 A0 PR (Instr.build 210 #[(0, t24), (1, t26)]) fun t27 =>
 q6 PR X t0 [t27] fun t28 =>
 A0 PR (Op.unary .not t28) fun t29 =>
 B7 t29 (
 R (.tuple #[])) (
 J4)) fun J5 =>
 B7 t18 (
 J5) (
 J2 t17_1)) (.int .i64 0)) fun J6 =>
 B7 t9 (
 J6) (
 R (.tuple #[]))) (.int .i64 0)
theorem A99 : B2 PR 129 := A7 Tryz.func129 (by kernel_rfl) rfl
theorem B1W {X : Nat → Prop} {t0 t1 : Value} {R : Value → WP} {w : World} (h : A4P X t0 t1 R w) : Fn PR X 129 #[t0, t1] w R := C9 (args := [t0, t1]) mixed Tryz.func129 (by kernel_rfl) h
theorem B1P {X : Nat → Prop} {t0 t1 : Value} {K : Value → WP} {w : World} (h : Fn PR X 129 #[t0, t1] w K) : A2W PR X 129 [t0, t1] K w := ⟨A99, h⟩
def A78 (X : Nat → Prop) (t0 t1 : Value) (R : Value → WP) : WP :=
 A0 PR (convert 3 208 t0) fun t6 =>
 B3 PR X 114 [t6, (.int .i64 4)] fun t7 =>
 B3 PR X 115 [t7] fun t8 =>
 A0 PR (convert 3 208 t1) fun t10 =>
 B3 PR X 114 [t10, (.int .i64 2)] fun t11 =>
 B3 PR X 114 [(.int .u64 0), (.int .i64 4)] fun t12 =>
 A0 PR (binOp .add 9 t11 t12) fun t13 =>
 B3 PR X 147 [t8, t13] fun t14 =>
 R t14
theorem B25 : B2 PR 130 := A7 Tryz.func130 (by kernel_rfl) rfl
theorem B3Y {X : Nat → Prop} {t0 t1 : Value} {R : Value → WP} {w : World} (h : A78 X t0 t1 R w) : Fn PR X 130 #[t0, t1] w R := C9 (args := [t0, t1]) mixed Tryz.func130 (by kernel_rfl) h
end Go.Proofs.YtpnidmkaobfhiaaGreat
namespace Go.Proofs.YtpnidmkaobfhiaaGreat
open Go
def B8f (id : Int) (n : Nat) : Nat := B6f (A44 (Z8 (IntKind.u64.wrap id) 4)) (Z8 n 2 ++ Z8 0 4)
theorem C4v (w : World) (id : Int) (n : Nat) (hn : n < 2 ^ 62) : Fn PR B6 130 #[.int .i64 id, .int .i64 (n : Int)] w (fun v w' => v = .int .u64 (B8f id n : Nat) ∧ D6 [] w w') := by
 refine Fn.pure (B3Y (TW.go (κ := false) (S := []) ?_))
 unfold A78
 (have zz:=trivial;repeat((first|clear zz|with_reducible first|refine A3 ?_|refine A5 fun _=>?_|refine A4 fun _=>?_);try simp(disch:=first|omega|assumption|((repeat(first|exact A1|exact uH|apply A2|apply uT));first|done|fail)|(simp;first|done|omega|fail))[]))
 refine D4 A4G (fun w' hw' => B6Z w' _ _) ?_
 (have zz:=trivial;repeat((first|clear zz|with_reducible first|refine A3 ?_|refine A5 fun _=>?_|refine A4 fun _=>?_);try simp(disch:=first|omega|assumption|((repeat(first|exact A1|exact uH|apply A2|apply uT));first|done|fail)|(simp;first|done|omega|fail))[]))
 refine D4 B1c (fun w' _ => B4w w' _ (by simp)) ?_
 (have zz:=trivial;repeat((first|clear zz|with_reducible first|refine A3 ?_|refine A5 fun _=>?_|refine A4 fun _=>?_);try simp(disch:=first|omega|assumption|((repeat(first|exact A1|exact uH|apply A2|apply uT));first|done|fail)|(simp;first|done|omega|fail))[]))
 refine D4 A4G (fun w' hw' => B6Z w' _ _) ?_
 (have zz:=trivial;repeat((first|clear zz|with_reducible first|refine A3 ?_|refine A5 fun _=>?_|refine A4 fun _=>?_);try simp(disch:=first|omega|assumption|((repeat(first|exact A1|exact uH|apply A2|apply uT));first|done|fail)|(simp;first|done|omega|fail))[]))
 refine D4 A4G (fun w' hw' => B6Z w' _ _) ?_
 (have zz:=trivial;repeat((first|clear zz|with_reducible first|refine A3 ?_|refine A5 fun _=>?_|refine A4 fun _=>?_);try simp(disch:=first|omega|assumption|((repeat(first|exact A1|exact uH|apply A2|apply uT));first|done|fail)|(simp;first|done|omega|fail))[C6s]))
 refine D4 B0g (fun w' _ => B78 w' _ _ (B4F _) (by simp)) ?_
 exact B4 rfl
def wtN (b : G8) : Nat := 8 * (max 0 (min b.2 16)).toNat
def B3N (b : G8) : List (Nat × Int) := (List.range (wtN b)).map fun n => (B8f b.1 n, b.1)
def M0 (p : List G8) : List (Nat × Int) := p.flatMap B3N
def L0 (x : Nat × Int) : List Value := [.int .u64 (x.1 : Nat), .int .i64 x.2]
def ptA (x : Nat × Int) : List Value := [.agg #[.int .u64 (x.1 : Nat), .int .i64 x.2]]
abbrev B2q (b : Nat) : Value := .func (.func 129) #[] #[.pointer (some ⟨b, 0, none⟩)]
theorem C3S (w : World) (v : Value) (hv : ∃ a n c, v = .slice a n c) : Fn PR B6 100 #[v] w (Rn [] w (fun b u => u = B2q b) fun b => [.pt b (.cells #[v] 36)]) := by
 obtain ⟨a, n, c, rfl⟩ := hv
 refine B3j (TW.go (κ := false) (S := []) ?_)
 unfold A8W
 (have zz:=trivial;repeat((first|clear zz|with_reducible first|refine A3 ?_|refine A5 fun _=>?_|refine A4 fun _=>?_);try simp(disch:=first|omega|assumption|((repeat(first|exact A1|exact uH|apply A2|apply uT));first|done|fail)|(simp;first|done|omega|fail))[]))
 rename_i b
 exact A40 b rfl (by simp)
theorem B7g {p : List G8} {i : Nat} {x : G8} (hx : p[i]? = some x) : M0 (p.take (i + 1)) = M0 (p.take i) ++ B3N x := by
 rw [List.take_add_one, hx]; simp [M0]
theorem C3E {p : List G8} {i n : Nat} {x : G8} (hx : p[i]? = some x) (hn : n < wtN x) : (M0 p)[(M0 (p.take i)).length + n]? = some (B8f x.1 n, x.1) := by
 have e : p = p.take (i + 1) ++ p.drop (i + 1) := (List.take_append_drop _ _).symm
 conv => lhs; arg 1; rw [e]
 have h2 : M0 (p.take (i + 1) ++ p.drop (i + 1)) = M0 (p.take (i + 1)) ++ M0 (p.drop (i + 1)) := by simp only [M0, List.flatMap_append]
 rw [h2, B7g hx, List.append_assoc, List.getElem?_append_right (by omega), Nat.add_sub_cancel_left, List.getElem?_append_left (by simp [B3N, hn])]
 simp [B3N, hn]
theorem C2g (b : Nat) (v : Value) (p : List G8) (hn : p.length ≤ 1000000) : A57 (B2q b) [.pt b (.cells #[v] 36)] (RqS v p.length (p.flatMap E6)) ((M0 p).map ptA) := by
 refine ⟨_, _, _, rfl, fun y J E hJ hE stJ stE hy w0 h0 => ?_⟩
 obtain ⟨a, c, hv, hr⟩ := (hJ _ _ _ h0).2
 subst hv
 refine B1P (B1W (TW.at (κ := true) ?_ (hJ _ _ _ h0).1))
 unfold A4P
 (have zz:=trivial;repeat((first|clear zz|with_reducible first|refine A3 ?_|refine A5 fun _=>?_|refine A4 fun _=>?_);try simp(disch:=first|omega|assumption|((repeat(first|exact A1|exact uH|apply A2|apply uT));first|done|fail)|(simp;first|done|omega|fail))[]))
 refine A3v p.length (fun i => (M0 (p.take i)).length) (fun _ => _) hJ stJ (by simpa [M0] using h0) fun i a' hi hJi hRi L hL => ?_
 by_cases hlt : i < p.length
 ·obtain ⟨_, _, hv, hr⟩ := hRi
  obtain ⟨b', o, hb, hrow, hnb⟩ := hr (by omega)
  cases hv
  subst hb
  obtain ⟨x, hx⟩ : ∃ x, p[i]? = some x := ⟨_, List.getElem?_eq_getElem hlt⟩
  have h1 := hrow.at (f := E6) (k := 2) (fun _ => rfl) hx
  rw [E6] at h1
  have hlen : (M0 (p.take (i + 1))).length = (M0 (p.take i)).length + wtN x := by rw [B7g hx]; simp [B3N]
  rw [hlen] at hL
  have hw : 8 * max 0 (min x.2 16) = (wtN x : Nat) := by unfold wtN; omega
  have hwl : wtN x ≤ 128 := by unfold wtN; omega
  (have zz:=trivial;repeat((first|clear zz|with_reducible first|refine A3 ?_|refine A5 fun _=>?_|refine A4 fun _=>?_);try simp(disch:=first|omega|assumption|((repeat(first|exact A1|exact uH|apply A2|apply uT));first|done|fail)|(simp;first|done|omega|fail))[hlt, h1]))
  rename_i b4
  rw [hw]
  refine A3v (wtN x) (fun n => (M0 (p.take i)).length + n) (fun _ => _) hJ stJ hJi fun n a2 hi2 hJn hRn L2 hL2 => ?_
  by_cases hlt2 : n < wtN x
  ·have hg := C3E hx hlt2
   obtain ⟨hgi, hg'⟩ := List.getElem?_eq_some_iff.1 hg
   (have zz:=trivial;repeat((first|clear zz|with_reducible first|refine A3 ?_|refine A5 fun _=>?_|refine A4 fun _=>?_);try simp(disch:=first|omega|assumption|((repeat(first|exact A1|exact uH|apply A2|apply uT));first|done|fail)|(simp;first|done|omega|fail))[hlt2]))
   refine D4 B25 (fun w' _ => C4v w' x.1 n (by omega)) ?_
   (have zz:=trivial;repeat((first|clear zz|with_reducible first|refine A3 ?_|refine A5 fun _=>?_|refine A4 fun _=>?_);try simp(disch:=first|omega|assumption|((repeat(first|exact A1|exact uH|apply A2|apply uT));first|done|fail)|(simp;first|done|omega|fail))[]))
   refine A8b hJ hE stJ hy hJn (by simpa using hgi) (by rw [List.getElem_map, hg', ptA]) (fun w3 h => ?_) (fun w3 h => ?_)
   ·(have zz:=trivial;repeat((first|clear zz|with_reducible first|refine A3 ?_|refine A5 fun _=>?_|refine A4 fun _=>?_);try simp(disch:=first|omega|assumption|((repeat(first|exact A1|exact uH|apply A2|apply uT));first|done|fail)|(simp;first|done|omega|fail))[]))
    exact fun w' hw' => hL2 hlt2 w' (stJ _ _ _ _ _ h hw')
   ·(have zz:=trivial;repeat((first|clear zz|with_reducible first|refine A3 ?_|refine A5 fun _=>?_|refine A4 fun _=>?_);try simp(disch:=first|omega|assumption|((repeat(first|exact A1|exact uH|apply A2|apply uT));first|done|fail)|(simp;first|done|omega|fail))[]))
    exact A4z stE h
  ·obtain rfl : n = wtN x := by omega
   (have zz:=trivial;repeat((first|clear zz|with_reducible first|refine A3 ?_|refine A5 fun _=>?_|refine A4 fun _=>?_);try simp(disch:=first|omega|assumption|((repeat(first|exact A1|exact uH|apply A2|apply uT));first|done|fail)|(simp;first|done|omega|fail))[]))
   exact fun w' hw' => hL hlt w' (stJ _ _ _ _ _ hJn (hw'.sub (by simp)))
 ·obtain rfl : i = p.length := by omega
  rw [List.take_length] at hJi
  (have zz:=trivial;repeat((first|clear zz|with_reducible first|refine A3 ?_|refine A5 fun _=>?_|refine A4 fun _=>?_);try simp(disch:=first|omega|assumption|((repeat(first|exact A1|exact uH|apply A2|apply uT));first|done|fail)|(simp;first|done|omega|fail))[]))
  exact A5K stJ (by simpa using hJi)
end Go.Proofs.YtpnidmkaobfhiaaGreat
namespace Go.Proofs.YtpnidmkaobfhiaaGreat
open Go
def B0v (X : Nat → Prop) (t0 : Value) (R : Value → WP) : WP :=
 A0 PR (A8 .min #[3, 3] 0 [t0, (.int .i64 64)]) fun t4 =>
 A0 PR (A8 .max #[3, 3] 0 [(.int .i64 0), t4]) fun t5 =>
 B9 PR X (Instr.makeSlice 55 t5 t5) fun t6 =>
 R t6
theorem A9l : B2 PR 39 := A7 Tryz.func39 (by kernel_rfl) rfl
theorem B6D {X : Nat → Prop} {t0 : Value} {R : Value → WP} {w : World} (h : B0v X t0 R w) : Fn PR X 39 #[t0] w R := C9 (args := [t0]) mixed Tryz.func39 (by kernel_rfl) h
def A9a (X : Nat → Prop) (t0 : Value) (R : Value → WP) : WP :=
 A0 PR (A8 .len #[55] 0 [t0]) fun t7 =>
 B3 PR X 39 [t7] fun t8 =>
 B9 PR X (Instr.alloc 289 true (.tuple #[])) fun t3 =>
 C2 PR X (Instr.storeAt 289 t3 t8) <|
 jn (n := 0) (
 A6 PR (Instr.loadAt 289 t3) fun t16 =>
 unw (R t16)) fun J1 =>
 B3 PR X 158 [t0] fun t10 =>
 rng (N := 2) PR X (fun t11 t12 K2 =>
 B9 PR (fun _ => False) (Instr.alloc 155 true (.tuple #[])) fun t5 =>
 C2 PR (fun _ => False) (Instr.storeAt 155 t5 t12) <|
 bgn <|
 A6 PR (Instr.loadAt 289 t3) fun t13 =>
 A6 PR (Instr.loadAt 155 t5) fun t14 =>
 B3 PR (fun _ => False) 154 [t13, t14] fun t15 =>
 K2 none) t10 (fun j => match j with | none => (J1) | some (.exit i) => (match Nat.beq i 0 with | true => (J1) | false => (H8)) | some .ret => (unw (R (.slice none 0 0))) | some _ => H8)
theorem B3V : B2 PR 123 := A7 Tryz.func123 (by kernel_rfl) rfl
theorem B45 {X : Nat → Prop} {t0 : Value} {R : Value → WP} {w : World} (h : A9a X t0 R w) : Fn PR X 123 #[t0] w R := C9 (args := [t0]) mixed Tryz.func123 (by kernel_rfl) h
def A4D (X : Nat → Prop) (t0 t1 : Value) (R : Value → WP) : WP :=
 B9 PR X (Instr.box 155 t1) fun t3 =>
 A0 PR (Instr.fieldAt 155 t3 1) fun t7 =>
 A6 PR (Instr.loadAt 9 t7) fun t8 =>
 B3 PR X 148 [t0, t8] fun t9 =>
 jn (n := 1) (fun t5 =>
 jn (n := 1) (fun t4 =>
 A6 PR (Instr.loadAt 155 t3) fun t20 =>
 A0 PR (Instr.indexAt 289 t0 t5) fun t21 =>
 C2 PR X (Instr.storeAt 155 t21 t20) <|
 R (.bool true)) fun J1 =>
 A0 PR (binOp .lss 3 t5 (.int .i64 0)) fun t17 =>
 B7 t17 (
 R (.bool false)) (
 J1 (.bool false))) fun J2 =>
 A0 PR (binOp .lss 3 t9 (.int .i64 0)) fun t11 =>
 B7 t11 (
 A0 PR (Instr.fieldAt 155 t3 1) fun t13 =>
 A6 PR (Instr.loadAt 9 t13) fun t14 =>
 B3 PR X 183 [t0, t14] fun t15 =>
 J2 t15) (
 J2 t9)
theorem A9r : B2 PR 154 := A7 Tryz.func154 (by kernel_rfl) rfl
theorem B0a {X : Nat → Prop} {t0 t1 : Value} {R : Value → WP} {w : World} (h : A4D X t0 t1 R w) : Fn PR X 154 #[t0, t1] w R := C9 (args := [t0, t1]) mixed Tryz.func154 (by kernel_rfl) h
def A3F (X : Nat → Prop) (t0 : Value) (R : Value → WP) : WP :=
 B9 PR X (Instr.box 289 t0) fun t1 =>
 A0 PR (Instr.makeFunc (.func 184) #[] #[t1]) fun t3 =>
 R t3
theorem A8f : B2 PR 158 := A7 Tryz.func158 (by kernel_rfl) rfl
theorem A91 {X : Nat → Prop} {t0 : Value} {R : Value → WP} {w : World} (h : A3F X t0 R w) : Fn PR X 158 #[t0] w R := C9 (args := [t0]) mixed Tryz.func158 (by kernel_rfl) h
def A0y (X : Nat → Prop) (t0 t1 : Value) (R : Value → WP) : WP :=
 A6 PR (Instr.loadAt 289 t1) fun t5 =>
 A0 PR (A8 .len #[289] 0 [t5]) fun t6 =>
 lp (n := 1) (fun L1 t7 =>
 A0 PR (binOp .lss 3 t7 t6) fun t8 =>
 jn (n := 0) (
 jn (n := 0) (
 A0 PR (binOp .add 3 t7 (.int .i64 1)) fun t22 =>
 L1 t22) fun J2 =>
 A0 PR (Instr.indexAt 289 t5 t7) fun t10 =>
 A6 PR (Instr.loadAt 155 t10) fun t11 =>
 B9 PR X (Instr.alloc 155 true (.tuple #[])) fun t4 =>
 C2 PR X (Instr.storeAt 155 t4 t11) <|
 A0 PR (Instr.fieldAt 155 t4 0) fun t12 =>
 A6 PR (Instr.loadAt 3 t12) fun t13 =>
 A0 PR (binOp .eql 3 t13 (.int .i64 1)) fun t14 =>
 gj t14 true (fun J => J t0) fun t16 =>
 gj t14 true (fun J => J t7) fun t17 =>
 gj t14 true (fun J => A6 PR (Instr.loadAt 155 t4) J) fun t18 =>
 gj t14 true (fun J => q6 PR X t16 [t17, t18] J) fun t19 =>
 gj t14 true (fun J => A0 PR (Op.unary .not t19) J) fun t20 =>
 A0 PR (do pure (if ← asBool t14 then t20 else (.bool false))) fun t21 =>
 B7 t21 (
 R (.tuple #[])) (
 J2)) fun J3 =>
 B7 t8 (
 J3) (
 R (.tuple #[]))) (.int .i64 0)
theorem A5u : B2 PR 184 := A7 Tryz.func184 (by kernel_rfl) rfl
theorem A7M {X : Nat → Prop} {t0 t1 : Value} {R : Value → WP} {w : World} (h : A0y X t0 t1 R w) : Fn PR X 184 #[t0, t1] w R := C9 (args := [t0, t1]) mixed Tryz.func184 (by kernel_rfl) h
theorem A7W {X : Nat → Prop} {t0 t1 : Value} {K : Value → WP} {w : World} (h : Fn PR X 184 #[t0, t1] w K) : A2W PR X 184 [t0, t1] K w := ⟨A5u, h⟩
end Go.Proofs.YtpnidmkaobfhiaaGreat
namespace Go.Proofs.YtpnidmkaobfhiaaGreat
open Go
theorem C1J (l : List EnV) : (l.flatMap E3).all plain = true := by
 rw [List.all_eq_true]; intro v hv; rw [List.mem_flatMap] at hv
 obtain ⟨x, _, hx⟩ := hv
 simp only [E3, List.mem_cons, List.not_mem_nil, or_false] at hx
 rcases hx with rfl | rfl | rfl | rfl <;> rfl
theorem A6E {α : Type} {f : α → List Value} {k : Nat} (hk : ∀ x, (f x).length = k) (l : List α) (i : Nat) (y : α) (hi : i < l.length) : U7 (l.flatMap f) (i * k) (f y) = (l.set i y).flatMap f := by
 have e1 := B4L hk l i
 have e2 := A6S hk l (i + 1)
 rw [Nat.add_mul, Nat.one_mul] at e2
 rw [U7, hk, e1, e2, List.set_eq_take_append_cons_drop, if_pos hi, List.flatMap_append, List.flatMap_cons, List.append_assoc]
abbrev N2 (v : Value) (l : List EnV) : Res := .own 155 4 v l.length (l.flatMap E3)
def newE (n : Nat) : List EnV := List.replicate (min n 64) p7
theorem C31 (n : Nat) : (Builtin.zeroCells (Value.agg #[.int .i64 0, .string noB, .int .i64 0, .int .i64 0]).cells n).toList = (List.replicate n p7).flatMap E3 := by
 have h4 : (Value.agg #[.int .i64 0, .string noB, .int .i64 0, .int .i64 0]).cells.size = 4 := rfl
 have hz : (Builtin.zeroCells (Value.agg #[.int .i64 0, .string noB, .int .i64 0, .int .i64 0]).cells n).toList.length = n * 4 := by simp [size_zeroCells]
 have hr : ((List.replicate n p7).flatMap E3).length = n * 4 := by rw [P0 (k := 4) fun _ => rfl]; simp
 apply List.ext_getElem (by rw [hz, hr])
 intro i h1 h2
 rw [hz] at h1
 have hf := m0 (f := E3) (k := 4) (fun _ => rfl) (List.replicate n p7) (i / 4) (i % 4) (by omega)
 rw [show i / 4 * 4 + i % 4 = i by omega, List.getElem?_eq_getElem h2, List.getElem?_replicate_of_lt (by omega)] at hf
 have e : (Builtin.zeroCells (Value.agg #[.int .i64 0, .string noB, .int .i64 0, .int .i64 0]).cells n).toList[i]'(by rw [hz]; exact h1) = (Value.agg #[.int .i64 0, .string noB, .int .i64 0, .int .i64 0]).cells[i % 4]! := by
  simp [Builtin.zeroCells]
 rw [e]
 have h3 : i % 4 = 0 ∨ i % 4 = 1 ∨ i % 4 = 2 ∨ i % 4 = 3 := by omega
 rcases h3 with h3 | h3 | h3 | h3 <;> (rw [h3] at hf ⊢; simp [E3, p7] at hf ⊢; exact hf.symm)
theorem B1Y (w : World) (n : Nat) (hn : n ≤ 1000000) : Fn PR B6 39 #[.int .i64 (n : Int)] w (Rn [] w (fun r u => u = r) fun r => [N2 r (newE n)]) := by
 refine B6D (TW.go (κ := false) (S := []) ?_)
 unfold B0v
 have e : max 0 (min (n : Int) 64) = ((min n 64 : Nat) : Int) := by omega
 (have zz:=trivial;repeat((first|clear zz|with_reducible first|refine A3 ?_|refine A5 fun _=>?_|refine A4 fun _=>?_);try simp(disch:=first|omega|assumption|((repeat(first|exact A1|exact uH|apply A2|apply uT));first|done|fail)|(simp;first|done|omega|fail))[e]))
 refine A0r (by omega) (by omega) (by omega) (by omega) fun bs => ?_
 rw [Int.toNat_natCast]
 refine A40 _ rfl ?_
 simp only [N2, newE, List.length_replicate, ← C31]
 exact List.Sublist.refl _
def M7 (l : List EnV) (x : EnV) : Option (List EnV) :=
 let at0 := F3 l x.key
 let at1 := if at0 < 0 then U4 l x.key else at0
 if at1 < 0 then none else some (l.set at1.toNat x)
theorem C3g {key : ByteArray} {n : Nat} : ∀ L : List (Nat × EnV), (∀ p ∈ L, p.1 < n) → 0 ≤ L8 key L → (L8 key L).toNat < n := by
 intro L
 induction L with
 | nil => intro _ h; simp [L8] at h
 | cons p L ih =>
  intro h h0
  simp only [L8] at h0 ⊢
  split
  ·rw [if_pos ‹_›] at h0; simp at h0
  ·rw [if_neg ‹_›] at h0
   split
   ·simpa using h p (by simp)
   ·rw [if_neg ‹_›] at h0; exact ih (fun q hq => h q (by simp [hq])) h0
theorem C2q {n : Nat} : ∀ L : List (Nat × EnV), (∀ p ∈ L, p.1 < n) → 0 ≤ Q0 L → (Q0 L).toNat < n := by
 intro L
 induction L with
 | nil => intro _ h; simp [Q0] at h
 | cons p L ih =>
  intro h h0
  simp only [Q0] at h0 ⊢
  split
  ·rw [if_pos ‹_›] at h0; exact ih (fun q hq => h q (by simp [hq])) h0
  ·simpa using h p (by simp)
theorem B8F (l : List EnV) (key : ByteArray) : ∀ p ∈ P3 l key, p.1 < l.length := by
 intro p hp
 obtain ⟨i, hi, rfl⟩ := List.mem_map.1 hp
 exact Nat.mod_lt _ (by simp at hi; omega)
theorem A8j {l : List EnV} {key : ByteArray} (h : 0 ≤ F3 l key) : (F3 l key).toNat < l.length := C3g _ (B8F l key) h
theorem B2Q {l : List EnV} {key : ByteArray} (h : 0 ≤ U4 l key) : (U4 l key).toNat < l.length := by
 unfold U4 at h ⊢
 split
 ·rw [if_pos ‹_›] at h; simp at h
 ·rw [if_neg ‹_›] at h; exact C2q _ (B8F l key) h
theorem B1p {l m : List EnV} {x : EnV} (h : M7 l x = some m) : m.length = l.length := by
 unfold M7 at h
 simp only at h
 by_cases c : (if F3 l x.key < 0 then U4 l x.key else F3 l x.key) < 0
 ·rw [if_pos c] at h; cases h
 ·rw [if_neg c] at h; injection h with h; rw [← h]; simp
theorem C5W (w : World) (v : Value) (l : List EnV) (x : EnV) (hk : x.key.size < 2 ^ 60) (hn : l.length ≤ 1000000) (hw : LW false (B1 [N2 v l]) w [N2 v l] w) :
  Fn PR B6 154 #[v, .agg #[.int .i64 x.st, .string x.key, .int .i64 x.bk, .int .i64 x.dl]] w (Rn (B1 [N2 v l]) w (fun (_ : Unit) u => u = .bool (M7 l x).isSome) fun _ => [N2 v ((M7 l x).getD l)]) := by
 refine B0a (TW.goH (κ := false) (S := B1 [N2 v l]) ?_ hw)
 unfold A4D
 (have zz:=trivial;repeat((first|clear zz|with_reducible first|refine A3 ?_|refine A5 fun _=>?_|refine A4 fun _=>?_);try simp(disch:=first|omega|assumption|((repeat(first|exact A1|exact uH|apply A2|apply uT));first|done|fail)|(simp;first|done|omega|fail))[]))
 rename_i bx
 refine D4 A8D (fun w' hw' => B0B w' v l x.key hk hn (H3.own (by (repeat constructor)) w' hw')) ?_
 have fin : ∀ r : Int, 0 ≤ r → r.toNat < l.length → M7 l x = some (l.set r.toNat x) → TW false (B1 [N2 v l]) w [.pt bx (.cells #[.int .i64 x.st, .string x.key, .int .i64 x.bk, .int .i64 x.dl] 155), N2 v l]
   (A0 PR (Instr.indexAt 289 v (.int .i64 r)) fun t21 => C2 PR B6 (Instr.storeAt 155 t21 (.agg #[.int .i64 x.st, .string x.key, .int .i64 x.bk, .int .i64 x.dl])) <|
    Rn (B1 [N2 v l]) w (fun (_ : Unit) u => u = .bool (M7 l x).isSome) (fun _ => [N2 v ((M7 l x).getD l)]) (.bool true)) := by
  intro r h0 hi hp
  obtain ⟨i, rfl⟩ : ∃ i : Nat, r = i := ⟨r.toNat, by omega⟩
  rw [Int.toNat_natCast] at hi hp
  refine P8 (e := 155) (k := 4) (v := v) (q := l.length) (xs := l.flatMap E3) (by (repeat constructor)) (by omega) ?_
  rintro g c rfl
  (have zz:=trivial;repeat((first|clear zz|with_reducible first|refine A3 ?_|refine A5 fun _=>?_|refine A4 fun _=>?_);try simp(disch:=first|omega|assumption|((repeat(first|exact A1|exact uH|apply A2|apply uT));first|done|fail)|(simp;first|done|omega|fail))[hi]))
  refine N0 (by (repeat constructor)) (by simp) (by rw [A4p]; omega) (by simp) ?_
  refine B0 () (by simp [hp]) ?_
  have := A6E (f := E3) (k := 4) (fun _ => rfl) l i x hi
  simp only [hp, Option.getD_some, N2, List.length_set, ← this]
  (repeat' constructor)
 by_cases c1 : F3 l x.key < 0
 ·(have zz:=trivial;repeat((first|clear zz|with_reducible first|refine A3 ?_|refine A5 fun _=>?_|refine A4 fun _=>?_);try simp(disch:=first|omega|assumption|((repeat(first|exact A1|exact uH|apply A2|apply uT));first|done|fail)|(simp;first|done|omega|fail))[c1]))
  refine D4 B37 (fun w' hw' => B6H w' v l x.key hk hn (H3.own (by (repeat constructor)) w' hw')) ?_
  by_cases c2 : U4 l x.key < 0
  ·have hp : M7 l x = none := by simp [M7, c1, c2]
   (have zz:=trivial;repeat((first|clear zz|with_reducible first|refine A3 ?_|refine A5 fun _=>?_|refine A4 fun _=>?_);try simp(disch:=first|omega|assumption|((repeat(first|exact A1|exact uH|apply A2|apply uT));first|done|fail)|(simp;first|done|omega|fail))[c2]))
   exact B0 () (by simp [hp]) (by simp only [hp, Option.getD_none]; (repeat' constructor))
  ·have hp : M7 l x = some (l.set (U4 l x.key).toNat x) := by simp [M7, c1, c2]
   have := fin _ (by omega) (B2Q (by omega)) hp
   simp(disch:=first|omega|assumption|((repeat(first|exact A1|exact uH|apply A2|apply uT));first|done|fail)|(simp;first|done|omega|fail))[c2]
   exact this
 ·have hp : M7 l x = some (l.set (F3 l x.key).toNat x) := by simp [M7, c1]
  have := fin _ (by omega) (A8j (by omega)) hp
  simp(disch:=first|omega|assumption|((repeat(first|exact A1|exact uH|apply A2|apply uT));first|done|fail)|(simp;first|done|omega|fail))[c1]
  exact this
def d8 : Nat → List EnV → List (Nat × EnV)
 | _, [] => []
 | i, x :: r => if x.st = 1 then (i, x) :: d8 (i + 1) r else d8 (i + 1) r
def Q1 (l : List EnV) : List (Nat × EnV) := d8 0 l
theorem B4M (i : Nat) (l m : List EnV) : d8 i (l ++ m) = d8 i l ++ d8 (i + l.length) m := by
 induction l generalizing i with
 | nil => simp [d8]
 | cons x l ih =>
  simp only [List.cons_append, d8, ih, List.length_cons]
  split
  ·simp only [List.cons_append]; congr 3; omega
  ·congr 2; omega
theorem B2P {l : List EnV} {i : Nat} {x : EnV} (hx : l[i]? = some x) : Q1 (l.take (i + 1)) = Q1 (l.take i) ++ (if x.st = 1 then [(i, x)] else []) := by
 obtain ⟨hi, _⟩ := List.getElem?_eq_some_iff.1 hx
 rw [List.take_add_one, hx, Q1, B4M, Option.toList_some, List.length_take, Nat.zero_add, Nat.min_eq_left (by omega)]
 simp only [d8, Q1]
theorem C1a {l : List EnV} {i : Nat} {x : EnV} (hx : l[i]? = some x) (h : x.st = 1) : (Q1 l)[(Q1 (l.take i)).length]? = some (i, x) := by
 have e : l = l.take (i + 1) ++ l.drop (i + 1) := (List.take_append_drop _ _).symm
 conv => lhs; arg 1; rw [e]
 rw [Q1, B4M, ← Q1, B2P hx, if_pos h, List.append_assoc, List.getElem?_append_right (by omega)]
 simp
abbrev C4Q (b : Nat) : Value := .func (.func 184) #[] #[.pointer (some ⟨b, 0, none⟩)]
theorem C5D (w : World) (v : Value) (hv : ∃ a n c, v = .slice a n c) : Fn PR B6 158 #[v] w (Rn [] w (fun b u => u = C4Q b) fun b => [.pt b (.cells #[v] 289)]) := by
 obtain ⟨a, n, c, rfl⟩ := hv
 refine A91 (TW.go (κ := false) (S := []) ?_)
 unfold A3F
 (have zz:=trivial;repeat((first|clear zz|with_reducible first|refine A3 ?_|refine A5 fun _=>?_|refine A4 fun _=>?_);try simp(disch:=first|omega|assumption|((repeat(first|exact A1|exact uH|apply A2|apply uT));first|done|fail)|(simp;first|done|omega|fail))[]))
 rename_i b
 exact A40 b rfl (by simp)
theorem C4s (b : Nat) (v : Value) (l : List EnV) (hn : l.length ≤ 1000000) : A57 (C4Q b) [.pt b (.cells #[v] 289)] (RqS v l.length (l.flatMap E3)) ((Q1 l).map A9J) := by
 refine ⟨_, _, _, rfl, fun y J E hJ hE stJ stE hy w0 h0 => ?_⟩
 obtain ⟨a, c, hv, hr⟩ := (hJ _ _ _ h0).2
 subst hv
 refine A7W (A7M (TW.at (κ := true) ?_ (hJ _ _ _ h0).1))
 unfold A0y
 (have zz:=trivial;repeat((first|clear zz|with_reducible first|refine A3 ?_|refine A5 fun _=>?_|refine A4 fun _=>?_);try simp(disch:=first|omega|assumption|((repeat(first|exact A1|exact uH|apply A2|apply uT));first|done|fail)|(simp;first|done|omega|fail))[]))
 refine A3v l.length (fun i => (Q1 (l.take i)).length) (fun _ => _) hJ stJ (by simpa [Q1, d8] using h0) fun i a' hi hJi hRi L hL => ?_
 by_cases hlt : i < l.length
 ·obtain ⟨_, _, hv, hr⟩ := hRi
  obtain ⟨b', o, hb, hrow, hnb⟩ := hr (by omega)
  cases hv
  subst hb
  obtain ⟨x, hx⟩ : ∃ x, l[i]? = some x := ⟨_, List.getElem?_eq_getElem hlt⟩
  have h1 := hrow.at (f := E3) (k := 4) (fun _ => rfl) hx
  rw [E3] at h1
  have hat := B2P hx
  by_cases c1 : x.st = 1
  ·have hg := C1a hx c1
   rw [if_pos c1] at hat
   obtain ⟨hgi, hg'⟩ := List.getElem?_eq_some_iff.1 hg
   have hlen : (Q1 (l.take (i + 1))).length = (Q1 (l.take i)).length + 1 := by rw [hat]; simp
   rw [hlen] at hL
   (have zz:=trivial;repeat((first|clear zz|with_reducible first|refine A3 ?_|refine A5 fun _=>?_|refine A4 fun _=>?_);try simp(disch:=first|omega|assumption|((repeat(first|exact A1|exact uH|apply A2|apply uT));first|done|fail)|(simp;first|done|omega|fail))[hlt, h1, c1]))
   refine A8b hJ hE stJ hy hJi (by simpa using hgi) (by rw [List.getElem_map, hg', A9J, c1]) (fun w3 h => ?_) (fun w3 h => ?_)
   ·(have zz:=trivial;repeat((first|clear zz|with_reducible first|refine A3 ?_|refine A5 fun _=>?_|refine A4 fun _=>?_);try simp(disch:=first|omega|assumption|((repeat(first|exact A1|exact uH|apply A2|apply uT));first|done|fail)|(simp;first|done|omega|fail))[]))
    exact fun w' hw' => hL hlt w' (stJ _ _ _ _ _ h (hw'.sub (by simp)))
   ·(have zz:=trivial;repeat((first|clear zz|with_reducible first|refine A3 ?_|refine A5 fun _=>?_|refine A4 fun _=>?_);try simp(disch:=first|omega|assumption|((repeat(first|exact A1|exact uH|apply A2|apply uT));first|done|fail)|(simp;first|done|omega|fail))[]))
    exact A4z stE h
  ·rw [if_neg c1, List.append_nil] at hat
   rw [hat] at hL
   (have zz:=trivial;repeat((first|clear zz|with_reducible first|refine A3 ?_|refine A5 fun _=>?_|refine A4 fun _=>?_);try simp(disch:=first|omega|assumption|((repeat(first|exact A1|exact uH|apply A2|apply uT));first|done|fail)|(simp;first|done|omega|fail))[hlt, h1, c1]))
   exact fun w' hw' => hL hlt w' (stJ _ _ _ _ _ hJi (hw'.sub (by simp)))
 ·obtain rfl : i = l.length := by omega
  rw [List.take_length] at hJi
  (have zz:=trivial;repeat((first|clear zz|with_reducible first|refine A3 ?_|refine A5 fun _=>?_|refine A4 fun _=>?_);try simp(disch:=first|omega|assumption|((repeat(first|exact A1|exact uH|apply A2|apply uT));first|done|fail)|(simp;first|done|omega|fail))[]))
  exact A5K stJ (by simpa using hJi)
end Go.Proofs.YtpnidmkaobfhiaaGreat
namespace Go.Proofs.YtpnidmkaobfhiaaGreat
open Go
def V9 : EnV := ⟨2, noB, 0, 0⟩
def L5 (l : List EnV) : Prop := ∀ x ∈ l, x.key.size < 2 ^ 60
def V7 (acc : List EnV) (x : EnV) : List EnV := (M7 acc x).getD acc
theorem C11 (acc : List EnV) (x : EnV) : (V7 acc x).length = acc.length := by
 unfold V7
 cases h : M7 acc x with
 | none => rfl
 | some m => exact B1p h
def Z7 (l : List EnV) : List EnV := (Q1 l).foldl (fun acc p => V7 acc p.2) (newE l.length)
theorem B1s (L : List (Nat × EnV)) (a : List EnV) : (L.foldl (fun acc p => V7 acc p.2) a).length = a.length := by
 induction L generalizing a with
 | nil => rfl
 | cons p L ih => rw [List.foldl_cons, ih, C11]
theorem A4x (n : Nat) : (newE n).length = min n 64 := by simp [newE]
theorem B4P {i : Nat} {l : List EnV} : ∀ p ∈ d8 i l, p.2 ∈ l ∧ p.2.st = 1 := by
 induction l generalizing i with
 | nil => intro p hp; cases hp
 | cons x l ih =>
  intro p hp
  simp only [d8] at hp
  split at hp
  ·rcases List.mem_cons.1 hp with rfl | hp
   ·exact ⟨by simp, ‹_›⟩
   ·obtain ⟨h1, h2⟩ := ih p hp; exact ⟨by simp [h1], h2⟩
  ·obtain ⟨h1, h2⟩ := ih p hp; exact ⟨by simp [h1], h2⟩
theorem A77 {κ : Bool} {S : List Nat} {w0 : World} {H : List Res} {K0 : WP} {e : TypeId} {k : Nat} {v : Value} {q : Nat} {xs : List Value} (hm : Res.own e k v q xs ∈ H) (h : v.cells = #[v] → v.cells.size = 1 → v.cells.toList.all plain = true → TW κ S w0 H K0) : TW κ S w0 H K0 := fun w hw => by
 obtain ⟨a, c, rfl⟩ := U9.form (hw.hold _ hm); exact h rfl rfl rfl w hw
theorem H7 {κ : Bool} {S : List Nat} {w0 : World} {H : List Res} {K0 : WP} {e : TypeId} {k : Nat} {v : Value} {q : Nat} {xs : List Value} (hm : Res.own e k v q xs ∈ H) (h : ∀ a c, v = .slice a q c → TW κ S w0 H K0) : TW κ S w0 H K0 := fun w hw => by
 obtain ⟨a, c, rfl⟩ := U9.form (hw.hold _ hm); exact h a c rfl w hw
theorem C4z (w : World) (v : Value) (l : List EnV) (hks : L5 l) (hn : l.length ≤ 1000000) (hv : D2 w v l.length (l.flatMap E3)) :
  Fn PR B6 123 #[v] w (Rn [] w (fun r u => u = r) fun r => [N2 r (Z7 l)]) := by
 refine B45 (TW.go (κ := false) (S := []) ?_)
 unfold A9a
 obtain ⟨a, c, rfl, _⟩ := hv.form
 (have zz:=trivial;repeat((first|clear zz|with_reducible first|refine A3 ?_|refine A5 fun _=>?_|refine A4 fun _=>?_);try simp(disch:=first|omega|assumption|((repeat(first|exact A1|exact uH|apply A2|apply uT));first|done|fail)|(simp;first|done|omega|fail))[]))
 refine G7 A9l (fun w' _ => B1Y w' l.length hn) ?_
 rintro _ r rfl
 refine A77 (e := 155) (k := 4) (v := r) (q := (newE l.length).length) (xs := (newE l.length).flatMap E3) (by (repeat constructor)) fun hr1 hr2 hr3 => ?_
 (have zz:=trivial;repeat((first|clear zz|with_reducible first|refine A3 ?_|refine A5 fun _=>?_|refine A4 fun _=>?_);try simp(disch:=first|omega|assumption|((repeat(first|exact A1|exact uH|apply A2|apply uT));first|done|fail)|(simp;first|done|omega|fail))[hr1]))
 rename_i bt
 refine G7 A8f (fun w' _ => C5D w' (.slice a l.length c) ⟨_, _, _, rfl⟩) ?_
 rintro b _ rfl
 refine A6M (C4s b (.slice a l.length c) l hn) (B2B _) (fun i (acc : List EnV) => acc = ((Q1 l).take i).foldl (fun acc p => V7 acc p.2) (newE l.length)) (fun _ acc => [.pt bt (.cells #[r] 289), N2 r acc])
  (fun c (y : Unit) => False) (fun y => []) (newE l.length) (by simp) ?_ ?_ ?_ ?_ (by simp)
 ·intro i _ F w1 _ hw
  exact RqS.of hv (fun h => by rw [A4p]; omega) hw
 ·rintro i hi acc F hψ K' hK _
  have hi' : i < (Q1 l).length := by simpa using hi
  have hm : (Q1 l)[i] ∈ Q1 l := List.getElem_mem hi'
  have hst : ((Q1 l).take (i + 1)).foldl (fun acc p => V7 acc p.2) (newE l.length) = V7 acc (Q1 l)[i].2 := by
   rw [List.take_add_one, List.getElem?_eq_getElem hi', Option.toList_some, List.foldl_append, ← hψ]; rfl
  have hlen : acc.length ≤ 64 := by rw [hψ, B1s, A4x]; omega
  simp only [List.getElem_map]
  generalize (Q1 l)[i] = p at *
  have hkp := hks p.2 (B4P p hm).1
  simp only [A9J, VF.app]
  (have zz:=trivial;repeat((first|clear zz|with_reducible first|refine A3 ?_|refine A5 fun _=>?_|refine A4 fun _=>?_);try simp(disch:=first|omega|assumption|((repeat(first|exact A1|exact uH|apply A2|apply uT));first|done|fail)|(simp;first|done|omega|fail))[]))
  refine C0 (Hc := [N2 r acc]) A9r (fun w' hw hs => C5W w' r acc p.2 hkp (by omega) hs) (by (repeat' constructor)) ?_
  rintro _ _ rfl
  refine TW.sub (TW.perm (hK (V7 acc p.2) hst.symm) ?_) (H' := N2 r (V7 acc p.2) :: .pt bt (.cells #[r] 289) :: F) ?_
  ·exact List.Perm.swap ..
  ·simp only [V7]; ((try simp only [List.cons_append, List.nil_append, List.append_assoc]); (repeat (first | exact List.Sublist.refl _ | exact List.nil_sublist _ | with_reducible apply List.Sublist.cons_cons | apply List.Sublist.cons)); first | done | fail)
 ·intro acc hψ
  simp only [List.length_map, List.take_length] at hψ
  subst hψ
  (have zz:=trivial;repeat((first|clear zz|with_reducible first|refine A3 ?_|refine A5 fun _=>?_|refine A4 fun _=>?_);try simp(disch:=first|omega|assumption|((repeat(first|exact A1|exact uH|apply A2|apply uT));first|done|fail)|(simp;first|done|omega|fail))[]))
  exact B0 r rfl (by simp only [Z7]; (repeat' constructor))
 ·rintro _ _ h; exact h.elim
def B51 (l : List EnV) (key : ByteArray) : Option (List EnV) := if F3 l key < 0 then none else some (l.set (F3 l key).toNat V9)
def M5 (u : List EnV) : List EnV := if u.length < 2 * N3 u 2 then Z7 u else u
def C6e (l : List EnV) (key : ByteArray) : List EnV := match B51 l key with | some u => M5 u | none => l
def W3 (l : List EnV) : Bool := (Q1 l).all fun p => decide (F3 l p.2.key = p.1)
end Go.Proofs.YtpnidmkaobfhiaaGreat
namespace Go.Proofs.YtpnidmkaobfhiaaGreat
open Go
theorem r6 (x : Nat × Int) : (L0 x).length = 2 := rfl
abbrev A8s (v : Value) (l : List (Nat × Int)) : Res := .own 210 2 v l.length (l.flatMap L0)
theorem RqS.of2 {S : List Nat} {v : Value} {n : Nat} {xs : List Value} {w0 w : World} {A F : List Res} (h : D2 w0 v n xs) (hx : 0 < n → 0 < xs.length) (hS : 0 < n → ∀ g ∈ Q9 v, g ∉ S) (hw : LW false S w0 (A ++ F) w) : RqS v n xs F w := by
 obtain ⟨a, c, rfl, hr⟩ := h.form
 refine ⟨a, c, rfl, fun hn => ?_⟩
 obtain ⟨b, o, rfl, hrow⟩ := hr hn
 have hb := hS hn b (by simp [Q9])
 refine ⟨b, o, rfl, hw.ks.row hb hrow, hw.notin_old ?_ hb⟩
 have h0 := hrow 0 (hx hn)
 rw [List.getElem?_eq_getElem (hx hn)] at h0
 obtain ⟨c', t', z', h1, h2⟩ := A0D h0
 exact P7 h1
theorem D2.ks0 {κ : Bool} {S : List Nat} {a b : World} {v : Value} {n : Nat} {xs : List Value} (h : D2 a v n xs) (hx : n = 0 → xs = []) (hk : KS κ S a b) (hS : 0 < n → ∀ g ∈ Q9 v, g ∉ S) : D2 b v n xs := by
 rcases Nat.eq_zero_or_pos n with h0 | h0
 ·obtain ⟨c, d, rfl, _⟩ := h.form
  exact Or.inl ⟨h0, hx h0, c, d, by rw [h0]⟩
 ·exact h.ks hk (hS h0)
theorem C5z (b : G8) : wtN b ≤ 128 := by unfold wtN; omega
theorem B3m (p : List G8) : (M0 p).length ≤ p.length * 128 := by
 induction p with
 | nil => simp [M0]
 | cons b p ih =>
  have := C5z b
  have e : (M0 (b :: p)).length = wtN b + (M0 p).length := by simp [M0, B3N]
  rw [e, List.length_cons]; omega
theorem B61 (w : World) (b : Nat) (v : Value) (p : List G8) (hn : p.length ≤ 1000) (hv : D2 w v p.length (p.flatMap E6)) (hS : 0 < p.length → ∀ g ∈ Q9 v, g ∉ [b])
  (hw : LW false [b] w [.pt b (.cells #[v] 36)] w) :
  Fn PR B6 161 #[.slice none 0 0, B2q b] w (Rn [b] w (fun r u => u = r) fun r => [A8s r (M0 p)]) := by
 refine k8 (TW.goH (κ := false) (S := [b]) ?_ hw)
 unfold S7
 (have zz:=trivial;repeat((first|clear zz|with_reducible first|refine A3 ?_|refine A5 fun _=>?_|refine A4 fun _=>?_);try simp(disch:=first|omega|assumption|((repeat(first|exact A1|exact uH|apply A2|apply uT));first|done|fail)|(simp;first|done|omega|fail))[]))
 rename_i bt
 have hll := B3m p
 refine j9 210 2 ?_
 refine Sels.tw (rs := [.pt b (.cells #[v] 36), .own 210 2 (.slice none 0 0) 0 [], .pt bt (.cells #[.slice none 0 0] 206)]) (by (repeat' constructor)) ?_
 refine A6M (C2g b v p (by omega)) (by intro y hy; obtain ⟨p, _, rfl⟩ := List.mem_map.1 hy; rfl) (fun i (x : Option Addr × Nat) => True) (fun i x => [.own 210 2 (.slice x.1 i x.2) i (((M0 p).take i).flatMap L0), .pt bt (.cells #[.slice x.1 i x.2] 206)])
  (fun c (y : Unit) => False) (fun y => []) (none, 0) trivial ?_ ?_ ?_ ?_ (by simp)
 ·intro i _ F w1 _ hw
  exact RqS.of2 hv (fun h => by rw [P0 (k := 2) fun _ => rfl]; omega) hS hw
 ·rintro i hi ⟨xa, xc⟩ F _ K' hK _
  have hi' : i < (M0 p).length := by simpa using hi
  have hst : ((M0 p).take (i + 1)).flatMap L0 = ((M0 p).take i).flatMap L0 ++ L0 (M0 p)[i] := by
   rw [List.take_add_one, List.getElem?_eq_getElem hi', List.flatMap_append]; simp
  simp only [hst] at hK
  simp only [List.getElem_map]
  have hl0 : (((M0 p).take i).flatMap L0).length = i * 2 := by rw [P0 r6, List.length_take]; congr 1; omega
  generalize (M0 p)[i] = q at *
  simp only [ptA, VF.app, L0] at *
  (have zz:=trivial;repeat((first|clear zz|with_reducible first|refine A3 ?_|refine A5 fun _=>?_|refine A4 fun _=>?_|refine T6 fun _=>?_|refine T0 (hK:=fun _=>?_)|refine T8 (hK:=fun _=>?_)|refine T2 (hK:=fun _=>?_)|refine T3 (hK:=fun _=>?_)|refine T7 (hK:=fun _=>?_));try simp(disch:=first|omega|assumption|((repeat(first|exact A1|exact uH|apply A2|apply uT));first|done|fail)|(simp;first|done|omega|fail))[]))
  refine W9 (e := 210) (k := 2) (q := i) (r := 1) (xs := ((M0 p).take i).flatMap L0) (news := [.int .u64 (q.1 : Nat), .int .i64 q.2]) (by (repeat constructor)) (H3.own (by (repeat constructor))) (by decide) (by simp) (by simp) (by simp only [maxLen]; omega) (by omega) fun a' c' => ?_
  (have zz:=trivial;repeat((first|clear zz|with_reducible first|refine A3 ?_|refine A5 fun _=>?_|refine A4 fun _=>?_);try simp(disch:=first|omega|assumption|((repeat(first|exact A1|exact uH|apply A2|apply uT));first|done|fail)|(simp;first|done|omega|fail))[]))
  exact TW.sub (hK (a', c') trivial) (by ((try simp only [List.cons_append, List.nil_append, List.append_assoc]); (repeat (first | exact List.Sublist.refl _ | exact List.nil_sublist _ | with_reducible apply List.Sublist.cons_cons | apply List.Sublist.cons)); first | done | fail))
 ·rintro ⟨xa, xc⟩ _
  (have zz:=trivial;repeat((first|clear zz|with_reducible first|refine A3 ?_|refine A5 fun _=>?_|refine A4 fun _=>?_);try simp(disch:=first|omega|assumption|((repeat(first|exact A1|exact uH|apply A2|apply uT));first|done|fail)|(simp;first|done|omega|fail))[]))
  refine B0 (.slice xa (M0 p).length xc) rfl ?_
  exact Sels.cons Sel.here Sels.nil
 ·rintro _ _ h; exact h.elim
theorem B84 (w : World) (b : Nat) (v : Value) (p : List G8) (hn : p.length ≤ 1000) (hv : D2 w v p.length (p.flatMap E6)) (hS : 0 < p.length → ∀ g ∈ Q9 v, g ∉ [b])
  (hw : LW false [b] w [.pt b (.cells #[v] 36)] w) :
  Fn PR B6 127 #[B2q b] w (Rn [b] w (fun r u => u = r) fun r => [A8s r (M0 p)]) := by
 refine A29 (TW.goH (κ := false) (S := [b]) ?_ hw)
 unfold j5
 refine C0 (Hc := [.pt b (.cells #[v] 36)]) f7 (fun w' hw' hs => B61 w' b v p hn (hv.ks0 (fun h => by rw [List.length_eq_zero_iff.1 h]; rfl) hw'.ks hS) hS hs) (by (repeat' constructor)) ?_
 rintro _ r rfl
 exact B0 r rfl (by (repeat' constructor))
end Go.Proofs.YtpnidmkaobfhiaaGreat
namespace Go.Proofs.YtpnidmkaobfhiaaGreat
open Go
def B3b (f : Nat → Bool) (i j : Nat) : Nat :=
 if i < j then if f ((i + j) / 2) then B3b f i ((i + j) / 2) else B3b f ((i + j) / 2 + 1) j else i
 termination_by j - i
def geP (l : List (Nat × Int)) (h : Nat) (i : Nat) : Bool := decide (h ≤ (l.getD i (0, 0)).1)
def C8v (l : List (Nat × Int)) (h : Nat) : Int := if l.length = 0 then -1 else (l.getD (B3b (geP l h) 0 l.length % l.length) (0, 0)).2
theorem getD_some {α : Type} {l : List α} {i : Nat} (d : α) (h : i < l.length) : l[i]? = some (l.getD i d) := by
 rw [List.getD_eq_getElem?_getD, List.getElem?_eq_getElem h]; rfl
def leP (x y : Nat × Int) : Bool := decide (x.1 < y.1 ∨ (x.1 = y.1 ∧ x.2 ≤ y.2))
def W8 (l : List (Nat × Int)) : List (Nat × Int) := l.mergeSort leP
theorem A16 (l : List (Nat × Int)) : (W8 l).length = l.length := by simp [W8]
def C7y (p : List G8) (h : Nat) : Int := C8v (W8 (M0 p)) h
end Go.Proofs.YtpnidmkaobfhiaaGreat
namespace Go.Proofs.YtpnidmkaobfhiaaGreat
open Go
theorem B4G (w : World) (key : ByteArray) (n : Nat) (hk : key.size < 2 ^ 60) (hn : n ≤ 1000000) : Fn PR B6 209 #[.string key, .int .i64 (n : Int)] w (fun v w' => v = .int .i64 (if n = 0 then 0 else G9 key n : Nat) ∧ D6 [] w w') := by
 refine Fn.pure (A67 (TW.go (κ := false) (S := []) ?_))
 unfold A1D
 by_cases c1 : n = 0
 ·have c1' : (n : Int) < 1 := by omega
  (have zz:=trivial;repeat((first|clear zz|with_reducible first|refine A3 ?_|refine A5 fun _=>?_|refine A4 fun _=>?_);try simp(disch:=first|omega|assumption|((repeat(first|exact A1|exact uH|apply A2|apply uT));first|done|fail)|(simp;first|done|omega|fail))[c1']))
  exact B4 (by simp [c1])
 have c1' : ¬ (n : Int) < 1 := by omega
 have c1'' : ¬ (n : Int) = 0 := by omega
 (have zz:=trivial;repeat((first|clear zz|with_reducible first|refine A3 ?_|refine A5 fun _=>?_|refine A4 fun _=>?_);try simp(disch:=first|omega|assumption|((repeat(first|exact A1|exact uH|apply A2|apply uT));first|done|fail)|(simp;first|done|omega|fail))[c1']))
 refine D4 A7C (fun w' _ => C5F w' key hk) ?_
 have hl := B4F key
 have hm : G9 key n < n := Nat.mod_lt _ (by omega)
 have e1 : ((A44 key : Nat) : Int).tmod n = (G9 key n : Nat) := by unfold G9; rw [Int.tmod_eq_emod_of_nonneg (by omega)]; omega
 have e2 : ((A44 key : Nat) : Int) % n = (G9 key n : Nat) := by unfold G9; omega
 (have zz:=trivial;repeat((first|clear zz|with_reducible first|refine A3 ?_|refine A5 fun _=>?_|refine A4 fun _=>?_);try simp(disch:=first|omega|assumption|((repeat(first|exact A1|exact uH|apply A2|apply uT));first|done|fail)|(simp;first|done|omega|fail))[c1'', e1, j6]))
 exact B4 (by simp [c1])
theorem B6r {l : List EnV} {key : ByteArray} {i : Nat} (hi : i < l.length) : (P3 l key).drop i = ((G9 key l.length + i) % l.length, l.getD ((G9 key l.length + i) % l.length) p7) :: (P3 l key).drop (i + 1) := by
 have h : i < (P3 l key).length := by simpa [P3] using hi
 rw [List.drop_eq_getElem_cons h]
 simp [P3]
theorem B7l {n h i : Nat} (hn : 0 < n) : ((h : Int) + (i : Int)).tmod (n : Int) = ((h + i) % n : Nat) := by
 rw [Int.tmod_eq_emod_of_nonneg (by omega), Int.natCast_emod, Int.natCast_add]
theorem B4s (w : World) (v : Value) (l : List EnV) (key : ByteArray) (hk : key.size < 2 ^ 60) (hn : l.length ≤ 1000000) (hv : D2 w v l.length (l.flatMap E3)) :
  Fn PR B6 195 #[v, .string key] w (fun r w' => r = .int .i64 (F3 l key) ∧ D6 [] w w') := by
 refine Fn.pure (A6x (TW.go (κ := false) (S := []) ?_))
 unfold A1K
 obtain ⟨a, c, rfl, hr⟩ := hv.form
 (have zz:=trivial;repeat((first|clear zz|with_reducible first|refine A3 ?_|refine A5 fun _=>?_|refine A4 fun _=>?_);try simp(disch:=first|omega|assumption|((repeat(first|exact A1|exact uH|apply A2|apply uT));first|done|fail)|(simp;first|done|omega|fail))[]))
 refine D4 A0g (fun w' _ => B4G w' key l.length hk hn) ?_
 by_cases h0 : l.length = 0
 ·have h0' : ¬ (0 : Int) < l.length := by omega
  (have zz:=trivial;repeat((first|clear zz|with_reducible first|refine A3 ?_|refine A5 fun _=>?_|refine A4 fun _=>?_);try simp(disch:=first|omega|assumption|((repeat(first|exact A1|exact uH|apply A2|apply uT));first|done|fail)|(simp;first|done|omega|fail))[h0]))
  refine Q6 0 (fun _ _ => .int .i64 0) (fun _ (_ : Unit) => []) (fun _ _ => True) () trivial ?_
  rintro i _ hi _ L hL
  obtain rfl : i = 0 := by omega
  (have zz:=trivial;repeat((first|clear zz|with_reducible first|refine A3 ?_|refine A5 fun _=>?_|refine A4 fun _=>?_);try simp(disch:=first|omega|assumption|((repeat(first|exact A1|exact uH|apply A2|apply uT));first|done|fail)|(simp;first|done|omega|fail))[h0, h0']))
  refine B4 ?_
  have : l = [] := List.length_eq_zero_iff.1 h0
  subst this; rfl
 have hm : G9 key l.length < l.length := Nat.mod_lt _ (by omega)
 rw [if_neg h0]
 (have zz:=trivial;repeat((first|clear zz|with_reducible first|refine A3 ?_|refine A5 fun _=>?_|refine A4 fun _=>?_);try simp(disch:=first|omega|assumption|((repeat(first|exact A1|exact uH|apply A2|apply uT));first|done|fail)|(simp;first|done|omega|fail))[]))
 refine Q6 l.length (fun _ _ => .int .i64 0) (fun _ (_ : Unit) => []) (fun i _ => L8 key ((P3 l key).drop i) = F3 l key) () rfl ?_
 rintro i _ hi hφ L hL
 by_cases hlt : i < l.length
 ·obtain ⟨b, o, rfl, hrow⟩ := hr (by omega)
  rw [B6r hlt] at hφ
  have hq : (G9 key l.length + i) % l.length < l.length := Nat.mod_lt _ (by omega)
  have hrem := B7l (n := l.length) (h := G9 key l.length) (i := i) (by omega)
  have hnz : ¬ (l.length : Int) = 0 := by omega
  generalize (G9 key l.length + i) % l.length = q at *
  have hx := getD_some p7 hq
  have h1 := hrow.cellAt (f := E3) (k := 4) (j := 0) (fun _ => rfl) hx rfl
  have h2 := hrow.cellAt (f := E3) (k := 4) (j := 1) (fun _ => rfl) hx rfl
  generalize l.getD q p7 = x at *
  simp only [L8] at hφ
  by_cases c0 : x.st = 0
  ·rw [if_pos c0] at hφ
   (have zz:=trivial;repeat((first|clear zz|with_reducible first|refine A3 ?_|refine A5 fun _=>?_|refine A4 fun _=>?_);try simp(disch:=first|omega|assumption|((repeat(first|exact A1|exact uH|apply A2|apply uT));first|done|fail)|(simp;first|done|omega|fail))[hlt, hrem, hnz, j6, c0]))
   exact B4 (by rw [← hφ])
  rw [if_neg c0] at hφ
  by_cases c1 : x.st = 1
  ·by_cases c2 : x.key = key
   ·rw [if_pos ⟨c1, c2⟩] at hφ
    (have zz:=trivial;repeat((first|clear zz|with_reducible first|refine A3 ?_|refine A5 fun _=>?_|refine A4 fun _=>?_);try simp(disch:=first|omega|assumption|((repeat(first|exact A1|exact uH|apply A2|apply uT));first|done|fail)|(simp;first|done|omega|fail))[hlt, hrem, hnz, j6, c0, c1, c2]))
    exact B4 (by rw [← hφ])
   ·rw [if_neg (fun h => c2 h.2)] at hφ
    (have zz:=trivial;repeat((first|clear zz|with_reducible first|refine A3 ?_|refine A5 fun _=>?_|refine A4 fun _=>?_);try simp(disch:=first|omega|assumption|((repeat(first|exact A1|exact uH|apply A2|apply uT));first|done|fail)|(simp;first|done|omega|fail))[hlt, hrem, hnz, j6, c0, c1, c2]))
    exact hL hlt () hφ
  ·rw [if_neg (fun h => c1 h.1)] at hφ
   (have zz:=trivial;repeat((first|clear zz|with_reducible first|refine A3 ?_|refine A5 fun _=>?_|refine A4 fun _=>?_);try simp(disch:=first|omega|assumption|((repeat(first|exact A1|exact uH|apply A2|apply uT));first|done|fail)|(simp;first|done|omega|fail))[hlt, hrem, hnz, j6, c0, c1]))
   exact hL hlt () hφ
 ·obtain rfl : i = l.length := by omega
  have hwl : (P3 l key).length = l.length := by simp [P3]
  rw [List.drop_of_length_le (by omega)] at hφ
  (have zz:=trivial;repeat((first|clear zz|with_reducible first|refine A3 ?_|refine A5 fun _=>?_|refine A4 fun _=>?_);try simp(disch:=first|omega|assumption|((repeat(first|exact A1|exact uH|apply A2|apply uT));first|done|fail)|(simp;first|done|omega|fail))[]))
  exact B4 (by rw [← hφ]; rfl)
theorem B98 (w : World) (v : Value) (l : List EnV) (key : ByteArray) (hk : key.size < 2 ^ 60) (hn : l.length ≤ 1000000) (hv : D2 w v l.length (l.flatMap E3)) :
  Fn PR B6 196 #[v, .string key] w (fun r w' => r = .int .i64 (U4 l key) ∧ D6 [] w w') := by
 refine Fn.pure (A6w (TW.go (κ := false) (S := []) ?_))
 unfold A1M
 obtain ⟨a, c, rfl, hr⟩ := hv.form
 refine D4 A0p (fun w' hw' => B4s w' _ l key hk hn (hv.ks hw'.ks (by simp))) ?_
 by_cases cf : 0 ≤ F3 l key
 ·(have zz:=trivial;repeat((first|clear zz|with_reducible first|refine A3 ?_|refine A5 fun _=>?_|refine A4 fun _=>?_);try simp(disch:=first|omega|assumption|((repeat(first|exact A1|exact uH|apply A2|apply uT));first|done|fail)|(simp;first|done|omega|fail))[cf]))
  exact B4 (by rw [U4, if_pos cf])
 have hre : U4 l key = Q0 (P3 l key) := if_neg cf
 rw [hre]
 (have zz:=trivial;repeat((first|clear zz|with_reducible first|refine A3 ?_|refine A5 fun _=>?_|refine A4 fun _=>?_);try simp(disch:=first|omega|assumption|((repeat(first|exact A1|exact uH|apply A2|apply uT));first|done|fail)|(simp;first|done|omega|fail))[cf]))
 refine D4 A0g (fun w' _ => B4G w' key l.length hk hn) ?_
 by_cases h0 : l.length = 0
 ·have h0' : ¬ (0 : Int) < l.length := by omega
  (have zz:=trivial;repeat((first|clear zz|with_reducible first|refine A3 ?_|refine A5 fun _=>?_|refine A4 fun _=>?_);try simp(disch:=first|omega|assumption|((repeat(first|exact A1|exact uH|apply A2|apply uT));first|done|fail)|(simp;first|done|omega|fail))[h0]))
  refine Q6 0 (fun _ _ => .int .i64 0) (fun _ (_ : Unit) => []) (fun _ _ => True) () trivial ?_
  rintro i _ hi _ L hL
  obtain rfl : i = 0 := by omega
  (have zz:=trivial;repeat((first|clear zz|with_reducible first|refine A3 ?_|refine A5 fun _=>?_|refine A4 fun _=>?_);try simp(disch:=first|omega|assumption|((repeat(first|exact A1|exact uH|apply A2|apply uT));first|done|fail)|(simp;first|done|omega|fail))[h0, h0']))
  refine B4 ?_
  have : l = [] := List.length_eq_zero_iff.1 h0
  subst this; rfl
 have hm : G9 key l.length < l.length := Nat.mod_lt _ (by omega)
 rw [if_neg h0]
 (have zz:=trivial;repeat((first|clear zz|with_reducible first|refine A3 ?_|refine A5 fun _=>?_|refine A4 fun _=>?_);try simp(disch:=first|omega|assumption|((repeat(first|exact A1|exact uH|apply A2|apply uT));first|done|fail)|(simp;first|done|omega|fail))[]))
 refine Q6 l.length (fun _ _ => .int .i64 0) (fun _ (_ : Unit) => []) (fun i _ => Q0 ((P3 l key).drop i) = Q0 (P3 l key)) () rfl ?_
 rintro i _ hi hφ L hL
 by_cases hlt : i < l.length
 ·obtain ⟨b, o, rfl, hrow⟩ := hr (by omega)
  rw [B6r hlt] at hφ
  have hq : (G9 key l.length + i) % l.length < l.length := Nat.mod_lt _ (by omega)
  have hrem := B7l (n := l.length) (h := G9 key l.length) (i := i) (by omega)
  have hnz : ¬ (l.length : Int) = 0 := by omega
  generalize (G9 key l.length + i) % l.length = q at *
  have hx := getD_some p7 hq
  have h1 := hrow.cellAt (f := E3) (k := 4) (j := 0) (fun _ => rfl) hx rfl
  generalize l.getD q p7 = x at *
  simp only [Q0] at hφ
  by_cases c1 : x.st = 1
  ·rw [if_pos c1] at hφ
   (have zz:=trivial;repeat((first|clear zz|with_reducible first|refine A3 ?_|refine A5 fun _=>?_|refine A4 fun _=>?_);try simp(disch:=first|omega|assumption|((repeat(first|exact A1|exact uH|apply A2|apply uT));first|done|fail)|(simp;first|done|omega|fail))[hlt, hrem, hnz, j6, c1]))
   exact hL hlt () hφ
  ·rw [if_neg c1] at hφ
   (have zz:=trivial;repeat((first|clear zz|with_reducible first|refine A3 ?_|refine A5 fun _=>?_|refine A4 fun _=>?_);try simp(disch:=first|omega|assumption|((repeat(first|exact A1|exact uH|apply A2|apply uT));first|done|fail)|(simp;first|done|omega|fail))[hlt, hrem, hnz, j6, c1]))
   exact B4 (by rw [← hφ])
 ·obtain rfl : i = l.length := by omega
  have hwl : (P3 l key).length = l.length := by simp [P3]
  rw [List.drop_of_length_le (by omega)] at hφ
  (have zz:=trivial;repeat((first|clear zz|with_reducible first|refine A3 ?_|refine A5 fun _=>?_|refine A4 fun _=>?_);try simp(disch:=first|omega|assumption|((repeat(first|exact A1|exact uH|apply A2|apply uT));first|done|fail)|(simp;first|done|omega|fail))[]))
  exact B4 (by rw [← hφ]; rfl)
theorem B90 (w : World) (u v : Value) (l m : List EnV) (hn : l.length ≤ 1000000) (hm : m.length ≤ 1000000) (hu : D2 w u l.length (l.flatMap E3)) (hv : D2 w v m.length (m.flatMap E3)) :
  Fn PR B6 27 #[u, v] w (fun r w' => r = .bool (decide (l = m)) ∧ D6 [] w w') := by
 refine Fn.pure (A7K (TW.go (κ := false) (S := []) ?_))
 unfold A1N
 obtain ⟨a, c, rfl, hr⟩ := hu.form
 obtain ⟨a', c', rfl, hr'⟩ := hv.form
 by_cases hlen : l.length = m.length
 case neg =>
  have hne : ¬ l = m := fun h => hlen (by rw [h])
  have hl' : ¬ ((l.length : Nat) : Int) = m.length := by omega
  (have zz:=trivial;repeat((first|clear zz|with_reducible first|refine A3 ?_|refine A5 fun _=>?_|refine A4 fun _=>?_);try simp(disch:=first|omega|assumption|((repeat(first|exact A1|exact uH|apply A2|apply uT));first|done|fail)|(simp;first|done|omega|fail))[hl', hlen]))
  exact B4 (by simp [hne])
 (have zz:=trivial;repeat((first|clear zz|with_reducible first|refine A3 ?_|refine A5 fun _=>?_|refine A4 fun _=>?_);try simp(disch:=first|omega|assumption|((repeat(first|exact A1|exact uH|apply A2|apply uT));first|done|fail)|(simp;first|done|omega|fail))[hlen]))
 refine Q6 (α := Unit) m.length (fun _ _ => .bool false) (fun _ _ => []) (fun i _ => ∀ j, j < i → l[j]? = m[j]?) () (by intro j hj; omega) ?_
 rintro i _ hi hpre L hL
 by_cases hlt : i < m.length
 ·obtain ⟨b, o, rfl, hrow⟩ := hr (by omega)
  obtain ⟨b', o', rfl, hrow'⟩ := hr' (by omega)
  obtain ⟨x, hx⟩ : ∃ x, l[i]? = some x := ⟨_, List.getElem?_eq_getElem (by omega)⟩
  obtain ⟨y, hy⟩ : ∃ y, m[i]? = some y := ⟨_, List.getElem?_eq_getElem hlt⟩
  have h1 := hrow.at (f := E3) (k := 4) (fun _ => rfl) hx
  have h2 := hrow'.at (f := E3) (k := 4) (fun _ => rfl) hy
  rw [E3] at h1 h2
  by_cases he : x = y
  ·subst he
   (have zz:=trivial;repeat((first|clear zz|with_reducible first|refine A3 ?_|refine A5 fun _=>?_|refine A4 fun _=>?_);try simp(disch:=first|omega|assumption|((repeat(first|exact A1|exact uH|apply A2|apply uT));first|done|fail)|(simp;first|done|omega|fail))[hlt, hlen, h1, h2]))
   refine Sels.tw .nil (hL hlt () ?_)
   intro j hj
   by_cases hji : j = i
   ·subst hji; rw [hx, hy]
   ·exact hpre j (by omega)
  ·have hne : ¬ l = m := fun h => he (by rw [h] at hx; rw [hx] at hy; exact Option.some.inj hy)
   have he' : ¬ (x.st = y.st ∧ x.key = y.key ∧ x.bk = y.bk ∧ x.dl = y.dl) := fun h => he (by cases x; cases y; simpa using h)
   (have zz:=trivial;repeat((first|clear zz|with_reducible first|refine A3 ?_|refine A5 fun _=>?_|refine A4 fun _=>?_);try simp(disch:=first|omega|assumption|((repeat(first|exact A1|exact uH|apply A2|apply uT));first|done|fail)|(simp;first|done|omega|fail))[hlt, hlen, h1, h2]))
   refine B8j (fun _ => B4 (by simp [hne])) fun hc => absurd ?_ he'
   refine ⟨Classical.byContradiction fun h => hc (Or.inl h), Classical.byContradiction fun h => hc (Or.inr (Or.inl h)), Classical.byContradiction fun h => hc (Or.inr (Or.inr (Or.inl h))), Classical.byContradiction fun h => hc (Or.inr (Or.inr (Or.inr h)))⟩
 ·obtain rfl : i = m.length := by omega
  have : l = m := C5p hlen fun j hj => hpre j (by omega)
  (have zz:=trivial;repeat((first|clear zz|with_reducible first|refine A3 ?_|refine A5 fun _=>?_|refine A4 fun _=>?_);try simp(disch:=first|omega|assumption|((repeat(first|exact A1|exact uH|apply A2|apply uT));first|done|fail)|(simp;first|done|omega|fail))[hlen]))
  exact B4 (by rw [decide_eq_true this])
theorem B2w (w : World) (v : Value) (l : List EnV) (st : Int) (hn : l.length ≤ 1000000) (hv : D2 w v l.length (l.flatMap E3)) :
  Fn PR B6 85 #[v, .int .i64 st] w (fun r w' => r = .int .i64 (N3 l st : Nat) ∧ D6 [] w w') := by
 refine Fn.pure (A5n (TW.go (κ := false) (S := []) ?_))
 unfold A0Y
 obtain ⟨a, c, rfl, hr⟩ := hv.form
 (have zz:=trivial;repeat((first|clear zz|with_reducible first|refine A3 ?_|refine A5 fun _=>?_|refine A4 fun _=>?_);try simp(disch:=first|omega|assumption|((repeat(first|exact A1|exact uH|apply A2|apply uT));first|done|fail)|(simp;first|done|omega|fail))[]))
 refine Q6 (α := Unit) l.length (fun i _ => .int .i64 (N3 (l.take i) st : Nat)) (fun _ _ => []) (fun _ _ => True) () trivial ?_
 rintro i _ hi _ L hL
 by_cases hlt : i < l.length
 ·obtain ⟨b, o, rfl, hrow⟩ := hr (by omega)
  have hx : l[i]? = some l[i] := List.getElem?_eq_getElem hlt
  have h1 := hrow.cellAt (f := E3) (k := 4) (j := 0) (fun _ => rfl) hx rfl
  have hc := B1m (p := fun x : EnV => decide (x.st = st)) hx
  have hle : N3 (l.take i) st ≤ i := Nat.le_trans List.countP_le_length (by simp; omega)
  have e : N3 (l.take (i + 1)) st = N3 (l.take i) st + if decide (l[i].st = st) then 1 else 0 := hc
  have hw1 : IntKind.i64.wrap (((N3 (l.take i) st : Nat) : Int) + 1) = ((N3 (l.take i) st : Nat) : Int) + 1 := N1 (by omega) (by omega)
  by_cases c1 : l[i].st = st
  ·(have zz:=trivial;repeat((first|clear zz|with_reducible first|refine A3 ?_|refine A5 fun _=>?_|refine A4 fun _=>?_);try simp(disch:=first|omega|assumption|((repeat(first|exact A1|exact uH|apply A2|apply uT));first|done|fail)|(simp;first|done|omega|fail))[hlt, h1, c1, hw1]))
   have h := hL hlt () trivial
   rw [e, if_pos (by simpa using c1)] at h
   simpa using h
  ·(have zz:=trivial;repeat((first|clear zz|with_reducible first|refine A3 ?_|refine A5 fun _=>?_|refine A4 fun _=>?_);try simp(disch:=first|omega|assumption|((repeat(first|exact A1|exact uH|apply A2|apply uT));first|done|fail)|(simp;first|done|omega|fail))[hlt, h1, c1]))
   have h := hL hlt () trivial
   rw [e, if_neg (by simpa using c1)] at h
   simpa using h
 ·obtain rfl : i = l.length := by omega
  (have zz:=trivial;repeat((first|clear zz|with_reducible first|refine A3 ?_|refine A5 fun _=>?_|refine A4 fun _=>?_);try simp(disch:=first|omega|assumption|((repeat(first|exact A1|exact uH|apply A2|apply uT));first|done|fail)|(simp;first|done|omega|fail))[]))
  exact B4 rfl
end Go.Proofs.YtpnidmkaobfhiaaGreat
namespace Go.Proofs.YtpnidmkaobfhiaaGreat
open Go
def A71 (X : Nat → Prop) (t0 : Value) (R : Value → WP) : WP :=
 B9 PR X (Instr.box 23 t0) fun t1 =>
 B9 PR X (Instr.alloc 31 true (.tuple #[])) fun t3 =>
 C2 PR X (Instr.storeAt 31 t3 (.int .i64 0)) <|
 A0 PR (Instr.makeFunc (.func 73) #[] #[t3]) fun t5 =>
 A0 PR (Instr.fieldAt 23 t1 0) fun t7 =>
 A6 PR (Instr.loadAt 3 t7) fun t8 =>
 q6 PR X t5 [t8, (.int .i64 1), (.int .i64 64)] fun t9 =>
 A0 PR (Instr.fieldAt 23 t1 1) fun t11 =>
 A6 PR (Instr.loadAt 3 t11) fun t12 =>
 q6 PR X t5 [t12, (.int .i64 1), (.int .i64 16)] fun t13 =>
 A0 PR (Instr.fieldAt 23 t1 2) fun t15 =>
 A6 PR (Instr.loadAt 3 t15) fun t16 =>
 q6 PR X t5 [t16, (.int .i64 1), (.int .i64 64)] fun t17 =>
 A0 PR (Instr.fieldAt 23 t1 3) fun t19 =>
 A6 PR (Instr.loadAt 3 t19) fun t20 =>
 q6 PR X t5 [t20, (.int .i64 0), (.int .i64 1000000)] fun t21 =>
 A0 PR (Instr.fieldAt 23 t1 4) fun t23 =>
 A6 PR (Instr.loadAt 3 t23) fun t24 =>
 q6 PR X t5 [t24, (.int .i64 2), (.int .i64 8)] fun t25 =>
 A6 PR (Instr.loadAt 31 t3) fun t26 =>
 R t26
theorem B24 : B2 PR 31 := A7 Tryz.func31 (by kernel_rfl) rfl
theorem B3U {X : Nat → Prop} {t0 : Value} {R : Value → WP} {w : World} (h : A71 X t0 R w) : Fn PR X 31 #[t0] w R := C9 (args := [t0]) mixed Tryz.func31 (by kernel_rfl) h
def A4U (X : Nat → Prop) (t0 t1 t2 t3 : Value) (R : Value → WP) : WP :=
 A0 PR (binOp .lss 3 t0 t1) fun t9 =>
 gj t9 false (fun J => J t0) fun t11 =>
 gj t9 false (fun J => J t2) fun t12 =>
 gj t9 false (fun J => A0 PR (binOp .gtr 3 t11 t12) J) fun t13 =>
 A0 PR (do pure (if ← asBool t9 then (.bool true) else t13)) fun t14 =>
 B7 t14 (
 C2 PR X (Instr.storeAt 31 t3 (.int .i64 1)) <|
 R (.tuple #[])) (
 R (.tuple #[]))
theorem Y3 : B2 PR 73 := A7 Tryz.func73 (by kernel_rfl) rfl
theorem B1V {X : Nat → Prop} {t0 t1 t2 t3 : Value} {R : Value → WP} {w : World} (h : A4U X t0 t1 t2 t3 R w) : Fn PR X 73 #[t0, t1, t2, t3] w R := C9 (args := [t0, t1, t2, t3]) mixed Tryz.func73 (by kernel_rfl) h
end Go.Proofs.YtpnidmkaobfhiaaGreat
