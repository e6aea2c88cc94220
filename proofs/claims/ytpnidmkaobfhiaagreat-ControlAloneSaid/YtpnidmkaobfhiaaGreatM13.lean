/- The proof of a given statement, a part of it (Args Join ShR17 Few ArgsC ArgsOp ShL20ControlAlone ShL20 ShControl ShWorld ShCells). No condition but what each lemma says. -/
import Derived.WalkKit
import Derived.ProofKit
import Derived.OpenShut
import Derived.Carry
import Derived.Deep.Slices
import Derived.Test.YtpnidmkaobfhiaaGreatRows
import Derived.Test.YtpnidmkaobfhiaaGreatM12
set_option linter.unusedVariables false
set_option linter.unusedSimpArgs false
namespace Go.Proofs.YtpnidmkaobfhiaaGreat
open Go Go.ChangeShapes Go.WideShapes Go.ChangeAt Go.RowKit
theorem C61 {w w' : World} (h : C6 [] w w') (hk : Sk B6 w w') (may : MemPlace → Prop) : w.keptBut w' may := by
 refine ⟨hk.2.2.2.1, hk.2.2.2.2, fun i hi => ?_⟩
 have h1 : w.heap[i]? = some w.heap[i] := Array.getElem?_eq_getElem hi
 have h2 : w'.heap[i]? = some w.heap[i] := h.2 i _ (by simp) h1
 rw [h1, h2]
 cases w.heap[i] <;> simp
theorem C3W {f : FuncId} {args : Array Value} {w : World} (h : Fn PR B6 f args w (fun v w' => v = .bool true ∧ C6 [] w w')) :
  Calls PR f args w fun e w' => e = .returned (.bool true) ∧ (∀ may, w.keptBut w' may) ∧ C6 [] w w' :=
 Calls.mono h fun _ w' ⟨v, he, ⟨hv, hb⟩, hs⟩ => ⟨by rw [he, hv], C61 hb hs, hb⟩
theorem own : ownKnob PR.godebug = none := by kernel_rfl
theorem C8g : laidOutB PR = true := by kernel_rfl
theorem C0M {H : Type} {enc : TypeId × Value → H} {P : Program} {f : Func} {s : ChangeSpec} {apart fresh handsOn : Bool} {W W' : World} {args : Array Value} {v : Value} {ds gs : List (DataW H)} {before pa pv : List MemPlace}
  (hW : DataW.Whole enc P f.params.toList s.vars apart W args.toList ds gs before)
  (hres : ∀ (b : Nat) (sp : Nat → Bool) (hd : Bool), DataW.TrodAll enc P W' b sp hd f.resultTypes.toList (v.resultList f.resultTypes.size) (s.fn H (ds ++ gs)).results [])
  (hargs : ∀ sp : Nat → Bool, (∀ p ∈ before, sp p.block = true) → DataW.TrodAll enc P W' 0 sp true f.params.toList args.toList (s.fn H (ds ++ gs)).args pa)
  (hvars : ∀ sp : Nat → Bool, (∀ p ∈ before, sp p.block = true) → DataW.TrodVars enc P W' sp s.vars (s.fn H (ds ++ gs)).vars pv)
  (hk : ∀ may, W.keptBut W' may) : s.post enc P f apart fresh handsOn false W args v W' := by
 have hold : ∀ p ∈ before, (fun b => decide (b < W.heap.size)) p.block = true := fun p hp => by simpa using hW.lt p hp
 exact ⟨ds, gs, before, [], pa, pv, hW, hres _ _ _, hargs _ hold, hvars _ hold, hk _, fun h => by cases h⟩
theorem B67 {v x : Value} (h : v.cells.toList = [x]) (hv : plain v = true) : v = x := by
 cases v <;> first | (simp [Value.cells] at h; exact h) | (simp [plain] at hv)
section
variable {H : Type} {enc : TypeId × Value → H} {P : Program} {w : World} {base : Nat} {spare : Nat → Bool} {held : Bool}
theorem B92 {α : Type} {f : α → List Value} {k : Nat} (hk : ∀ x, (f x).length = k) (hkp : 0 < k) {Q : α → Prop} {t e : TypeId} {fuel : Nat} {cs : List Value} {x : DataW H × List MemPlace}
  (ht : P.underlying t = some (.slice e)) (hc : P.cellsOf e = k) (h : DataW.trod enc P w base spare held fuel t cs = some x)
  (he : ∀ n cs' y, DataW.trod enc P w base spare held n e cs' = some y → ∃ a, cs' = f a ∧ Q a) :
  ∃ (v : Value) (l : List α), cs = [v] ∧ E2 w v l.length (l.flatMap f) ∧ (∀ a ∈ l, Q a) ∧ l.length ≤ maxLen := by
 rcases Go.Deep.open_slice ht h with ⟨rfl, _⟩ | ⟨a, len, cap, m, n, D, Pl, rfl, hb, hl, hm, hmm, _, hx⟩
 ·exact ⟨_, [], rfl, Or.inl ⟨rfl, rfl, none, 0, rfl⟩, by simp, by simp⟩
 have hlm : len ≤ m := by rw [hmm]; split <;> omega
 have hch : ∀ i : Fin len, ∃ a' : α, Q a' ∧ w.cells? base (a.add (i.1 * k)) k = some (f a') := by
  intro i
  obtain ⟨cs', h1, h2⟩ := hx i.1 (by omega)
  obtain ⟨a', rfl, hq⟩ := he _ _ _ h2
  rw [hc] at h1
  exact ⟨a', hq, h1⟩
 let g : Fin len → α := fun i => Classical.choose (hch i)
 have hg : ∀ i, Q (g i) ∧ w.cells? base (a.add (i.1 * k)) k = some (f (g i)) := fun i => Classical.choose_spec (hch i)
 refine ⟨_, List.ofFn g, rfl, ?_, ?_, by simp; omega⟩
 ·by_cases h0 : len = 0
  ·subst h0; exact Or.inl ⟨by simp, by simp, _, _, rfl⟩
  obtain ⟨b, o, spot⟩ := a
  have h1 := (World.cells?_some (hg ⟨0, by omega⟩).2).2.2 0 hkp
  have hfl := hk (g ⟨0, by omega⟩)
  rw [List.getElem?_eq_getElem (by omega)] at h1
  have hspot : spot = none := by simpa [Addr.add] using World.cell?_spot h1
  subst hspot
  refine Or.inr ⟨b, o, cap, by simp, fun i hi => ?_⟩
  rw [K3 hk] at hi
  simp only [List.length_ofFn] at hi
  have hd : i / k * k + i % k = i := by rw [Nat.mul_comm]; exact Nat.div_add_mod i k
  have hj : i % k < k := Nat.mod_lt _ hkp
  have hi' : i / k < len := by rw [Nat.div_lt_iff_lt_mul hkp]; exact hi
  have h2 := (World.cells?_some (hg ⟨i / k, hi'⟩).2).2.2 (i % k) hj
  rw [← hd, Q8 hk _ _ _ hj, List.getElem?_ofFn, dif_pos hi']
  simp only [Option.bind_some]
  rw [← h2, l9, l9]
  simp only [Nat.add_assoc]
 ·intro a' ha'
  rw [List.mem_ofFn] at ha'
  obtain ⟨i, rfl⟩ := ha'
  exact (hg i).1
theorem c9 {t : TypeId} {k : IntKind} {fuel : Nat} {cs : List Value} {x : DataW H × List MemPlace} (ht : P.underlying t = some (.int k)) (h : DataW.trod enc P w base spare held fuel t cs = some x) :
  ∃ a : Int, cs = [.int k a] ∧ (Lit.int k a).wf = true := by
 obtain ⟨n, h1, _, h2⟩ := DataW.trod_int ht h
 exact ⟨n, h1, h2⟩
theorem C3Q {t : TypeId} {fuel : Nat} {cs : List Value} {x : DataW H × List MemPlace} (ht : P.underlying t = some .string) (h : DataW.trod enc P w base spare held fuel t cs = some x) :
  ∃ s : ByteArray, cs = [.string s] ∧ s.size ≤ maxLen := by
 obtain ⟨s, h1, _, h2⟩ := DataW.trod_string ht h
 exact ⟨s, h1, h2⟩
theorem C06 {α : Type} {f : α → List Value} {t e : TypeId} {Q : List α → Prop} {r : Reach} {b0 : Nat} {v : Value} {d : DataW H} {ps : List MemPlace} (ht : P.underlying t = some (.slice e)) (hval : Value.okWide P w r b0 t v) (hd : DataW.Trod enc P w base spare held t v d ps)
  (h : ∀ fuel cs x, DataW.trod enc P w base spare held fuel t cs = some x → ∃ (v : Value) (l : List α), cs = [v] ∧ E2 w v l.length (l.flatMap f) ∧ Q l) : ∃ l : List α, E2 w v l.length (l.flatMap f) ∧ Q l := by
 obtain ⟨a, len, cap, rfl⟩ := okWide_slice ht hval
 obtain ⟨fuel, hf⟩ := hd
 obtain ⟨v', l, h1, h2⟩ := h _ _ _ hf
 have : Value.slice a len cap = v' := B67 h1 rfl
 subst this
 exact ⟨l, h2⟩
end
theorem B6A {H : Type} {enc : TypeId × Value → H} {P : Program} (hl : laidOutB P = true) {W W' : World} (hb : C6 [] W W') {sp : Nat → Bool} :
  ∀ {ts : List TypeId} {vs : List Value} {ds : List (DataW H)} {ps : List MemPlace}, (ts.all fun t => P.readableRec t && decide (t < P.types.size)) = true → DataW.TrodAll enc P W 0 (fun _ => true) true ts vs ds ps →
   (∀ p ∈ ps, p.block < W.heap.size) → (∀ p ∈ ps, sp p.block = true) → DataW.TrodAll enc P W' 0 sp true ts vs ds ps := by
 intro ts
 induction ts with
 | nil => intro vs ds ps _ h _ _; cases vs <;> cases ds <;> exact h
 | cons t ts ih =>
  intro vs ds ps ht h hlt hsp
  simp only [List.all_cons, Bool.and_eq_true, decide_eq_true_eq] at ht
  obtain ⟨v, vs', d, ds', p, q, rfl, rfl, rfl, h0, hr⟩ := trodAll_cons h
  refine ⟨p, q, WideElems.Trod_stays hl ht.1.1 ht.1.2 h0 (fun x hx => ?_) (fun x hx => hsp x (List.mem_append_left _ hx)),
   ih ht.2 hr (fun x hx => hlt x (List.mem_append_right _ hx)) (fun x hx => hsp x (List.mem_append_right _ hx)), rfl⟩
  have hlt' := hlt x (List.mem_append_left _ hx)
  have e1 : W.heap[x.block]? = some W.heap[x.block] := Array.getElem?_eq_getElem hlt'
  have e2 : W'.heap[x.block]? = some W.heap[x.block] := hb.2 _ _ (by simp) e1
  cases x with
  | cell b o => show W'.cell? _ = W.cell? _; unfold World.cell?; rw [show W'.heap[b]? = W.heap[b]? from e2.trans e1.symm]
  | map b => exact e2.trans e1.symm
set_option maxRecDepth 10000
section
variable {H : Type} {enc : TypeId × Value → H} {w : World} {base : Nat} {spare : Nat → Bool} {held : Bool} {fuel : Nat} {cs : List Value} {x : DataW H × List MemPlace}
theorem C7a (h : DataW.trod enc PR w base spare held fuel 83 cs = some x) : ∃ a : F2, cs = E8 a ∧ True := by
 obtain ⟨xs, n, _, rfl, hl, hxl, hf⟩ := DataW.trod_struct B14.und h
 have hl4 : cs.length = 2 := hl.trans (by kernel_rfl)
 have hx4 : xs.length = 2 := hxl.trans (by kernel_rfl)
 match cs, hl4 with
 | [c0, c1], _ =>
  have f0 := hf 0 _ rfl
  have f1 := hf 1 _ rfl
  rw [List.getElem?_eq_getElem (by omega)] at f0 f1
  obtain ⟨a0, e0, _⟩ := c9 Tryz.underlying3 f0
  obtain ⟨a1, e1, _⟩ := c9 Tryz.underlying3 f1
  have e0 : [c0] = [.int .i64 a0] := e0
  have e1 : [c1] = [.int .i64 a1] := e1
  cases e0; cases e1
  exact ⟨(a0, a1), rfl, trivial⟩
theorem C4G (h : DataW.trod enc PR w base spare held fuel 36 cs = some x) : ∃ (v : Value) (l : List F2), cs = [v] ∧ E2 w v l.length (l.flatMap E8) ∧ l.length ≤ maxLen := by
 obtain ⟨v, l, h1, h2, _, h3⟩ := B92 (f := E8) (k := 2) (Q := fun _ => True) (fun _ => rfl) (by omega) Tryz.underlying36 (by kernel_rfl) h (fun n cs' y hy => C7a hy)
 exact ⟨v, l, h1, h2, h3⟩
end
end Go.Proofs.YtpnidmkaobfhiaaGreat
namespace Go.Proofs.YtpnidmkaobfhiaaGreat
open Go
set_option maxRecDepth 100000
theorem jf2 : mapsRowed Tryz.prog = true := by kernel_rfl
theorem jf6 : (Program.stops Tryz.prog == []) = true := by kernel_rfl
theorem jf8 : (Program.stopKnobs Tryz.prog == []) = true := by kernel_rfl
theorem D4l : Program.stopsHeard Tryz.prog = true := by kernel_rfl
theorem D38 : Program.mayEnter Tryz.prog = true := by kernel_rfl
end Go.Proofs.YtpnidmkaobfhiaaGreat
namespace Go.Proofs.YtpnidmkaobfhiaaGreat
open Go
def A0E (X : Nat → Prop) (t0 : Value) (R : Value → WP) : WP :=
 B4 PR X (Instr.box 23 t0) fun t1 =>
 A0 PR (Instr.fieldAt 23 t1 0) fun t3 =>
 A6 PR (Instr.loadAt 3 t3) fun t4 =>
 A0 PR (binOp .leq 3 t4 (.int .i64 6)) fun t5 =>
 gj t5 true (fun J => A0 PR (Instr.fieldAt 23 t1 1) J) fun t7 =>
 gj t5 true (fun J => A6 PR (Instr.loadAt 3 t7) J) fun t8 =>
 gj t5 true (fun J => A0 PR (binOp .leq 3 t8 (.int .i64 6)) J) fun t9 =>
 A0 PR (do pure (if ← asBool t5 then t9 else (.bool false))) fun t10 =>
 gj t10 true (fun J => A0 PR (Instr.fieldAt 23 t1 2) J) fun t12 =>
 gj t10 true (fun J => A6 PR (Instr.loadAt 3 t12) J) fun t13 =>
 gj t10 true (fun J => A0 PR (binOp .leq 3 t13 (.int .i64 12)) J) fun t14 =>
 A0 PR (do pure (if ← asBool t10 then t14 else (.bool false))) fun t15 =>
 R t15
theorem A4s : A9 PR 6 := A7 Tryz.func6 (by kernel_rfl) rfl
theorem A44 {X : Nat → Prop} {t0 : Value} {R : Value → WP} {w : World} (h : A0E X t0 R w) : Fn PR X 6 #[t0] w R := C4 (args := [t0]) mixed Tryz.func6 (by kernel_rfl) h
def A1P (X : Nat → Prop) (t0 t1 : Value) (R : Value → WP) : WP :=
 jn (n := 1) (fun t4 =>
 jn (n := 2) (fun t4_1 t5 =>
 R (.bool true)) fun J1 =>
 lp (n := 2) (fun L2 t4_2 t5_1 =>
 jn (n := 0) (
 jn (n := 1) (fun t4_3 =>
 A0 PR (binOp .add 3 t5_1 (.int .i64 1)) fun t15 =>
 L2 t4_3 t15) fun J3 =>
 A0 PR (Instr.indexAt 24 t0 t5_1) fun t18 =>
 A0 PR (Instr.fieldAt 38 t18 1) fun t19 =>
 A6 PR (Instr.loadAt 9 t19) fun t20 =>
 A0 PR (A8 .len #[9] 0 [t20]) fun t21 =>
 A0 PR (binOp .gtr 3 t21 (.int .i64 100)) fun t22 =>
 gj t22 false (fun J => J t0) fun t24 =>
 gj t22 false (fun J => J t5_1) fun t25 =>
 gj t22 false (fun J => A0 PR (Instr.indexAt 24 t24 t25) J) fun t26 =>
 gj t22 false (fun J => A0 PR (Instr.fieldAt 38 t26 2) J) fun t27 =>
 gj t22 false (fun J => A6 PR (Instr.loadAt 36 t27) J) fun t28 =>
 gj t22 false (fun J => A0 PR (A8 .len #[36] 0 [t28]) J) fun t29 =>
 gj t22 false (fun J => A0 PR (binOp .gtr 3 t29 (.int .i64 8)) J) fun t30 =>
 A0 PR (do pure (if ← asBool t22 then (.bool true) else t30)) fun t31 =>
 C3 t31 (
 R (.bool false)) (
 J3 t4_2)) fun J4 =>
 A0 PR (A8 .len #[24] 0 [t0]) fun t12 =>
 A0 PR (binOp .lss 3 t5_1 t12) fun t13 =>
 C3 t13 (
 J4) (
 J1 t4_2 t5_1)) t4 (.int .i64 0)) fun J5 =>
 A0 PR (A8 .len #[24] 0 [t0]) fun t7 =>
 A0 PR (binOp .gtr 3 t7 t1) fun t9 =>
 C3 t9 (
 R (.bool false)) (
 J5 (.bool false))
theorem A6e : A9 PR 7 := A7 Tryz.func7 (by kernel_rfl) rfl
theorem A7c {X : Nat → Prop} {t0 t1 : Value} {R : Value → WP} {w : World} (h : A1P X t0 t1 R w) : Fn PR X 7 #[t0, t1] w R := C4 (args := [t0, t1]) mixed Tryz.func7 (by kernel_rfl) h
end Go.Proofs.YtpnidmkaobfhiaaGreat
namespace Go.Proofs.YtpnidmkaobfhiaaGreat
open Go
theorem N6.partAt {w : World} {b o k : Nat} {α : Type} {l : List α} {f : α → List Value} (h : N6 w b o (l.flatMap f)) (hk : ∀ x, (f x).length = k) {i : Nat} {x : α} (hx : l[i]? = some x) (j n : Nat) (hn : j + n ≤ k) : a6 w b (o + i * k + j) n = some (((f x).drop j).take n) := by
 have hl : (((f x).drop j).take n).length = n := by simp [hk]; omega
 have h1 : N6 w b (o + i * k + j) (((f x).drop j).take n) := fun q hq => by
  rw [hl] at hq
  have h2 := h.cellAt hk hx (j := j + q) (u := (f x)[j + q]'(by rw [hk]; omega)) (List.getElem?_eq_getElem _)
  rw [Nat.add_assoc, h2, List.getElem?_take_of_lt hq, List.getElem?_drop, List.getElem?_eq_getElem (by rw [hk]; omega)]
 have := A4L h1
 rwa [hl] at this
def A01 (o : OpV × Value) : List Value := [.int .i64 o.1.kind, .string o.1.packet, o.2, .int .i64 o.1.shard]
def C9N (o : OpV × Value) : Prop := ∃ a c, o.2 = .slice a o.1.pool.length c
def A7Y (c : CfgV) : Bool := decide (c.wk ≤ 6) && decide (c.sh ≤ 6) && decide (c.cp ≤ 12)
def B01 (o : OpV) : Bool := decide (o.packet.size ≤ 100) && decide (o.pool.length ≤ 8)
def l5 (l : List OpV) (most : Int) : Bool := decide ((l.length : Int) ≤ most) && l.all B01
theorem C5V (w : World) (c : CfgV) : Fn PR B6 6 #[c.val] w (fun r w' => r = .bool (A7Y c) ∧ C6 [] w w') := by
 refine Fn.pure (A44 (TW.go (κ := false) (S := []) ?_))
 unfold A0E
 simp only [CfgV.val]
 by_cases c1 : c.wk ≤ 6
 ·by_cases c2 : c.sh ≤ 6
  ·(have zz:=trivial;repeat((first|clear zz|with_reducible first|refine A3 ?_|refine A5 fun _=>?_|refine A4 fun _=>?_);try simp(disch:=first|omega|assumption|((repeat(first|exact A1|exact uH|apply A2|apply uT));first|done|fail)|(simp;first|done|omega|fail))[c1, c2]))
   exact B0 (by simp [A7Y, c1, c2])
  ·(have zz:=trivial;repeat((first|clear zz|with_reducible first|refine A3 ?_|refine A5 fun _=>?_|refine A4 fun _=>?_);try simp(disch:=first|omega|assumption|((repeat(first|exact A1|exact uH|apply A2|apply uT));first|done|fail)|(simp;first|done|omega|fail))[c1, c2]))
   exact B0 (by simp [A7Y, c1, c2])
 ·(have zz:=trivial;repeat((first|clear zz|with_reducible first|refine A3 ?_|refine A5 fun _=>?_|refine A4 fun _=>?_);try simp(disch:=first|omega|assumption|((repeat(first|exact A1|exact uH|apply A2|apply uT));first|done|fail)|(simp;first|done|omega|fail))[c1]))
  exact B0 (by simp [A7Y, c1])
theorem C4p (w : World) (v : Value) (l : List (OpV × Value)) (most : Int) (hn : l.length ≤ 9223372036854775807) (hv : E2 w v l.length (l.flatMap A01)) (hp : ∀ o ∈ l, C9N o) :
  Fn PR B6 7 #[v, .int .i64 most] w (fun r w' => r = .bool (l5 (l.map (·.1)) most) ∧ C6 [] w w') := by
 refine Fn.pure (A7c (TW.go (κ := false) (S := []) ?_))
 unfold A1P
 obtain ⟨a, c, rfl, hr⟩ := hv.form
 by_cases c0 : most < (l.length : Int)
 ·(have zz:=trivial;repeat((first|clear zz|with_reducible first|refine A3 ?_|refine A5 fun _=>?_|refine A4 fun _=>?_);try simp(disch:=first|omega|assumption|((repeat(first|exact A1|exact uH|apply A2|apply uT));first|done|fail)|(simp;first|done|omega|fail))[c0]))
  exact B0 (by simp [l5]; omega)
 (have zz:=trivial;repeat((first|clear zz|with_reducible first|refine A3 ?_|refine A5 fun _=>?_|refine A4 fun _=>?_);try simp(disch:=first|omega|assumption|((repeat(first|exact A1|exact uH|apply A2|apply uT));first|done|fail)|(simp;first|done|omega|fail))[c0]))
 refine w7 l.length (fun _ _ => .bool false) (fun _ (_ : Unit) => []) (fun i _ => ∀ (j : Nat) x, j < i → l[j]? = some x → B01 x.1 = true) () (by intros; omega) ?_
 rintro i _ hi hφ L hL
 by_cases hlt : i < l.length
 ·have hx := List.getElem?_eq_getElem hlt
  obtain ⟨b, o, rfl, hrow⟩ := hr (by omega)
  have h1 := hrow.cellAt (f := A01) (k := 4) (j := 1) (fun _ => rfl) hx rfl
  have h2 := hrow.cellAt (f := A01) (k := 4) (j := 2) (fun _ => rfl) hx rfl
  obtain ⟨pa, pc, hpl⟩ := hp l[i] (List.getElem_mem hlt)
  rw [hpl] at h2
  have bad : B01 l[i].1 = false → l5 (l.map (·.1)) most = false := fun h => by
   unfold l5
   rw [Bool.and_eq_false_iff]; right
   rw [List.all_eq_false]
   exact ⟨l[i].1, List.mem_map_of_mem (List.getElem_mem hlt), by simp [h]⟩
  by_cases c1 : (100 : Int) < l[i].1.packet.size
  ·(have zz:=trivial;repeat((first|clear zz|with_reducible first|refine A3 ?_|refine A5 fun _=>?_|refine A4 fun _=>?_);try simp(disch:=first|omega|assumption|((repeat(first|exact A1|exact uH|apply A2|apply uT));first|done|fail)|(simp;first|done|omega|fail))[hlt, h1, h2, c1]))
   exact B0 (by rw [bad (by simp [B01]; omega)])
  by_cases c2 : (8 : Int) < l[i].1.pool.length
  ·(have zz:=trivial;repeat((first|clear zz|with_reducible first|refine A3 ?_|refine A5 fun _=>?_|refine A4 fun _=>?_);try simp(disch:=first|omega|assumption|((repeat(first|exact A1|exact uH|apply A2|apply uT));first|done|fail)|(simp;first|done|omega|fail))[hlt, h1, h2, c1, c2]))
   exact B0 (by rw [bad (by simp [B01]; omega)])
  (have zz:=trivial;repeat((first|clear zz|with_reducible first|refine A3 ?_|refine A5 fun _=>?_|refine A4 fun _=>?_);try simp(disch:=first|omega|assumption|((repeat(first|exact A1|exact uH|apply A2|apply uT));first|done|fail)|(simp;first|done|omega|fail))[hlt, h1, h2, c1, c2]))
  refine hL hlt () fun j x hj hx' => ?_
  by_cases e : j < i
  ·exact hφ j x e hx'
  ·obtain rfl : j = i := by omega
   rw [hx] at hx'; injection hx' with hx'; subst hx'
   simp [B01]; omega
 ·(have zz:=trivial;repeat((first|clear zz|with_reducible first|refine A3 ?_|refine A5 fun _=>?_|refine A4 fun _=>?_);try simp(disch:=first|omega|assumption|((repeat(first|exact A1|exact uH|apply A2|apply uT));first|done|fail)|(simp;first|done|omega|fail))[hlt]))
  refine B0 ?_
  have : l5 (l.map (·.1)) most = true := by
   unfold l5
   rw [Bool.and_eq_true]
   refine ⟨by simp; omega, ?_⟩
   rw [List.all_eq_true]
   intro x hx
   obtain ⟨y, hy, rfl⟩ := List.mem_map.1 hx
   obtain ⟨j, hj, e⟩ := List.getElem_of_mem hy
   exact hφ j y (by omega) (by simp [hj, e])
  rw [this]
end Go.Proofs.YtpnidmkaobfhiaaGreat
namespace Go.Proofs.YtpnidmkaobfhiaaGreat
open Go Go.ChangeShapes Go.WideShapes Go.ChangeAt Go.RowKit
set_option maxRecDepth 10000
section
variable {H : Type} {enc : TypeId × Value → H} {w : World} {base : Nat} {spare : Nat → Bool} {held : Bool} {fuel : Nat} {cs : List Value} {x : DataW H × List MemPlace}
theorem C5M (h : DataW.trod enc PR w base spare held fuel 23 cs = some x) : ∃ c : CfgV, cs = [.int .i64 c.wk, .int .i64 c.sh, .int .i64 c.cp, .int .i64 c.idle, .int .i64 c.sl] ∧ True := by
 obtain ⟨xs, n, _, rfl, hl, hxl, hf⟩ := DataW.trod_struct A4Q.und h
 have hl4 : cs.length = 5 := hl.trans (by kernel_rfl)
 have hx4 : xs.length = 5 := hxl.trans (by kernel_rfl)
 match cs, hl4 with
 | [c0, c1, c2, c3, c4], _ =>
  have f0 := hf 0 _ rfl
  have f1 := hf 1 _ rfl
  have f2 := hf 2 _ rfl
  have f3 := hf 3 _ rfl
  have f4 := hf 4 _ rfl
  rw [List.getElem?_eq_getElem (by omega)] at f0 f1 f2 f3 f4
  obtain ⟨a0, e0, _⟩ := c9 Tryz.underlying3 f0
  obtain ⟨a1, e1, _⟩ := c9 Tryz.underlying3 f1
  obtain ⟨a2, e2, _⟩ := c9 Tryz.underlying3 f2
  obtain ⟨a3, e3, _⟩ := c9 Tryz.underlying3 f3
  obtain ⟨a4, e4, _⟩ := c9 Tryz.underlying3 f4
  have e0 : [c0] = [.int .i64 a0] := e0
  have e1 : [c1] = [.int .i64 a1] := e1
  have e2 : [c2] = [.int .i64 a2] := e2
  have e3 : [c3] = [.int .i64 a3] := e3
  have e4 : [c4] = [.int .i64 a4] := e4
  cases e0; cases e1; cases e2; cases e3; cases e4
  exact ⟨⟨a0, a1, a2, a3, a4⟩, rfl, trivial⟩
theorem C7r (h : DataW.trod enc PR w base spare held fuel 38 cs = some x) : ∃ o : OpV × Value, cs = A01 o ∧ E2 w o.2 o.1.pool.length (o.1.pool.flatMap E8) := by
 obtain ⟨xs, n, _, rfl, hl, hxl, hf⟩ := DataW.trod_struct A8L.und h
 have hl4 : cs.length = 4 := hl.trans (by kernel_rfl)
 have hx4 : xs.length = 4 := hxl.trans (by kernel_rfl)
 match cs, hl4 with
 | [c0, c1, c2, c3], _ =>
  have f0 := hf 0 _ rfl
  have f1 := hf 1 _ rfl
  have f2 := hf 2 _ rfl
  have f3 := hf 3 _ rfl
  rw [List.getElem?_eq_getElem (by omega)] at f0 f1 f2 f3
  obtain ⟨a0, e0, _⟩ := c9 Tryz.underlying3 f0
  obtain ⟨a1, e1, _⟩ := C3Q Tryz.underlying9 f1
  obtain ⟨v, l, e2, hv, _⟩ := C4G f2
  obtain ⟨a3, e3, _⟩ := c9 Tryz.underlying3 f3
  have e0 : [c0] = [.int .i64 a0] := e0
  have e1 : [c1] = [.string a1] := e1
  have e2 : [c2] = [v] := e2
  have e3 : [c3] = [.int .i64 a3] := e3
  cases e0; cases e1; cases e2; cases e3
  exact ⟨(⟨a0, a1, l, a3⟩, c2), rfl, hv⟩
theorem C88 {v : Value} {cs : Array Value} {l : List Value} (hv : v = .agg cs) (h : v.cells.toList = l) : v = .agg l.toArray := by
 subst hv
 have : cs.toList = l := h
 rw [← this]
theorem B8H {r : Reach} {b0 : Nat} {v : Value} {d : DataW H} {ps : List MemPlace} (hval : Value.okWide PR w r b0 23 v) (hd : DataW.Trod enc PR w base spare held 23 v d ps) : ∃ c : CfgV, v = c.val := by
 obtain ⟨cs, e, _⟩ := okWide_struct A4Q.und hval
 obtain ⟨fuel, hf⟩ := hd
 obtain ⟨c, h, _⟩ := C5M hf
 exact ⟨c, C88 e h⟩
end
end Go.Proofs.YtpnidmkaobfhiaaGreat
namespace Go.Proofs.YtpnidmkaobfhiaaGreat
open Go Go.ChangeShapes Go.WideShapes Go.ChangeAt Go.RowKit
set_option maxRecDepth 10000
section
variable {H : Type} {enc : TypeId × Value → H} {w : World} {base : Nat} {spare : Nat → Bool} {held : Bool} {fuel : Nat} {cs : List Value} {x : DataW H × List MemPlace}
theorem B7D {r : Reach} {b0 : Nat} {v : Value} {d : DataW H} {ps : List MemPlace} (hval : Value.okWide PR w r b0 24 v) (hd : DataW.Trod enc PR w base spare held 24 v d ps) :
  ∃ l : List (OpV × Value), E2 w v l.length (l.flatMap A01) ∧ (∀ o ∈ l, E2 w o.2 o.1.pool.length (o.1.pool.flatMap E8)) ∧ l.length ≤ maxLen :=
 C06 Tryz.underlying24 hval hd fun _ _ _ h => B92 (f := A01) (k := 4) (Q := fun o => E2 w o.2 o.1.pool.length (o.1.pool.flatMap E8)) (fun _ => rfl) (by omega) Tryz.underlying24 (by kernel_rfl) h (fun n cs' y hy => C7r hy)
end
end Go.Proofs.YtpnidmkaobfhiaaGreat
namespace Go.Proofs.YtpnidmkaobfhiaaGreat
open Go
def d4 (X : Nat → Prop) (t0 t1 t2 : Value) (R : Value → WP) : WP :=
 B4 PR X (Instr.box 23 t0) fun t3 =>
 B7 PR X 5 [] fun t23 =>
 jn (n := 1) (fun t6 =>
 A6 PR (Instr.loadAt 23 t3) fun t26 =>
 B7 PR X 6 [t26] fun t27 =>
 jn (n := 1) (fun t6_1 =>
 A6 PR (Instr.loadAt 23 t3) fun t47 =>
 B7 PR X 9 [t47] fun t48 =>
 A0 PR (Instr.extract t48 0) fun t49 =>
 A0 PR (Instr.extract t48 1) fun t50 =>
 A6 PR (Instr.loadAt 23 t3) fun t52 =>
 B7 PR X 22 [t52] fun t53 =>
 A0 PR (Instr.extract t53 0) fun t54 =>
 A0 PR (Instr.extract t53 1) fun t55 =>
 jn (n := 1) (fun t6_2 =>
 jn (n := 1) (fun t6_3 =>
 jn (n := 2) (fun t6_4 t13 =>
 A0 PR (B5 t49) fun t141 =>
 A0 PR (Instr.fieldAt 74 t141 1) fun t142 =>
 A6 PR (Instr.loadAt 69 t142) fun t143 =>
 B7 PR X 25 [t143, (.int .i64 1)] fun t144 =>
 A0 PR (binOp .sub 3 t144 (.int .i64 1)) fun t145 =>
 A0 PR (B5 t49) fun t148 =>
 A0 PR (Instr.fieldAt 74 t148 2) fun t149 =>
 A6 PR (Instr.loadAt 70 t149) fun t150 =>
 B7 PR X 26 [t150, t145] fun t152 =>
 A0 PR (Instr.extract t152 0) fun t153 =>
 A0 PR (Instr.extract t152 1) fun t154 =>
 jn (n := 2) (fun t6_5 t21 =>
 gj t23 true (fun J => J t153) fun t185 =>
 gj t23 true (fun J => J t54) fun t186 =>
 gj t23 true (fun J => B7 PR X 30 [t186] J) fun t187 =>
 gj t23 true (fun J => A0 PR (A8 .len #[36] 0 [t187]) J) fun t188 =>
 gj t23 true (fun J => A0 PR (binOp .eql 3 t185 t188) J) fun t189 =>
 A0 PR (do pure (if ← asBool t23 then t189 else (.bool false))) fun t190 =>
 gj t190 true (fun J => J t154) fun t192 =>
 gj t190 true (fun J => J t145) fun t193 =>
 gj t190 true (fun J => A0 PR (binOp .geq 3 t193 (.int .i64 0)) J) fun t194 =>
 gj t190 true (fun J => A0 PR (binOp .eql 4 t192 t194) J) fun t195 =>
 A0 PR (do pure (if ← asBool t190 then t195 else (.bool false))) fun t196 =>
 R t196) fun J1 =>
 lp (n := 2) (fun L2 t6_6 t21_1 =>
 jn (n := 0) (
 jn (n := 1) (fun t6_7 =>
 A0 PR (binOp .add 3 t21_1 (.int .i64 1)) fun t160 =>
 L2 t6_7 t160) fun J3 =>
 drw <|
 A0 PR (B5 t49) fun t162 =>
 A0 PR (Instr.fieldAt 74 t162 4) fun t163 =>
 A6 PR (Instr.loadAt 72 t163) fun t164 =>
 A0 PR (Instr.indexAt 72 t164 t21_1) fun t166 =>
 A6 PR (Instr.loadAt 55 t166) fun t167 =>
 B7 PR X 28 [t54, t21_1] fun t170 =>
 watch PR [(none, (Instr.loadAt 55 t166), t167), (none, (Instr.loadAt 72 t163), t164)] <|
 B7 PR X 27 [t167, t170] fun t171 =>
 A0 PR (Op.unary .not t171) fun t173 =>
 gj t173 false (fun J => J t49) fun t175 =>
 gj t173 false (fun J => A0 PR (B5 t175) J) fun t176 =>
 gj t173 false (fun J => A0 PR (Instr.fieldAt 74 t176 1) J) fun t177 =>
 gj t173 false (fun J => A6 PR (Instr.loadAt 69 t177) J) fun t178 =>
 gj t173 false (fun J => J t21_1) fun t179 =>
 gj t173 false (fun J => B7 PR X 29 [t178, t179] J) fun t180 =>
 gj t173 false (fun J => A0 PR (binOp .neq 3 t180 (.int .i64 (-1))) J) fun t181 =>
 A0 PR (do pure (if ← asBool t173 then (.bool true) else t181)) fun t182 =>
 C3 t182 (
 R (.bool false)) (
 J3 t6_6)) fun J4 =>
 A0 PR (Instr.fieldAt 23 t3 1) fun t156 =>
 A6 PR (Instr.loadAt 3 t156) fun t157 =>
 A0 PR (binOp .lss 3 t21_1 t157) fun t158 =>
 C3 t158 (
 J4) (
 J1 t6_6 t21_1)) t6_4 (.int .i64 0)) fun J5 =>
 lp (n := 2) (fun L6 t6_8 t13_1 =>
 jn (n := 0) (
 jn (n := 1) (fun t6_9 =>
 A0 PR (binOp .add 3 t13_1 (.int .i64 1)) fun t80 =>
 L6 t6_9 t80) fun J7 =>
 jn (n := 0) (
 A0 PR (Instr.indexAt 24 t2 t13_1) fun t102 =>
 A6 PR (Instr.loadAt 38 t102) fun t103 =>
 B7 PR X 10 [t1, t103] fun t104 =>
 jn (n := 1) (fun t6_10 =>
 B7 PR X 23 [t104, t49] fun t110 =>
 A0 PR (Instr.extract t110 0) fun t111 =>
 A0 PR (Instr.extract t110 1) fun t112 =>
 A0 PR (Instr.extract t110 2) fun t113 =>
 drw <|
 B7 PR X 19 [t104] fun t115 =>
 A0 PR (binOp .neq 3 t115 (.int .i64 (-1))) fun t116 =>
 gj t116 false (fun J => J t112) fun t118 =>
 gj t116 false (fun J => A0 PR (binOp .neq 3 t118 (.int .i64 1)) J) fun t119 =>
 A0 PR (do pure (if ← asBool t116 then (.bool true) else t119)) fun t120 =>
 gj t120 false (fun J => J t113) fun t122 =>
 gj t120 false (fun J => A0 PR (binOp .neq 3 t122 (.int .i64 0)) J) fun t123 =>
 A0 PR (do pure (if ← asBool t120 then (.bool true) else t123)) fun t124 =>
 gj t124 false (fun J => J t104) fun t126 =>
 gj t124 false (fun J => J t54) fun t128 =>
 gj t124 false (fun J => J t2) fun t129 =>
 gj t124 false (fun J => J t13_1) fun t130 =>
 gj t124 false (fun J => A0 PR (Instr.indexAt 24 t129 t130) J) fun t131 =>
 gj t124 false (fun J => A6 PR (Instr.loadAt 38 t131) J) fun t132 =>
 gj t124 false (fun J => J t49) fun t133 =>
 gj t124 false (fun J => A0 PR (B5 t133) J) fun t134 =>
 gj t124 false (fun J => A0 PR (Instr.fieldAt 74 t134 6) J) fun t135 =>
 gj t124 false (fun J => A6 PR (Instr.loadAt 3 t135) J) fun t136 =>
 gj t124 false (fun J => B7 PR X 20 [t126] J) fun t127 =>
 watch PR [((some (t124, false)), (Instr.loadAt 3 t135), t136), ((some (t124, false)), (Instr.loadAt 38 t131), t132)] <|
 gj t124 false (fun J => B7 PR X 24 [t128, t132, t136] J) fun t137 =>
 gj t124 false (fun J => A6 PR (H6 .neq 57 (.tmp 127) (.tmp 137) t127 t137) J) fun t138 =>
 A0 PR (do pure (if ← asBool t124 then (.bool true) else t138)) fun t139 =>
 C3 t139 (
 R (.bool false)) (
 J7 t6_10)) fun J8 =>
 A6 PR (H6 .eql 34 (.tmp 105) (.const (.pointer none)) t104 (.pointer none)) fun t106 =>
 C3 t106 (
 R (.bool false)) (
 J8 t6_8)) fun J9 =>
 A0 PR (Instr.indexAt 24 t2 t13_1) fun t83 =>
 A0 PR (Instr.fieldAt 38 t83 0) fun t84 =>
 A6 PR (Instr.loadAt 3 t84) fun t85 =>
 A0 PR (binOp .eql 3 t85 (.int .i64 0)) fun t86 =>
 gj t86 false (fun J => J t2) fun t88 =>
 gj t86 false (fun J => J t13_1) fun t89 =>
 gj t86 false (fun J => A0 PR (Instr.indexAt 24 t88 t89) J) fun t90 =>
 gj t86 false (fun J => A0 PR (Instr.fieldAt 38 t90 0) J) fun t91 =>
 gj t86 false (fun J => A6 PR (Instr.loadAt 3 t91) J) fun t92 =>
 gj t86 false (fun J => A0 PR (binOp .eql 3 t92 (.int .i64 1)) J) fun t93 =>
 gj t86 false (fun J => J t93) fun t94 =>
 gj t94 true (fun J => J t1) fun t95 =>
 gj t94 true (fun J => A0 PR (binOp .neq 3 t95 (.int .i64 0)) J) fun t96 =>
 gj t86 false (fun J => A0 PR (do pure (if ← asBool t94 then t96 else (.bool false))) J) fun t97 =>
 A0 PR (do pure (if ← asBool t86 then (.bool true) else t97)) fun t98 =>
 C3 t98 (
 J7 t6_8) (
 J9)) fun J10 =>
 A0 PR (A8 .len #[24] 0 [t2]) fun t77 =>
 A0 PR (binOp .lss 3 t13_1 t77) fun t78 =>
 C3 t78 (
 J10) (
 J5 t6_8 t13_1)) t6_3 (.int .i64 0)) fun J11 =>
 B7 PR X 11 [t49] fun t73 =>
 A0 PR (Op.unary .not t73) fun t74 =>
 C3 t74 (
 R (.bool false)) (
 J11 t6_2)) fun J12 =>
 A0 PR (binOp .neq 31 t50 (.int .i64 0)) fun t57 =>
 gj t57 false (fun J => J t55) fun t59 =>
 gj t57 false (fun J => A0 PR (binOp .neq 31 t59 (.int .i64 0)) J) fun t60 =>
 A0 PR (do pure (if ← asBool t57 then (.bool true) else t60)) fun t61 =>
 gj t61 false (fun J => J t54) fun t63 =>
 gj t61 false (fun J => A6 PR (H6 .eql 63 (.tmp 63) (.const (.pointer none)) t63 (.pointer none)) J) fun t64 =>
 A0 PR (do pure (if ← asBool t61 then (.bool true) else t64)) fun t65 =>
 C3 t65 (
 gj t23 true (fun J => J t50) fun t68 =>
 gj t23 true (fun J => J t55) fun t69 =>
 gj t23 true (fun J => A0 PR (binOp .eql 31 t68 t69) J) fun t70 =>
 A0 PR (do pure (if ← asBool t23 then t70 else (.bool false))) fun t71 =>
 R t71) (
 J12 t6_1)) fun J13 =>
 A0 PR (Op.unary .not t27) fun t29 =>
 gj t29 false (fun J => J t2) fun t31 =>
 gj t29 false (fun J => B7 PR X 7 [t31, (.int .i64 12)] J) fun t32 =>
 gj t29 false (fun J => A0 PR (Op.unary .not t32) J) fun t33 =>
 A0 PR (do pure (if ← asBool t29 then (.bool true) else t33)) fun t34 =>
 gj t34 false (fun J => J t1) fun t36 =>
 gj t34 false (fun J => A0 PR (binOp .lss 3 t36 (.int .i64 0)) J) fun t37 =>
 A0 PR (do pure (if ← asBool t34 then (.bool true) else t37)) fun t38 =>
 gj t38 false (fun J => J t1) fun t40 =>
 gj t38 false (fun J => A0 PR (Instr.fieldAt 23 t3 0) J) fun t41 =>
 gj t38 false (fun J => A6 PR (Instr.loadAt 3 t41) J) fun t42 =>
 gj t38 false (fun J => A0 PR (binOp .gtr 3 t40 t42) J) fun t43 =>
 A0 PR (do pure (if ← asBool t38 then (.bool true) else t43)) fun t44 =>
 C3 t44 (
 R t23) (
 J13 t6)) fun J14 =>
 A0 PR (Op.unary .not t23) fun t25 =>
 C3 t25 (
 R (.bool false)) (
 J14 (.bool false))
theorem A1z {X : Nat → Prop} {t0 t1 t2 : Value} {R : Value → WP} {w : World} (h : d4 X t0 t1 t2 R w) : Fn PR X 4 #[t0, t1, t2] w R := C4 (args := [t0, t1, t2]) mixed Tryz.func4 (by kernel_rfl) h
end Go.Proofs.YtpnidmkaobfhiaaGreat
namespace Go.Proofs.YtpnidmkaobfhiaaGreat
open Go
def A0J (X : Nat → Prop) (R : Value → WP) : WP :=
 A0 PR (Instr.build 23 #[(0, (.int .i64 1)), (1, (.int .i64 1)), (2, (.int .i64 1)), (3, (.int .i64 5)), (4, (.int .i64 2))]) fun t8 =>
 B7 PR X 9 [t8] fun t9 =>
 A0 PR (Instr.extract t9 0) fun t10 =>
 A0 PR (Instr.extract t9 1) fun t11 =>
 A0 PR (Instr.build 83 #[(0, (.int .i64 7)), (1, (.int .i64 1))]) fun t12 =>
 B4 PR X (Instr.buildSlice 36 1 #[(0, t12)]) fun t13 =>
 A0 PR (Instr.build 38 #[(0, (.int .i64 1)), (2, t13)]) fun t14 =>
 B7 PR X 10 [(.int .i64 0), t14] fun t15 =>
 A0 PR (Instr.build 38 #[(0, (.int .i64 1))]) fun t16 =>
 B7 PR X 10 [(.int .i64 1), t16] fun t17 =>
 jn (n := 1) (fun t0 =>
 jn (n := 1) (fun t5 =>
 B7 PR X 17 [t17, t10] fun t42 =>
 B4 PR X (Instr.alloc 49 true (.tuple #[])) fun t6 =>
 B9 PR X (Instr.storeAt 49 t6 t42) <|
 A0 PR (binOp .eql 3 t5 (.int .i64 6)) fun t44 =>
 gj t44 true (fun J => J t15) fun t46 =>
 gj t44 true (fun J => B7 PR X 20 [t46] J) fun t47 =>
 gj t44 true (fun J => A0 PR (Instr.build 57 #[]) J) fun t48 =>
 gj t44 true (fun J => A6 PR (H6 .eql 57 (.tmp 47) (.tmp 48) t47 t48) J) fun t49 =>
 A0 PR (do pure (if ← asBool t44 then t49 else (.bool false))) fun t50 =>
 gj t50 true (fun J => J t15) fun t52 =>
 gj t50 true (fun J => B7 PR X 19 [t52] J) fun t53 =>
 gj t50 true (fun J => A0 PR (binOp .eql 3 t53 (.int .i64 (-1))) J) fun t54 =>
 A0 PR (do pure (if ← asBool t50 then t54 else (.bool false))) fun t55 =>
 gj t55 true (fun J => A6 PR (Instr.loadAt 49 t6) J) fun t57 =>
 gj t55 true (fun J => A0 PR (Instr.build 49 #[(0, (.bool true)), (1, (.bool true))]) J) fun t58 =>
 gj t55 true (fun J => A6 PR (H6 .eql 49 (.tmp 57) (.tmp 58) t57 t58) J) fun t59 =>
 A0 PR (do pure (if ← asBool t55 then t59 else (.bool false))) fun t60 =>
 gj t60 true (fun J => J t17) fun t62 =>
 gj t60 true (fun J => B7 PR X 20 [t62] J) fun t63 =>
 gj t60 true (fun J => A0 PR (Instr.build 57 #[(0, (.int .i64 1))]) J) fun t64 =>
 gj t60 true (fun J => A6 PR (H6 .eql 57 (.tmp 63) (.tmp 64) t63 t64) J) fun t65 =>
 A0 PR (do pure (if ← asBool t60 then t65 else (.bool false))) fun t66 =>
 gj t66 true (fun J => J t17) fun t68 =>
 gj t66 true (fun J => J t10) fun t69 =>
 gj t66 true (fun J => B7 PR X 15 [t68, t69] J) fun t70 =>
 gj t66 true (fun J => A0 PR (Op.unary .not t70) J) fun t71 =>
 A0 PR (do pure (if ← asBool t66 then t71 else (.bool false))) fun t72 =>
 R t72) fun J1 =>
 lp (n := 1) (fun L2 t5_1 =>
 jn (n := 0) (
 B7 PR X 17 [t15, t10] fun t37 =>
 A0 PR (binOp .add 3 t5_1 (.int .i64 1)) fun t39 =>
 L2 t39) fun J3 =>
 A0 PR (binOp .lss 3 t5_1 (.int .i64 20)) fun t29 =>
 gj t29 true (fun J => J t15) fun t31 =>
 gj t29 true (fun J => J t10) fun t32 =>
 gj t29 true (fun J => B7 PR X 15 [t31, t32] J) fun t33 =>
 A0 PR (do pure (if ← asBool t29 then t33 else (.bool false))) fun t34 =>
 C3 t34 (
 J3) (
 J1 t5_1)) (.int .i64 0)) fun J4 =>
 A6 PR (H6 .eql 30 (.tmp 18) (.const (.pointer none)) t10 (.pointer none)) fun t19 =>
 gj t19 false (fun J => J t15) fun t21 =>
 gj t19 false (fun J => A6 PR (H6 .eql 34 (.tmp 21) (.const (.pointer none)) t21 (.pointer none)) J) fun t22 =>
 A0 PR (do pure (if ← asBool t19 then (.bool true) else t22)) fun t23 =>
 gj t23 false (fun J => J t17) fun t25 =>
 gj t23 false (fun J => A6 PR (H6 .eql 34 (.tmp 25) (.const (.pointer none)) t25 (.pointer none)) J) fun t26 =>
 A0 PR (do pure (if ← asBool t23 then (.bool true) else t26)) fun t27 =>
 C3 t27 (
 R (.bool false)) (
 J4 (.bool false))
theorem A4b : A9 PR 5 := A7 Tryz.func5 (by kernel_rfl) rfl
theorem A5D {X : Nat → Prop} {R : Value → WP} {w : World} (h : A0J X R w) : Fn PR X 5 #[] w R := C4 (args := []) mixed Tryz.func5 (by kernel_rfl) h
def A0F (X : Nat → Prop) (t0 : Value) (R : Value → WP) : WP :=
 A6 PR (H6 .neq 30 (.tmp 3) (.const (.pointer none)) t0 (.pointer none)) fun t4 =>
 gj t4 true (fun J => J t0) fun t6 =>
 gj t4 true (fun J => A0 PR (B5 t6) J) fun t7 =>
 gj t4 true (fun J => A0 PR (Instr.fieldAt 74 t7 1) J) fun t8 =>
 gj t4 true (fun J => A6 PR (Instr.loadAt 69 t8) J) fun t9 =>
 gj t4 true (fun J => A6 PR (H6 .neq 69 (.tmp 9) (.const (.pointer none)) t9 (.pointer none)) J) fun t10 =>
 A0 PR (do pure (if ← asBool t4 then t10 else (.bool false))) fun t11 =>
 gj t11 true (fun J => J t0) fun t13 =>
 gj t11 true (fun J => A0 PR (B5 t13) J) fun t14 =>
 gj t11 true (fun J => A0 PR (Instr.fieldAt 74 t14 2) J) fun t15 =>
 gj t11 true (fun J => A6 PR (Instr.loadAt 70 t15) J) fun t16 =>
 gj t11 true (fun J => A6 PR (H6 .neq 70 (.tmp 16) (.const (.pointer none)) t16 (.pointer none)) J) fun t17 =>
 A0 PR (do pure (if ← asBool t11 then t17 else (.bool false))) fun t18 =>
 gj t18 true (fun J => J t0) fun t20 =>
 gj t18 true (fun J => A0 PR (B5 t20) J) fun t21 =>
 gj t18 true (fun J => A0 PR (Instr.fieldAt 74 t21 3) J) fun t22 =>
 gj t18 true (fun J => A6 PR (Instr.loadAt 71 t22) J) fun t23 =>
 gj t18 true (fun J => A6 PR (H6 .neq 71 (.tmp 23) (.const (.pointer none)) t23 (.pointer none)) J) fun t24 =>
 A0 PR (do pure (if ← asBool t18 then t24 else (.bool false))) fun t25 =>
 R t25
theorem A4e : A9 PR 11 := A7 Tryz.func11 (by kernel_rfl) rfl
theorem A5G {X : Nat → Prop} {t0 : Value} {R : Value → WP} {w : World} (h : A0F X t0 R w) : Fn PR X 11 #[t0] w R := C4 (args := [t0]) mixed Tryz.func11 (by kernel_rfl) h
def A1V (X : Nat → Prop) (t0 t1 : Value) (R : Value → WP) : WP :=
 jn (n := 3) (fun t7 t8 t9 =>
 R (.tuple #[t7, t8, t9])) fun J1 =>
 lp (n := 3) (fun L2 t7_1 t8_1 t9_1 =>
 jn (n := 0) (
 B7 PR X 17 [t0, t1] fun t20 =>
 B4 PR X (Instr.alloc 49 true (.tuple #[])) fun t10 =>
 B9 PR X (Instr.storeAt 49 t10 t20) <|
 A0 PR (binOp .add 3 t7_1 (.int .i64 1)) fun t22 =>
 jn (n := 1) (fun t8_2 =>
 A0 PR (Instr.fieldAt 49 t10 2) fun t27 =>
 A6 PR (Instr.loadAt 4 t27) fun t28 =>
 C3 t28 (
 A0 PR (binOp .add 3 t9_1 (.int .i64 1)) fun t30 =>
 L2 t22 t8_2 t30) (
 L2 t22 t8_2 t9_1)) fun J3 =>
 A0 PR (Instr.fieldAt 49 t10 0) fun t23 =>
 A6 PR (Instr.loadAt 4 t23) fun t24 =>
 C3 t24 (
 A0 PR (binOp .add 3 t8_1 (.int .i64 1)) fun t26 =>
 J3 t26) (
 J3 t8_1)) fun J4 =>
 A0 PR (binOp .lss 3 t7_1 (.int .i64 200)) fun t12 =>
 gj t12 true (fun J => J t0) fun t14 =>
 gj t12 true (fun J => J t1) fun t15 =>
 gj t12 true (fun J => B7 PR X 15 [t14, t15] J) fun t16 =>
 A0 PR (do pure (if ← asBool t12 then t16 else (.bool false))) fun t17 =>
 C3 t17 (
 J4) (
 J1 t7_1 t8_1 t9_1)) (.int .i64 0) (.int .i64 0) (.int .i64 0)
theorem A6d : A9 PR 23 := A7 Tryz.func23 (by kernel_rfl) rfl
theorem A6r {X : Nat → Prop} {t0 t1 : Value} {R : Value → WP} {w : World} (h : A1V X t0 t1 R w) : Fn PR X 23 #[t0, t1] w R := C4 (args := [t0, t1]) mixed Tryz.func23 (by kernel_rfl) h
end Go.Proofs.YtpnidmkaobfhiaaGreat
namespace Go.Proofs.YtpnidmkaobfhiaaGreat
open Go
def A2s (X : Nat → Prop) (t0 t1 : Value) (R : Value → WP) : WP :=
 B4 PR X (Instr.box 38 t1) fun t3 =>
 A0 PR (Instr.build 91 #[(0, t0)]) fun t7 =>
 B4 PR X (Instr.alloc 91 true (.tuple #[])) fun t5 =>
 B9 PR X (Instr.storeAt 91 t5 t7) <|
 jn (n := 1) (fun t4 =>
 A6 PR (Instr.loadAt 91 t5) fun t38 =>
 A0 PR (Instr.build 106 #[(0, t38)]) fun t39 =>
 B4 PR X (Instr.box 106 t39) fun t40 =>
 A0 PR (Instr.makeInterface 105 t40) fun t41 =>
 A0 PR (Instr.build 98 #[(0, t41)]) fun t42 =>
 B4 PR X (Instr.box 98 t42) fun t43 =>
 R t43) fun J1 =>
 A0 PR (Instr.fieldAt 38 t3 0) fun t8 =>
 A6 PR (Instr.loadAt 3 t8) fun t9 =>
 A0 PR (binOp .eql 3 t9 (.int .i64 1)) fun t11 =>
 C3 t11 (
 A6 PR (Instr.loadAt 91 t5) fun t12 =>
 A0 PR (Instr.fieldAt 38 t3 2) fun t13 =>
 A6 PR (Instr.loadAt 36 t13) fun t14 =>
 A0 PR (Instr.build 94 #[(0, t12), (1, t14)]) fun t15 =>
 B4 PR X (Instr.box 94 t15) fun t16 =>
 A0 PR (Instr.makeInterface 92 t16) fun t17 =>
 A0 PR (Instr.build 98 #[(0, t17)]) fun t18 =>
 B4 PR X (Instr.box 98 t18) fun t19 =>
 R t19) (
 A0 PR (binOp .eql 3 t9 (.int .i64 2)) fun t21 =>
 C3 t21 (
 A6 PR (Instr.loadAt 91 t5) fun t22 =>
 A0 PR (Instr.fieldAt 38 t3 3) fun t23 =>
 A6 PR (Instr.loadAt 3 t23) fun t24 =>
 A0 PR (Instr.build 101 #[(0, t22), (1, t24)]) fun t25 =>
 B4 PR X (Instr.box 101 t25) fun t26 =>
 A0 PR (Instr.makeInterface 99 t26) fun t27 =>
 A0 PR (Instr.build 98 #[(0, t27)]) fun t28 =>
 B4 PR X (Instr.box 98 t28) fun t29 =>
 R t29) (
 A0 PR (binOp .eql 3 t9 (.int .i64 3)) fun t31 =>
 C3 t31 (
 A6 PR (Instr.loadAt 91 t5) fun t32 =>
 A0 PR (Instr.build 104 #[(0, t32)]) fun t33 =>
 B4 PR X (Instr.box 104 t33) fun t34 =>
 A0 PR (Instr.makeInterface 102 t34) fun t35 =>
 A0 PR (Instr.build 98 #[(0, t35)]) fun t36 =>
 B4 PR X (Instr.box 98 t36) fun t37 =>
 R t37) (
 J1 (.pointer none))))
theorem A1u : A9 PR 10 := A7 Tryz.func10 (by kernel_rfl) rfl
theorem A6x {X : Nat → Prop} {t0 t1 : Value} {R : Value → WP} {w : World} (h : A2s X t0 t1 R w) : Fn PR X 10 #[t0, t1] w R := C4 (args := [t0, t1]) mixed Tryz.func10 (by kernel_rfl) h
def A1s (X : Nat → Prop) (t0 t1 : Value) (R : Value → WP) : WP :=
 B7 PR X 19 [t0] fun t6 =>
 A0 PR (binOp .neq 3 t6 (.int .i64 (-1))) fun t7 =>
 gj t7 true (fun J => J t0) fun t9 =>
 gj t7 true (fun J => A0 PR (B5 t9) J) fun t10 =>
 gj t7 true (fun J => A0 PR (Instr.fieldAt 98 t10 0) J) fun t11 =>
 gj t7 true (fun J => A6 PR (Instr.loadAt 96 t11) J) fun t12 =>
 gj t7 true (fun J => J t1) fun t13 =>
 gj t7 true (fun J => inv PR X t12 "gangplank/control.waits" [t13] J) fun t14 =>
 gj t7 true (fun J => A0 PR (Op.unary .not t14) J) fun t15 =>
 A0 PR (do pure (if ← asBool t7 then t15 else (.bool false))) fun t16 =>
 R t16
theorem P1 : A9 PR 15 := A7 Tryz.func15 (by kernel_rfl) rfl
theorem A83 {X : Nat → Prop} {t0 t1 : Value} {R : Value → WP} {w : World} (h : A1s X t0 t1 R w) : Fn PR X 15 #[t0, t1] w R := C4 (args := [t0, t1]) mixed Tryz.func15 (by kernel_rfl) h
def r5 (X : Nat → Prop) (t0 t1 : Value) (R : Value → WP) : WP :=
 B4 PR X (Instr.alloc 49 true (.tuple #[])) fun t4 =>
 jn (n := 0) (
 A0 PR (B5 t0) fun t11 =>
 A0 PR (Instr.fieldAt 98 t11 0) fun t12 =>
 A6 PR (Instr.loadAt 96 t12) fun t13 =>
 inv PR X t13 "gangplank/control.step" [t1] fun t15 =>
 B9 PR X (Instr.storeAt 49 t4 t15) <|
 A6 PR (D6 [.c 49 t4]) R) fun J1 =>
 B7 PR X 15 [t0, t1] fun t7 =>
 A0 PR (Op.unary .not t7) fun t8 =>
 C3 t8 (
 A0 PR (Instr.build 49 #[]) fun t9 =>
 B9 PR X (Instr.storeAt 49 t4 t9) <|
 A6 PR (D6 [.c 49 t4]) R) (
 J1)
theorem n9 : A9 PR 17 := A7 Tryz.func17 (by kernel_rfl) rfl
theorem A2P {X : Nat → Prop} {t0 t1 : Value} {R : Value → WP} {w : World} (h : r5 X t0 t1 R w) : Fn PR X 17 #[t0, t1] w R := C4 (args := [t0, t1]) mixed Tryz.func17 (by kernel_rfl) h
def A1f (X : Nat → Prop) (t0 : Value) (R : Value → WP) : WP :=
 A0 PR (B5 t0) fun t4 =>
 A0 PR (Instr.fieldAt 98 t4 0) fun t5 =>
 A6 PR (Instr.loadAt 96 t5) fun t6 =>
 inv PR X t6 "gangplank/control.common" [] fun t7 =>
 A0 PR (B5 t7) fun t8 =>
 A0 PR (Instr.fieldAt 91 t8 1) fun t9 =>
 A6 PR (Instr.loadAt 3 t9) fun t10 =>
 R t10
theorem l4 : A9 PR 19 := A7 Tryz.func19 (by kernel_rfl) rfl
theorem A8M {X : Nat → Prop} {t0 : Value} {R : Value → WP} {w : World} (h : A1f X t0 R w) : Fn PR X 19 #[t0] w R := C4 (args := [t0]) mixed Tryz.func19 (by kernel_rfl) h
def A1Y (X : Nat → Prop) (t0 : Value) (R : Value → WP) : WP :=
 B4 PR X (Instr.alloc 57 true (.tuple #[])) fun t2 =>
 A0 PR (B5 t0) fun t4 =>
 A0 PR (Instr.fieldAt 98 t4 0) fun t5 =>
 A6 PR (Instr.loadAt 96 t5) fun t6 =>
 inv PR X t6 "gangplank/control.common" [] fun t7 =>
 A0 PR (B5 t7) fun t8 =>
 A0 PR (Instr.fieldAt 91 t8 2) fun t9 =>
 A6 PR (Instr.loadAt 57 t9) fun t10 =>
 B9 PR X (Instr.storeAt 57 t2 t10) <|
 A6 PR (D6 [.c 57 t2]) R
theorem j0 : A9 PR 20 := A7 Tryz.func20 (by kernel_rfl) rfl
theorem A61 {X : Nat → Prop} {t0 : Value} {R : Value → WP} {w : World} (h : A1Y X t0 R w) : Fn PR X 20 #[t0] w R := C4 (args := [t0]) mixed Tryz.func20 (by kernel_rfl) h
def A0K (X : Nat → Prop) (t0 : Value) (R : Value → WP) : WP :=
 jn (n := 1) (fun t2 =>
 A0 PR (B5 t0) fun t10 =>
 A0 PR (Instr.fieldAt 94 t10 1) fun t11 =>
 A6 PR (Instr.loadAt 36 t11) fun t12 =>
 B7 PR X 77 [t12] fun t13 =>
 R t13) fun J1 =>
 A0 PR (B5 t0) fun t4 =>
 A0 PR (Instr.fieldAt 94 t4 0) fun t5 =>
 A0 PR (Instr.fieldAt 91 t5 0) fun t6 =>
 A6 PR (Instr.loadAt 3 t6) fun t7 =>
 A0 PR (binOp .neq 3 t7 (.int .i64 0)) fun t8 =>
 C3 t8 (
 R (.int .i64 1)) (
 J1 (.int .i64 0))
theorem x6 : A9 PR 234 := A7 Tryz.func234 (by kernel_rfl) rfl
theorem A42 {X : Nat → Prop} {t0 : Value} {R : Value → WP} {w : World} (h : A0K X t0 R w) : Fn PR X 234 #[t0] w R := C4 (args := [t0]) mixed Tryz.func234 (by kernel_rfl) h
def A0q (X : Nat → Prop) (t0 : Value) (R : Value → WP) : WP :=
 R t0
theorem A6P {X : Nat → Prop} {t0 : Value} {R : Value → WP} {w : World} (h : A0q X t0 R w) : Fn PR X 235 #[t0] w R := C4 (args := [t0]) mixed Tryz.func235 (by kernel_rfl) h
def A0Z (X : Nat → Prop) (t0 t1 : Value) (R : Value → WP) : WP :=
 B4 PR X (Instr.alloc 49 true (.tuple #[])) fun t4 =>
 drw <|
 A0 PR (B5 t0) fun t9 =>
 A0 PR (Instr.fieldAt 94 t9 0) fun t10 =>
 A0 PR (Instr.fieldAt 91 t10 1) fun t11 =>
 A6 PR (Instr.loadAt 3 t11) fun t12 =>
 A0 PR (B5 t1) fun t14 =>
 A0 PR (Instr.fieldAt 74 t14 0) fun t15 =>
 A0 PR (Instr.fieldAt 23 t15 0) fun t16 =>
 A6 PR (Instr.loadAt 3 t16) fun t17 =>
 A0 PR (binOp .sub 3 t12 t17) fun t18 =>
 jn (n := 0) (
 A0 PR (B5 t0) fun t76 =>
 A0 PR (Instr.fieldAt 94 t76 0) fun t77 =>
 A0 PR (Instr.fieldAt 91 t77 1) fun t78 =>
 A6 PR (Instr.loadAt 3 t78) fun t79 =>
 A0 PR (binOp .add 3 t79 (.int .i64 1)) fun t80 =>
 A0 PR (B5 t0) fun t81 =>
 A0 PR (Instr.fieldAt 94 t81 0) fun t82 =>
 A0 PR (Instr.fieldAt 91 t82 1) fun t83 =>
 B9 PR X (Instr.storeAt 3 t83 t80) <|
 jn (n := 0) (
 A0 PR (Instr.build 49 #[]) fun t148 =>
 B9 PR X (Instr.storeAt 49 t4 t148) <|
 A6 PR (D6 [.c 49 t4]) R) fun J1 =>
 A0 PR (binOp .eql 3 t18 (.int .i64 1)) fun t111 =>
 C3 t111 (
 drw <|
 A0 PR (B5 t1) fun t113 =>
 A0 PR (Instr.fieldAt 74 t113 2) fun t114 =>
 A6 PR (Instr.loadAt 70 t114) fun t115 =>
 A0 PR (B5 t0) fun t117 =>
 A0 PR (Instr.fieldAt 94 t117 3) fun t118 =>
 A6 PR (Instr.loadAt 3 t118) fun t119 =>
 A0 PR (B5 t0) fun t121 =>
 A0 PR (Instr.fieldAt 94 t121 1) fun t122 =>
 A6 PR (Instr.loadAt 36 t122) fun t123 =>
 B7 PR X 47 [t115, t119, t123] fun t124 =>
 J1) (
 A0 PR (binOp .eql 3 t18 (.int .i64 2)) fun t126 =>
 C3 t126 (
 A0 PR (B5 t1) fun t129 =>
 A0 PR (Instr.fieldAt 74 t129 1) fun t130 =>
 A6 PR (Instr.loadAt 69 t130) fun t131 =>
 B7 PR X 25 [t131, (.int .i64 1)] fun t132 =>
 A0 PR (B5 t0) fun t133 =>
 A0 PR (Instr.fieldAt 94 t133 4) fun t134 =>
 B9 PR X (Instr.storeAt 3 t134 t132) <|
 J1) (
 A0 PR (binOp .eql 3 t18 (.int .i64 3)) fun t136 =>
 C3 t136 (
 drw <|
 A0 PR (B5 t1) fun t138 =>
 A0 PR (Instr.fieldAt 74 t138 1) fun t139 =>
 A6 PR (Instr.loadAt 69 t139) fun t140 =>
 A0 PR (B5 t0) fun t142 =>
 A0 PR (Instr.fieldAt 94 t142 3) fun t143 =>
 A6 PR (Instr.loadAt 3 t143) fun t144 =>
 A0 PR (binOp .add 3 t144 (.int .i64 1)) fun t145 =>
 B7 PR X 52 [t140, (.int .i64 1), t145] fun t146 =>
 A0 PR (Instr.build 49 #[(0, (.bool true))]) fun t147 =>
 B9 PR X (Instr.storeAt 49 t4 t147) <|
 A6 PR (D6 [.c 49 t4]) R) (
 jn (n := 0) (
 A0 PR (B5 t0) fun t107 =>
 A0 PR (Instr.fieldAt 94 t107 0) fun t108 =>
 B7 PR X 241 [t108] fun t109 =>
 B9 PR X (Instr.storeAt 49 t4 t109) <|
 A6 PR (D6 [.c 49 t4]) R) fun J2 =>
 A0 PR (B5 t1) fun t86 =>
 A0 PR (Instr.fieldAt 74 t86 1) fun t87 =>
 A6 PR (Instr.loadAt 69 t87) fun t88 =>
 B7 PR X 43 [t88, (.int .i64 0), (.int .i64 1)] fun t89 =>
 A0 PR (B5 t0) fun t91 =>
 A0 PR (Instr.fieldAt 94 t91 4) fun t92 =>
 A6 PR (Instr.loadAt 3 t92) fun t93 =>
 A0 PR (binOp .gtr 3 t93 (.int .i64 0)) fun t94 =>
 C3 t94 (
 drw <|
 A0 PR (B5 t1) fun t96 =>
 A0 PR (Instr.fieldAt 74 t96 3) fun t97 =>
 A6 PR (Instr.loadAt 71 t97) fun t98 =>
 A0 PR (B5 t0) fun t100 =>
 A0 PR (Instr.fieldAt 94 t100 4) fun t101 =>
 A6 PR (Instr.loadAt 3 t101) fun t102 =>
 A0 PR (binOp .sub 3 t102 (.int .i64 1)) fun t103 =>
 B7 PR X 240 [t98, t103, t89] fun t105 =>
 J2) (
 J2))))) fun J3 =>
 jn (n := 0) (
 jn (n := 0) (
 J3) fun J4 =>
 B7 PR X 239 [t0, t1] fun t74 =>
 B9 PR X (Instr.storeAt 49 t4 t74) <|
 A6 PR (D6 [.c 49 t4]) R) fun J5 =>
 jn (n := 0) (
 jn (n := 0) (
 J3) fun J6 =>
 A0 PR (B5 t0) fun t42 =>
 A0 PR (Instr.fieldAt 94 t42 0) fun t43 =>
 A0 PR (Instr.fieldAt 91 t43 1) fun t44 =>
 A6 PR (Instr.loadAt 3 t44) fun t45 =>
 A0 PR (binOp .add 3 t45 (.int .i64 1)) fun t46 =>
 A0 PR (B5 t0) fun t47 =>
 A0 PR (Instr.fieldAt 94 t47 0) fun t48 =>
 A0 PR (Instr.fieldAt 91 t48 1) fun t49 =>
 B9 PR X (Instr.storeAt 3 t49 t46) <|
 drw <|
 A0 PR (B5 t0) fun t52 =>
 A0 PR (Instr.fieldAt 94 t52 2) fun t53 =>
 A6 PR (Instr.loadAt 54 t53) fun t54 =>
 A0 PR (B5 t1) fun t56 =>
 A0 PR (Instr.fieldAt 74 t56 1) fun t57 =>
 A6 PR (Instr.loadAt 69 t57) fun t58 =>
 A0 PR (B5 t0) fun t61 =>
 A0 PR (Instr.fieldAt 94 t61 0) fun t62 =>
 A0 PR (Instr.fieldAt 91 t62 1) fun t63 =>
 A6 PR (Instr.loadAt 3 t63) fun t64 =>
 B7 PR X 87 [t1, t64] fun t65 =>
 watch PR [(none, (Instr.loadAt 69 t57), t58), (none, (Instr.loadAt 54 t53), t54)] <|
 B7 PR X 25 [t58, t65] fun t66 =>
 watch PR [(none, (Instr.loadAt 54 t53), t54)] <|
 B4 PR X (Instr.buildSlice 54 1 #[(0, t66)]) fun t67 =>
 watch PR [(none, (Instr.loadAt 54 t53), t54)] <|
 B4 PR X (A8 .append #[54, 54] 54 [t54, t67]) fun t68 =>
 A0 PR (B5 t0) fun t69 =>
 A0 PR (Instr.fieldAt 94 t69 2) fun t70 =>
 B9 PR X (Instr.storeAt 54 t70 t68) <|
 A0 PR (Instr.build 49 #[]) fun t71 =>
 B9 PR X (Instr.storeAt 49 t4 t71) <|
 A6 PR (D6 [.c 49 t4]) R) fun J7 =>
 jn (n := 0) (
 B7 PR X 234 [t0] fun t33 =>
 A0 PR (binOp .neq 31 t33 (.int .i64 0)) fun t35 =>
 C3 t35 (
 A0 PR (B5 t0) fun t37 =>
 A0 PR (Instr.fieldAt 94 t37 0) fun t38 =>
 B7 PR X 238 [t38, t33] fun t40 =>
 B9 PR X (Instr.storeAt 49 t4 t40) <|
 A6 PR (D6 [.c 49 t4]) R) (
 J7)) fun J8 =>
 jn (n := 0) (
 J3) fun J9 =>
 jn (n := 0) (
 jn (n := 0) (
 A0 PR (binOp .eql 3 t18 (.int .i64 0)) fun t31 =>
 C3 t31 (
 J5) (
 J9)) fun J10 =>
 A0 PR (binOp .lss 3 t18 (.int .i64 0)) fun t28 =>
 C3 t28 (
 J7) (
 J10)) fun J11 =>
 A0 PR (B5 t0) fun t21 =>
 A0 PR (Instr.fieldAt 94 t21 0) fun t22 =>
 A0 PR (Instr.fieldAt 91 t22 1) fun t23 =>
 A6 PR (Instr.loadAt 3 t23) fun t24 =>
 A0 PR (binOp .eql 3 t24 (.int .i64 0)) fun t25 =>
 C3 t25 (
 J8) (
 J11)
theorem A6m {X : Nat → Prop} {t0 t1 : Value} {R : Value → WP} {w : World} (h : A0Z X t0 t1 R w) : Fn PR X 236 #[t0, t1] w R := C4 (args := [t0, t1]) mixed Tryz.func236 (by kernel_rfl) h
def A0G (X : Nat → Prop) (t0 t1 : Value) (R : Value → WP) : WP :=
 R (.bool false)
theorem A5C {X : Nat → Prop} {t0 t1 : Value} {R : Value → WP} {w : World} (h : A0G X t0 t1 R w) : Fn PR X 237 #[t0, t1] w R := C4 (args := [t0, t1]) mixed Tryz.func237 (by kernel_rfl) h
def A0r (X : Nat → Prop) (t0 t1 : Value) (R : Value → WP) : WP :=
 B4 PR X (Instr.alloc 49 true (.tuple #[])) fun t4 =>
 A0 PR (Instr.build 57 #[(0, t1)]) fun t8 =>
 A0 PR (B5 t0) fun t9 =>
 A0 PR (Instr.fieldAt 91 t9 1) fun t10 =>
 B9 PR X (Instr.storeAt 3 t10 (.int .i64 (-1))) <|
 A0 PR (B5 t0) fun t11 =>
 A0 PR (Instr.fieldAt 91 t11 2) fun t12 =>
 B9 PR X (Instr.storeAt 57 t12 t8) <|
 A0 PR (Instr.build 49 #[(0, (.bool true)), (1, (.bool true))]) fun t13 =>
 B9 PR X (Instr.storeAt 49 t4 t13) <|
 A6 PR (D6 [.c 49 t4]) R
theorem Q5 : A9 PR 238 := A7 Tryz.func238 (by kernel_rfl) rfl
theorem A6b {X : Nat → Prop} {t0 t1 : Value} {R : Value → WP} {w : World} (h : A0r X t0 t1 R w) : Fn PR X 238 #[t0, t1] w R := C4 (args := [t0, t1]) mixed Tryz.func238 (by kernel_rfl) h
def A0c (X : Nat → Prop) (t0 t1 : Value) (R : Value → WP) : WP :=
 B4 PR X (Instr.alloc 49 true (.tuple #[])) fun t4 =>
 jn (n := 0) (
 A0 PR (B5 t1) fun t32 =>
 A0 PR (Instr.fieldAt 74 t32 3) fun t33 =>
 A6 PR (Instr.loadAt 71 t33) fun t34 =>
 B7 PR X 233 [t34] fun t35 =>
 A0 PR (B5 t0) fun t36 =>
 A0 PR (Instr.fieldAt 94 t36 3) fun t37 =>
 B9 PR X (Instr.storeAt 3 t37 t35) <|
 jn (n := 0) (
 drw <|
 A0 PR (B5 t1) fun t48 =>
 A0 PR (Instr.fieldAt 74 t48 2) fun t49 =>
 A6 PR (Instr.loadAt 70 t49) fun t50 =>
 A0 PR (B5 t0) fun t52 =>
 A0 PR (Instr.fieldAt 94 t52 3) fun t53 =>
 A6 PR (Instr.loadAt 3 t53) fun t54 =>
 B7 PR X 46 [t50, t54] fun t55 =>
 A0 PR (B5 t0) fun t57 =>
 A0 PR (Instr.fieldAt 94 t57 0) fun t58 =>
 A0 PR (Instr.fieldAt 91 t58 1) fun t59 =>
 A6 PR (Instr.loadAt 3 t59) fun t60 =>
 A0 PR (binOp .add 3 t60 (.int .i64 1)) fun t61 =>
 A0 PR (B5 t0) fun t62 =>
 A0 PR (Instr.fieldAt 94 t62 0) fun t63 =>
 A0 PR (Instr.fieldAt 91 t63 1) fun t64 =>
 B9 PR X (Instr.storeAt 3 t64 t61) <|
 A0 PR (Instr.build 49 #[]) fun t65 =>
 B9 PR X (Instr.storeAt 49 t4 t65) <|
 A6 PR (D6 [.c 49 t4]) R) fun J1 =>
 A0 PR (B5 t0) fun t39 =>
 A0 PR (Instr.fieldAt 94 t39 3) fun t40 =>
 A6 PR (Instr.loadAt 3 t40) fun t41 =>
 A0 PR (binOp .lss 3 t41 (.int .i64 0)) fun t42 =>
 C3 t42 (
 A0 PR (B5 t0) fun t44 =>
 A0 PR (Instr.fieldAt 94 t44 0) fun t45 =>
 B7 PR X 238 [t45, (.int .i64 13)] fun t46 =>
 B9 PR X (Instr.storeAt 49 t4 t46) <|
 A6 PR (D6 [.c 49 t4]) R) (
 J1)) fun J2 =>
 drw <|
 A0 PR (B5 t1) fun t7 =>
 A0 PR (Instr.fieldAt 74 t7 3) fun t8 =>
 A6 PR (Instr.loadAt 71 t8) fun t9 =>
 A0 PR (B5 t0) fun t11 =>
 A0 PR (Instr.fieldAt 94 t11 2) fun t12 =>
 A6 PR (Instr.loadAt 54 t12) fun t13 =>
 B7 PR X 242 [t9, t13] fun t14 =>
 A0 PR (binOp .geq 3 t14 (.int .i64 0)) fun t16 =>
 C3 t16 (
 A0 PR (B5 t1) fun t18 =>
 A0 PR (Instr.fieldAt 74 t18 2) fun t19 =>
 A6 PR (Instr.loadAt 70 t19) fun t20 =>
 B7 PR X 50 [t20, t14] fun t22 =>
 A0 PR (B5 t1) fun t24 =>
 A0 PR (Instr.fieldAt 74 t24 3) fun t25 =>
 A6 PR (Instr.loadAt 71 t25) fun t26 =>
 B7 PR X 243 [t26, t14] fun t28 =>
 A0 PR (Instr.build 49 #[]) fun t29 =>
 B9 PR X (Instr.storeAt 49 t4 t29) <|
 A6 PR (D6 [.c 49 t4]) R) (
 J2)
theorem A5H : A9 PR 239 := A7 Tryz.func239 (by kernel_rfl) rfl
theorem A6L {X : Nat → Prop} {t0 t1 : Value} {R : Value → WP} {w : World} (h : A0c X t0 t1 R w) : Fn PR X 239 #[t0, t1] w R := C4 (args := [t0, t1]) mixed Tryz.func239 (by kernel_rfl) h
def A0g (X : Nat → Prop) (t0 : Value) (R : Value → WP) : WP :=
 B4 PR X (Instr.alloc 49 true (.tuple #[])) fun t2 =>
 A0 PR (B5 t0) fun t4 =>
 A0 PR (Instr.fieldAt 91 t4 1) fun t5 =>
 B9 PR X (Instr.storeAt 3 t5 (.int .i64 (-1))) <|
 A0 PR (Instr.build 49 #[(1, (.bool true))]) fun t6 =>
 B9 PR X (Instr.storeAt 49 t2 t6) <|
 A6 PR (D6 [.c 49 t2]) R
theorem U6 : A9 PR 241 := A7 Tryz.func241 (by kernel_rfl) rfl
theorem A6Q {X : Nat → Prop} {t0 : Value} {R : Value → WP} {w : World} (h : A0g X t0 R w) : Fn PR X 241 #[t0] w R := C4 (args := [t0]) mixed Tryz.func241 (by kernel_rfl) h
def A0a (X : Nat → Prop) (t0 t1 : Value) (R : Value → WP) : WP :=
 B4 PR X (Instr.alloc 49 true (.tuple #[])) fun t4 =>
 jn (n := 0) (
 A0 PR (B5 t0) fun t28 =>
 A0 PR (Instr.fieldAt 101 t28 0) fun t29 =>
 A0 PR (Instr.fieldAt 91 t29 1) fun t30 =>
 A6 PR (Instr.loadAt 3 t30) fun t31 =>
 A0 PR (B5 t0) fun t33 =>
 A0 PR (Instr.fieldAt 101 t33 0) fun t34 =>
 A0 PR (Instr.fieldAt 91 t34 1) fun t35 =>
 A6 PR (Instr.loadAt 3 t35) fun t36 =>
 A0 PR (binOp .add 3 t36 (.int .i64 1)) fun t37 =>
 A0 PR (B5 t0) fun t38 =>
 A0 PR (Instr.fieldAt 101 t38 0) fun t39 =>
 A0 PR (Instr.fieldAt 91 t39 1) fun t40 =>
 B9 PR X (Instr.storeAt 3 t40 t37) <|
 jn (n := 0) (
 A0 PR (Instr.build 49 #[]) fun t147 =>
 B9 PR X (Instr.storeAt 49 t4 t147) <|
 A6 PR (D6 [.c 49 t4]) R) fun J1 =>
 A0 PR (binOp .eql 3 t31 (.int .i64 0)) fun t61 =>
 C3 t61 (
 drw <|
 A0 PR (B5 t1) fun t63 =>
 A0 PR (Instr.fieldAt 74 t63 1) fun t64 =>
 A6 PR (Instr.loadAt 69 t64) fun t65 =>
 A0 PR (B5 t0) fun t67 =>
 A0 PR (Instr.fieldAt 101 t67 1) fun t68 =>
 A6 PR (Instr.loadAt 3 t68) fun t69 =>
 A0 PR (B5 t0) fun t71 =>
 A0 PR (Instr.fieldAt 101 t71 0) fun t72 =>
 A0 PR (Instr.fieldAt 91 t72 0) fun t73 =>
 A6 PR (Instr.loadAt 3 t73) fun t74 =>
 B7 PR X 44 [t65, t69, t74] fun t75 =>
 J1) (
 A0 PR (binOp .eql 3 t31 (.int .i64 1)) fun t77 =>
 C3 t77 (
 drw <|
 A0 PR (B5 t1) fun t83 =>
 A0 PR (Instr.fieldAt 74 t83 4) fun t84 =>
 A6 PR (Instr.loadAt 72 t84) fun t85 =>
 A0 PR (B5 t0) fun t87 =>
 A0 PR (Instr.fieldAt 101 t87 1) fun t88 =>
 A6 PR (Instr.loadAt 3 t88) fun t89 =>
 A0 PR (Instr.indexAt 72 t85 t89) fun t90 =>
 A6 PR (Instr.loadAt 55 t90) fun t91 =>
 A0 PR (B5 t1) fun t93 =>
 A0 PR (Instr.fieldAt 74 t93 5) fun t94 =>
 A6 PR (Instr.loadAt 54 t94) fun t95 =>
 A0 PR (B5 t0) fun t97 =>
 A0 PR (Instr.fieldAt 101 t97 1) fun t98 =>
 A6 PR (Instr.loadAt 3 t98) fun t99 =>
 A0 PR (Instr.indexAt 54 t95 t99) fun t100 =>
 A6 PR (Instr.loadAt 3 t100) fun t101 =>
 A0 PR (B5 t1) fun t103 =>
 A0 PR (Instr.fieldAt 74 t103 6) fun t104 =>
 A6 PR (Instr.loadAt 3 t104) fun t105 =>
 B7 PR X 95 [t91, t101, (.int .i64 4), t105] fun t106 =>
 A0 PR (Instr.extract t106 0) fun t107 =>
 A0 PR (Instr.extract t106 1) fun t108 =>
 A0 PR (Instr.extract t106 2) fun t109 =>
 A0 PR (B5 t0) fun t110 =>
 A0 PR (Instr.fieldAt 101 t110 3) fun t111 =>
 B9 PR X (Instr.storeAt 55 t111 t107) <|
 A0 PR (B5 t0) fun t112 =>
 A0 PR (Instr.fieldAt 101 t112 2) fun t113 =>
 B9 PR X (Instr.storeAt 3 t113 t108) <|
 A0 PR (B5 t0) fun t114 =>
 A0 PR (Instr.fieldAt 101 t114 0) fun t115 =>
 A0 PR (Instr.fieldAt 91 t115 2) fun t116 =>
 A0 PR (Instr.fieldAt 57 t116 3) fun t117 =>
 B9 PR X (Instr.storeAt 3 t117 t109) <|
 A0 PR (Instr.build 49 #[(0, (.bool true))]) fun t118 =>
 B9 PR X (Instr.storeAt 49 t4 t118) <|
 A6 PR (D6 [.c 49 t4]) R) (
 A0 PR (binOp .eql 3 t31 (.int .i64 2)) fun t120 =>
 C3 t120 (
 drw <|
 A0 PR (B5 t1) fun t122 =>
 A0 PR (Instr.fieldAt 74 t122 4) fun t123 =>
 A6 PR (Instr.loadAt 72 t123) fun t124 =>
 A0 PR (B5 t0) fun t126 =>
 A0 PR (Instr.fieldAt 101 t126 1) fun t127 =>
 A6 PR (Instr.loadAt 3 t127) fun t128 =>
 A0 PR (B5 t1) fun t130 =>
 A0 PR (Instr.fieldAt 74 t130 5) fun t131 =>
 A6 PR (Instr.loadAt 54 t131) fun t132 =>
 A0 PR (B5 t0) fun t134 =>
 A0 PR (Instr.fieldAt 101 t134 1) fun t135 =>
 A6 PR (Instr.loadAt 3 t135) fun t136 =>
 A0 PR (B5 t0) fun t138 =>
 A0 PR (Instr.fieldAt 101 t138 3) fun t139 =>
 A6 PR (Instr.loadAt 55 t139) fun t140 =>
 A0 PR (B5 t0) fun t142 =>
 A0 PR (Instr.fieldAt 101 t142 2) fun t143 =>
 A6 PR (Instr.loadAt 3 t143) fun t144 =>
 A0 PR (Instr.indexAt 72 t124 t128) fun t145 =>
 B9 PR X (Instr.storeAt 55 t145 t140) <|
 A0 PR (Instr.indexAt 54 t132 t136) fun t146 =>
 B9 PR X (Instr.storeAt 3 t146 t144) <|
 J1) (
 drw <|
 A0 PR (B5 t1) fun t43 =>
 A0 PR (Instr.fieldAt 74 t43 1) fun t44 =>
 A6 PR (Instr.loadAt 69 t44) fun t45 =>
 A0 PR (B5 t0) fun t47 =>
 A0 PR (Instr.fieldAt 101 t47 1) fun t48 =>
 A6 PR (Instr.loadAt 3 t48) fun t49 =>
 A0 PR (B5 t0) fun t51 =>
 A0 PR (Instr.fieldAt 101 t51 0) fun t52 =>
 A0 PR (Instr.fieldAt 91 t52 0) fun t53 =>
 A6 PR (Instr.loadAt 3 t53) fun t54 =>
 B7 PR X 45 [t45, t49, t54] fun t55 =>
 A0 PR (B5 t0) fun t57 =>
 A0 PR (Instr.fieldAt 101 t57 0) fun t58 =>
 B7 PR X 241 [t58] fun t59 =>
 B9 PR X (Instr.storeAt 49 t4 t59) <|
 A6 PR (D6 [.c 49 t4]) R)))) fun J2 =>
 drw <|
 A0 PR (B5 t0) fun t7 =>
 A0 PR (Instr.fieldAt 101 t7 1) fun t8 =>
 A6 PR (Instr.loadAt 3 t8) fun t9 =>
 A0 PR (binOp .lss 3 t9 (.int .i64 0)) fun t10 =>
 gj t10 false (fun J => J t0) fun t12 =>
 gj t10 false (fun J => A0 PR (B5 t12) J) fun t13 =>
 gj t10 false (fun J => A0 PR (Instr.fieldAt 101 t13 1) J) fun t14 =>
 gj t10 false (fun J => A6 PR (Instr.loadAt 3 t14) J) fun t15 =>
 gj t10 false (fun J => J t1) fun t16 =>
 gj t10 false (fun J => A0 PR (B5 t16) J) fun t17 =>
 gj t10 false (fun J => A0 PR (Instr.fieldAt 74 t17 4) J) fun t18 =>
 gj t10 false (fun J => A6 PR (Instr.loadAt 72 t18) J) fun t19 =>
 gj t10 false (fun J => A0 PR (A8 .len #[72] 0 [t19]) J) fun t20 =>
 gj t10 false (fun J => A0 PR (binOp .geq 3 t15 t20) J) fun t21 =>
 A0 PR (do pure (if ← asBool t10 then (.bool true) else t21)) fun t22 =>
 C3 t22 (
 A0 PR (B5 t0) fun t24 =>
 A0 PR (Instr.fieldAt 101 t24 0) fun t25 =>
 B7 PR X 238 [t25, (.int .i64 1)] fun t26 =>
 B9 PR X (Instr.storeAt 49 t4 t26) <|
 A6 PR (D6 [.c 49 t4]) R) (
 J2)
theorem A6D {X : Nat → Prop} {t0 t1 : Value} {R : Value → WP} {w : World} (h : A0a X t0 t1 R w) : Fn PR X 247 #[t0, t1] w R := C4 (args := [t0, t1]) mixed Tryz.func247 (by kernel_rfl) h
def A0L (X : Nat → Prop) (t0 t1 : Value) (R : Value → WP) : WP :=
 A0 PR (B5 t0) fun t6 =>
 A0 PR (Instr.fieldAt 101 t6 0) fun t7 =>
 A0 PR (Instr.fieldAt 91 t7 1) fun t8 =>
 A6 PR (Instr.loadAt 3 t8) fun t9 =>
 A0 PR (binOp .eql 3 t9 (.int .i64 0)) fun t10 =>
 gj t10 true (fun J => J t1) fun t12 =>
 gj t10 true (fun J => J t0) fun t13 =>
 gj t10 true (fun J => A0 PR (B5 t13) J) fun t14 =>
 gj t10 true (fun J => A0 PR (Instr.fieldAt 101 t14 1) J) fun t15 =>
 gj t10 true (fun J => A6 PR (Instr.loadAt 3 t15) J) fun t16 =>
 gj t10 true (fun J => B7 PR X 249 [t12, t16] J) fun t17 =>
 gj t10 true (fun J => A0 PR (Op.unary .not t17) J) fun t18 =>
 A0 PR (do pure (if ← asBool t10 then t18 else (.bool false))) fun t19 =>
 R t19
theorem A41 {X : Nat → Prop} {t0 t1 : Value} {R : Value → WP} {w : World} (h : A0L X t0 t1 R w) : Fn PR X 248 #[t0, t1] w R := C4 (args := [t0, t1]) mixed Tryz.func248 (by kernel_rfl) h
def A6A (X : Nat → Prop) (t0 t1 : Value) (R : Value → WP) : WP :=
 A0 PR (B5 t0) fun t6 =>
 A0 PR (Instr.fieldAt 74 t6 1) fun t7 =>
 A6 PR (Instr.loadAt 69 t7) fun t8 =>
 B7 PR X 29 [t8, t1] fun t10 =>
 A0 PR (binOp .lss 3 t10 (.int .i64 0)) fun t11 =>
 R t11
theorem A4U : A9 PR 249 := A7 Tryz.func249 (by kernel_rfl) rfl
theorem B3q {X : Nat → Prop} {t0 t1 : Value} {R : Value → WP} {w : World} (h : A6A X t0 t1 R w) : Fn PR X 249 #[t0, t1] w R := C4 (args := [t0, t1]) mixed Tryz.func249 (by kernel_rfl) h
def A1F (X : Nat → Prop) (t0 t1 : Value) (R : Value → WP) : WP :=
 B4 PR X (Instr.alloc 49 true (.tuple #[])) fun t4 =>
 A0 PR (B5 t1) fun t9 =>
 A0 PR (Instr.fieldAt 74 t9 4) fun t10 =>
 A6 PR (Instr.loadAt 72 t10) fun t11 =>
 A0 PR (A8 .len #[72] 0 [t11]) fun t12 =>
 drw <|
 A0 PR (B5 t0) fun t14 =>
 A0 PR (Instr.fieldAt 104 t14 0) fun t15 =>
 A0 PR (Instr.fieldAt 91 t15 1) fun t16 =>
 A6 PR (Instr.loadAt 3 t16) fun t17 =>
 A0 PR (binOp .quo 3 t17 t12) fun t19 =>
 A0 PR (B5 t0) fun t21 =>
 A0 PR (Instr.fieldAt 104 t21 0) fun t22 =>
 A0 PR (Instr.fieldAt 91 t22 1) fun t23 =>
 A6 PR (Instr.loadAt 3 t23) fun t24 =>
 A0 PR (binOp .rem 3 t24 t12) fun t26 =>
 A0 PR (B5 t0) fun t28 =>
 A0 PR (Instr.fieldAt 104 t28 0) fun t29 =>
 A0 PR (Instr.fieldAt 91 t29 1) fun t30 =>
 A6 PR (Instr.loadAt 3 t30) fun t31 =>
 A0 PR (binOp .add 3 t31 (.int .i64 1)) fun t32 =>
 A0 PR (B5 t0) fun t33 =>
 A0 PR (Instr.fieldAt 104 t33 0) fun t34 =>
 A0 PR (Instr.fieldAt 91 t34 1) fun t35 =>
 B9 PR X (Instr.storeAt 3 t35 t32) <|
 jn (n := 0) (
 drw <|
 A0 PR (B5 t1) fun t78 =>
 A0 PR (Instr.fieldAt 74 t78 1) fun t79 =>
 A6 PR (Instr.loadAt 69 t79) fun t80 =>
 A0 PR (B5 t0) fun t83 =>
 A0 PR (Instr.fieldAt 104 t83 0) fun t84 =>
 A0 PR (Instr.fieldAt 91 t84 0) fun t85 =>
 A6 PR (Instr.loadAt 3 t85) fun t86 =>
 B7 PR X 45 [t80, t26, t86] fun t87 =>
 jn (n := 0) (
 A0 PR (Instr.build 49 #[]) fun t96 =>
 B9 PR X (Instr.storeAt 49 t4 t96) <|
 A6 PR (D6 [.c 49 t4]) R) fun J1 =>
 A0 PR (binOp .sub 3 t12 (.int .i64 1)) fun t90 =>
 A0 PR (binOp .eql 3 t26 t90) fun t91 =>
 C3 t91 (
 A0 PR (B5 t0) fun t93 =>
 A0 PR (Instr.fieldAt 104 t93 0) fun t94 =>
 B7 PR X 241 [t94] fun t95 =>
 B9 PR X (Instr.storeAt 49 t4 t95) <|
 A6 PR (D6 [.c 49 t4]) R) (
 J1)) fun J2 =>
 A0 PR (binOp .eql 3 t19 (.int .i64 0)) fun t38 =>
 C3 t38 (
 drw <|
 A0 PR (B5 t1) fun t40 =>
 A0 PR (Instr.fieldAt 74 t40 1) fun t41 =>
 A6 PR (Instr.loadAt 69 t41) fun t42 =>
 A0 PR (B5 t0) fun t45 =>
 A0 PR (Instr.fieldAt 104 t45 0) fun t46 =>
 A0 PR (Instr.fieldAt 91 t46 0) fun t47 =>
 A6 PR (Instr.loadAt 3 t47) fun t48 =>
 B7 PR X 44 [t42, t26, t48] fun t49 =>
 A0 PR (binOp .sub 3 t12 (.int .i64 1)) fun t52 =>
 A0 PR (binOp .eql 3 t26 t52) fun t53 =>
 A0 PR (Instr.build 49 #[(0, t53)]) fun t54 =>
 B9 PR X (Instr.storeAt 49 t4 t54) <|
 A6 PR (D6 [.c 49 t4]) R) (
 A0 PR (binOp .eql 3 t19 (.int .i64 1)) fun t56 =>
 C3 t56 (
 drw <|
 A0 PR (B5 t0) fun t58 =>
 A0 PR (Instr.fieldAt 104 t58 0) fun t59 =>
 A0 PR (Instr.fieldAt 91 t59 2) fun t60 =>
 A0 PR (Instr.fieldAt 57 t60 3) fun t61 =>
 A6 PR (Instr.loadAt 3 t61) fun t62 =>
 A0 PR (B5 t1) fun t64 =>
 A0 PR (Instr.fieldAt 74 t64 4) fun t65 =>
 A6 PR (Instr.loadAt 72 t65) fun t66 =>
 A0 PR (Instr.indexAt 72 t66 t26) fun t68 =>
 A6 PR (Instr.loadAt 55 t68) fun t69 =>
 B7 PR X 122 [t69, (.int .i64 1)] fun t70 =>
 watch PR [(none, (Instr.loadAt 3 t61), t62)] <|
 A0 PR (binOp .add 3 t62 t70) fun t71 =>
 A0 PR (B5 t0) fun t72 =>
 A0 PR (Instr.fieldAt 104 t72 0) fun t73 =>
 A0 PR (Instr.fieldAt 91 t73 2) fun t74 =>
 A0 PR (Instr.fieldAt 57 t74 3) fun t75 =>
 B9 PR X (Instr.storeAt 3 t75 t71) <|
 A0 PR (Instr.build 49 #[]) fun t76 =>
 B9 PR X (Instr.storeAt 49 t4 t76) <|
 A6 PR (D6 [.c 49 t4]) R) (
 J2))
theorem A7q {X : Nat → Prop} {t0 t1 : Value} {R : Value → WP} {w : World} (h : A1F X t0 t1 R w) : Fn PR X 250 #[t0, t1] w R := C4 (args := [t0, t1]) mixed Tryz.func250 (by kernel_rfl) h
def A0j (X : Nat → Prop) (t0 t1 : Value) (R : Value → WP) : WP :=
 drw <|
 A0 PR (B5 t0) fun t6 =>
 A0 PR (Instr.fieldAt 104 t6 0) fun t7 =>
 A0 PR (Instr.fieldAt 91 t7 1) fun t8 =>
 A6 PR (Instr.loadAt 3 t8) fun t9 =>
 A0 PR (B5 t1) fun t11 =>
 A0 PR (Instr.fieldAt 74 t11 4) fun t12 =>
 A6 PR (Instr.loadAt 72 t12) fun t13 =>
 A0 PR (A8 .len #[72] 0 [t13]) fun t14 =>
 A0 PR (binOp .lss 3 t9 t14) fun t15 =>
 gj t15 true (fun J => J t1) fun t17 =>
 gj t15 true (fun J => J t0) fun t18 =>
 gj t15 true (fun J => A0 PR (B5 t18) J) fun t19 =>
 gj t15 true (fun J => A0 PR (Instr.fieldAt 104 t19 0) J) fun t20 =>
 gj t15 true (fun J => A0 PR (Instr.fieldAt 91 t20 1) J) fun t21 =>
 gj t15 true (fun J => A6 PR (Instr.loadAt 3 t21) J) fun t22 =>
 gj t15 true (fun J => B7 PR X 249 [t17, t22] J) fun t23 =>
 gj t15 true (fun J => A0 PR (Op.unary .not t23) J) fun t24 =>
 A0 PR (do pure (if ← asBool t15 then t24 else (.bool false))) fun t25 =>
 R t25
theorem A6j {X : Nat → Prop} {t0 t1 : Value} {R : Value → WP} {w : World} (h : A0j X t0 t1 R w) : Fn PR X 251 #[t0, t1] w R := C4 (args := [t0, t1]) mixed Tryz.func251 (by kernel_rfl) h
def A1w (X : Nat → Prop) (t0 t1 : Value) (R : Value → WP) : WP :=
 B4 PR X (Instr.alloc 49 true (.tuple #[])) fun t4 =>
 A0 PR (B5 t0) fun t6 =>
 A0 PR (Instr.fieldAt 106 t6 0) fun t7 =>
 B7 PR X 238 [t7, (.int .i64 1)] fun t8 =>
 B9 PR X (Instr.storeAt 49 t4 t8) <|
 A6 PR (D6 [.c 49 t4]) R
theorem A8d {X : Nat → Prop} {t0 t1 : Value} {R : Value → WP} {w : World} (h : A1w X t0 t1 R w) : Fn PR X 252 #[t0, t1] w R := C4 (args := [t0, t1]) mixed Tryz.func252 (by kernel_rfl) h
def A1T (X : Nat → Prop) (t0 t1 : Value) (R : Value → WP) : WP :=
 R (.bool false)
theorem A7L {X : Nat → Prop} {t0 t1 : Value} {R : Value → WP} {w : World} (h : A1T X t0 t1 R w) : Fn PR X 253 #[t0, t1] w R := C4 (args := [t0, t1]) mixed Tryz.func253 (by kernel_rfl) h
end Go.Proofs.YtpnidmkaobfhiaaGreat
namespace Go.Proofs.YtpnidmkaobfhiaaGreat
open Go
def A99 (X : Nat → Prop) (t0 : Value) (R : Value → WP) : WP :=
 B4 PR X (Instr.box 23 t0) fun t1 =>
 jn (n := 2) (fun t2 t3 =>
 A6 PR (Instr.loadAt 23 t1) fun t10 =>
 A0 PR (Instr.makeFunc (.func 33) #[] #[t1]) fun t11 =>
 A0 PR (Instr.makeFunc (.func 35) #[] #[t1]) fun t12 =>
 A0 PR (Instr.makeFunc (.func 38) #[] #[t1]) fun t13 =>
 B4 PR X (Instr.buildSlice 159 3 #[(0, t11), (1, t12), (2, t13)]) fun t14 =>
 B7 PR X 32 [t10, t14] fun t15 =>
 R (.tuple #[t15, (.int .i64 0)])) fun J1 =>
 A6 PR (Instr.loadAt 23 t1) fun t5 =>
 B7 PR X 31 [t5] fun t6 =>
 A0 PR (binOp .neq 31 t6 (.int .i64 0)) fun t8 =>
 C3 t8 (
 R (.tuple #[(.pointer none), t6])) (
 J1 (.pointer none) (.int .i64 0))
theorem A9D : A9 PR 9 := A7 Tryz.func9 (by kernel_rfl) rfl
theorem B8E {X : Nat → Prop} {t0 : Value} {R : Value → WP} {w : World} (h : A99 X t0 R w) : Fn PR X 9 #[t0] w R := C4 (args := [t0]) mixed Tryz.func9 (by kernel_rfl) h
def A9C (X : Nat → Prop) (t0 t1 : Value) (R : Value → WP) : WP :=
 B4 PR X (Instr.box 23 t0) fun t2 =>
 A6 PR (Instr.loadAt 23 t2) fun t8 =>
 A0 PR (Instr.build 74 #[(0, t8)]) fun t9 =>
 B4 PR X (Instr.box 74 t9) fun t10 =>
 jn (n := 1) (fun t13 =>
 R t10) fun J1 =>
 A0 PR (A8 .len #[159] 0 [t1]) fun t12 =>
 lp (n := 1) (fun L2 t13_1 =>
 A0 PR (binOp .lss 3 t13_1 t12) fun t14 =>
 jn (n := 0) (
 jn (n := 0) (
 A0 PR (binOp .add 3 t13_1 (.int .i64 1)) fun t20 =>
 L2 t20) fun J3 =>
 A0 PR (Instr.indexAt 159 t1 t13_1) fun t15 =>
 A6 PR (Instr.loadAt 87 t15) fun t16 =>
 M7 PR X t16 [t10] fun t19 =>
 J3) fun J4 =>
 C3 t14 (
 J4) (
 J1 t13_1)) (.int .i64 0)
theorem B4s : A9 PR 32 := A7 Tryz.func32 (by kernel_rfl) rfl
theorem B6N {X : Nat → Prop} {t0 t1 : Value} {R : Value → WP} {w : World} (h : A9C X t0 t1 R w) : Fn PR X 32 #[t0, t1] w R := C4 (args := [t0, t1]) mixed Tryz.func32 (by kernel_rfl) h
def A5q (X : Nat → Prop) (t0 t1 : Value) (R : Value → WP) : WP :=
 A0 PR (Instr.fieldAt 23 t1 0) fun t4 =>
 A6 PR (Instr.loadAt 3 t4) fun t5 =>
 A0 PR (binOp .add 3 (.int .i64 2) t5) fun t6 =>
 A0 PR (Instr.fieldAt 23 t1 1) fun t7 =>
 A6 PR (Instr.loadAt 3 t7) fun t8 =>
 B7 PR X 34 [t6, t8] fun t9 =>
 A0 PR (B5 t0) fun t10 =>
 A0 PR (Instr.fieldAt 74 t10 1) fun t11 =>
 B9 PR X (Instr.storeAt 69 t11 t9) <|
 R (.tuple #[])
theorem B2Y : A9 PR 33 := A7 Tryz.func33 (by kernel_rfl) rfl
theorem B35 {X : Nat → Prop} {t0 t1 : Value} {R : Value → WP} {w : World} (h : A5q X t0 t1 R w) : Fn PR X 33 #[t0, t1] w R := C4 (args := [t0, t1]) mixed Tryz.func33 (by kernel_rfl) h
def A6B (X : Nat → Prop) (t0 t1 : Value) (R : Value → WP) : WP :=
 drw <|
 A0 PR (Instr.fieldAt 23 t1 4) fun t5 =>
 A6 PR (Instr.loadAt 3 t5) fun t6 =>
 A0 PR (Instr.fieldAt 23 t1 4) fun t8 =>
 A6 PR (Instr.loadAt 3 t8) fun t9 =>
 B7 PR X 36 [t6] fun t7 =>
 watch PR [(none, (Instr.loadAt 3 t8), t9)] <|
 B7 PR X 37 [t9] fun t10 =>
 A0 PR (B5 t0) fun t11 =>
 A0 PR (Instr.fieldAt 74 t11 2) fun t12 =>
 B9 PR X (Instr.storeAt 70 t12 t7) <|
 A0 PR (B5 t0) fun t13 =>
 A0 PR (Instr.fieldAt 74 t13 3) fun t14 =>
 B9 PR X (Instr.storeAt 71 t14 t10) <|
 R (.tuple #[])
theorem B11 : A9 PR 35 := A7 Tryz.func35 (by kernel_rfl) rfl
theorem B3J {X : Nat → Prop} {t0 t1 : Value} {R : Value → WP} {w : World} (h : A6B X t0 t1 R w) : Fn PR X 35 #[t0, t1] w R := C4 (args := [t0, t1]) mixed Tryz.func35 (by kernel_rfl) h
def A51 (X : Nat → Prop) (t0 t1 : Value) (R : Value → WP) : WP :=
 A0 PR (Instr.fieldAt 23 t1 1) fun t3 =>
 A6 PR (Instr.loadAt 3 t3) fun t4 =>
 lp (n := 1) (fun L1 t5 =>
 A0 PR (binOp .lss 3 t5 t4) fun t6 =>
 jn (n := 0) (
 jn (n := 0) (
 A0 PR (binOp .add 3 t5 (.int .i64 1)) fun t28 =>
 L1 t28) fun J2 =>
 drw <|
 A0 PR (B5 t0) fun t9 =>
 A0 PR (Instr.fieldAt 74 t9 4) fun t10 =>
 A6 PR (Instr.loadAt 72 t10) fun t11 =>
 A0 PR (Instr.fieldAt 23 t1 2) fun t12 =>
 A6 PR (Instr.loadAt 3 t12) fun t13 =>
 B7 PR X 39 [t13] fun t14 =>
 watch PR [(none, (Instr.loadAt 72 t10), t11)] <|
 B4 PR X (Instr.buildSlice 72 1 #[(0, t14)]) fun t15 =>
 watch PR [(none, (Instr.loadAt 72 t10), t11)] <|
 B4 PR X (A8 .append #[72, 72] 72 [t11, t15]) fun t16 =>
 A0 PR (B5 t0) fun t17 =>
 A0 PR (Instr.fieldAt 74 t17 4) fun t18 =>
 B9 PR X (Instr.storeAt 72 t18 t16) <|
 A0 PR (B5 t0) fun t21 =>
 A0 PR (Instr.fieldAt 74 t21 5) fun t22 =>
 A6 PR (Instr.loadAt 54 t22) fun t23 =>
 B4 PR X (Instr.buildSlice 54 1 #[(0, (.int .i64 0))]) fun t24 =>
 B4 PR X (A8 .append #[54, 54] 54 [t23, t24]) fun t25 =>
 A0 PR (B5 t0) fun t26 =>
 A0 PR (Instr.fieldAt 74 t26 5) fun t27 =>
 B9 PR X (Instr.storeAt 54 t27 t25) <|
 J2) fun J3 =>
 C3 t6 (
 J3) (
 R (.tuple #[]))) (.int .i64 0)
theorem B2l : A9 PR 38 := A7 Tryz.func38 (by kernel_rfl) rfl
theorem B3p {X : Nat → Prop} {t0 t1 : Value} {R : Value → WP} {w : World} (h : A51 X t0 t1 R w) : Fn PR X 38 #[t0, t1] w R := C4 (args := [t0, t1]) mixed Tryz.func38 (by kernel_rfl) h
def A3Y (X : Nat → Prop) (t0 t1 : Value) (R : Value → WP) : WP :=
 jn (n := 1) (fun t4 =>
 A0 PR (binOp .add 3 (.int .i64 2) t1) fun t17 =>
 A0 PR (binOp .sub 3 t17 (.int .i64 1)) fun t18 =>
 R t18) fun J1 =>
 A0 PR (binOp .lss 3 t1 (.int .i64 1)) fun t6 =>
 gj t6 false (fun J => J t1) fun t8 =>
 gj t6 false (fun J => J t0) fun t9 =>
 gj t6 false (fun J => A0 PR (B5 t9) J) fun t10 =>
 gj t6 false (fun J => A0 PR (Instr.fieldAt 74 t10 0) J) fun t11 =>
 gj t6 false (fun J => A0 PR (Instr.fieldAt 23 t11 0) J) fun t12 =>
 gj t6 false (fun J => A6 PR (Instr.loadAt 3 t12) J) fun t13 =>
 gj t6 false (fun J => A0 PR (binOp .gtr 3 t8 t13) J) fun t14 =>
 A0 PR (do pure (if ← asBool t6 then (.bool true) else t14)) fun t15 =>
 C3 t15 (
 R (.int .i64 (-1))) (
 J1 (.int .i64 0))
theorem A2b : A9 PR 87 := A7 Tryz.func87 (by kernel_rfl) rfl
theorem B0j {X : Nat → Prop} {t0 t1 : Value} {R : Value → WP} {w : World} (h : A3Y X t0 t1 R w) : Fn PR X 87 #[t0, t1] w R := C4 (args := [t0, t1]) mixed Tryz.func87 (by kernel_rfl) h
end Go.Proofs.YtpnidmkaobfhiaaGreat
namespace Go.Proofs.YtpnidmkaobfhiaaGreat
open Go
def A2W (X : Nat → Prop) (t0 t1 : Value) (R : Value → WP) : WP :=
 jn (n := 1) (fun t4 =>
 R (.int .i64 0)) fun J1 =>
 A0 PR (B5 t0) fun t8 =>
 A0 PR (Instr.fieldAt 147 t8 1) fun t9 =>
 A6 PR (Instr.loadAt 54 t9) fun t10 =>
 B7 PR X 68 [t0, t10, t1] fun t12 =>
 A6 PR (H6 .neq 137 (.tmp 13) (.const (.pointer none)) t12 (.pointer none)) fun t14 =>
 C3 t14 (
 A0 PR (B5 t12) fun t16 =>
 A6 PR (Instr.loadAt 3 t16) fun t17 =>
 R t17) (
 J1 (.int .i64 0))
theorem Y5 : A9 PR 25 := A7 Tryz.func25 (by kernel_rfl) rfl
theorem A9f {X : Nat → Prop} {t0 t1 : Value} {R : Value → WP} {w : World} (h : A2W X t0 t1 R w) : Fn PR X 25 #[t0, t1] w R := C4 (args := [t0, t1]) mixed Tryz.func25 (by kernel_rfl) h
def A13 (X : Nat → Prop) (t0 t1 : Value) (R : Value → WP) : WP :=
 jn (n := 1) (fun t4 =>
 A0 PR (B5 t0) fun t17 =>
 A0 PR (Instr.fieldAt 147 t17 2) fun t18 =>
 A6 PR (Instr.loadAt 54 t18) fun t19 =>
 A0 PR (Instr.indexAt 54 t19 t1) fun t21 =>
 A6 PR (Instr.loadAt 3 t21) fun t22 =>
 R t22) fun J1 =>
 A0 PR (binOp .lss 3 t1 (.int .i64 0)) fun t6 =>
 gj t6 false (fun J => J t1) fun t8 =>
 gj t6 false (fun J => J t0) fun t9 =>
 gj t6 false (fun J => A0 PR (B5 t9) J) fun t10 =>
 gj t6 false (fun J => A0 PR (Instr.fieldAt 147 t10 2) J) fun t11 =>
 gj t6 false (fun J => A6 PR (Instr.loadAt 54 t11) J) fun t12 =>
 gj t6 false (fun J => A0 PR (A8 .len #[54] 0 [t12]) J) fun t13 =>
 gj t6 false (fun J => A0 PR (binOp .geq 3 t8 t13) J) fun t14 =>
 A0 PR (do pure (if ← asBool t6 then (.bool true) else t14)) fun t15 =>
 C3 t15 (
 R (.int .i64 (-1))) (
 J1 (.int .i64 0))
theorem A1E : A9 PR 29 := A7 Tryz.func29 (by kernel_rfl) rfl
theorem A7y {X : Nat → Prop} {t0 t1 : Value} {R : Value → WP} {w : World} (h : A13 X t0 t1 R w) : Fn PR X 29 #[t0, t1] w R := C4 (args := [t0, t1]) mixed Tryz.func29 (by kernel_rfl) h
def B0x (X : Nat → Prop) (t0 t1 : Value) (R : Value → WP) : WP :=
 drw <|
 kt (n := 1) (fun t5 =>
 jn (n := 1) (fun t20 =>
 R t5) fun J1 =>
 A0 PR (B5 t5) fun t16 =>
 A0 PR (Instr.fieldAt 147 t16 2) fun t17 =>
 A6 PR (Instr.loadAt 54 t17) fun t18 =>
 A0 PR (A8 .len #[54] 0 [t18]) fun t19 =>
 lp (n := 1) (fun L2 t20_1 =>
 A0 PR (binOp .lss 3 t20_1 t19) fun t21 =>
 jn (n := 0) (
 jn (n := 0) (
 A0 PR (binOp .add 3 t20_1 (.int .i64 1)) fun t29 =>
 L2 t29) fun J3 =>
 A0 PR (B5 t5) fun t24 =>
 A0 PR (Instr.fieldAt 147 t24 2) fun t25 =>
 A6 PR (Instr.loadAt 54 t25) fun t26 =>
 A0 PR (Instr.indexAt 54 t26 t20_1) fun t28 =>
 B9 PR X (Instr.storeAt 3 t28 (.int .i64 (-1))) <|
 J3) fun J4 =>
 C3 t21 (
 J4) (
 J1 t20_1)) (.int .i64 0)) fun C5 =>
 B7 PR X 74 [t0] fun t8_1 =>
 both (B4 PR X (Instr.makeSlice 54 t8_1 t8_1) fun t9_3 =>
 B7 PR X 74 [t1] fun t11_2 =>
 B4 PR X (Instr.makeSlice 54 t11_2 t11_2) fun t12_3 =>
 A0 PR (Instr.build 147 #[(1, t9_3), (2, t12_3)]) fun t13_3 =>
 B4 PR X (Instr.box 147 t13_3) fun t14_3 =>
 C5 t14_3) (both (B7 PR X 74 [t1] fun t11_1 =>
 both (B4 PR X (Instr.makeSlice 54 t8_1 t8_1) fun t9_2 =>
 B4 PR X (Instr.makeSlice 54 t11_1 t11_1) fun t12_2 =>
 A0 PR (Instr.build 147 #[(1, t9_2), (2, t12_2)]) fun t13_2 =>
 B4 PR X (Instr.box 147 t13_2) fun t14_2 =>
 C5 t14_2) (both (B4 PR X (Instr.makeSlice 54 t11_1 t11_1) fun t12_1 =>
 B4 PR X (Instr.makeSlice 54 t8_1 t8_1) fun t9_1 =>
 A0 PR (Instr.build 147 #[(1, t9_1), (2, t12_1)]) fun t13_1 =>
 B4 PR X (Instr.box 147 t13_1) fun t14_1 =>
 C5 t14_1) ((fun _ => True)))) ((fun _ => True)))
theorem B5q : A9 PR 34 := A7 Tryz.func34 (by kernel_rfl) rfl
theorem B62 {X : Nat → Prop} {t0 t1 : Value} {R : Value → WP} {w : World} (h : B0x X t0 t1 R w) : Fn PR X 34 #[t0, t1] w R := C4 (args := [t0, t1]) mixed Tryz.func34 (by kernel_rfl) h
def A3M (X : Nat → Prop) (t0 t1 t2 : Value) (R : Value → WP) : WP :=
 A0 PR (B5 t0) fun t10 =>
 A0 PR (Instr.fieldAt 147 t10 1) fun t11 =>
 A6 PR (Instr.loadAt 54 t11) fun t12 =>
 B7 PR X 68 [t0, t12, t1] fun t14 =>
 jn (n := 1) (fun t6 =>
 A0 PR (B5 t14) fun t18 =>
 A6 PR (Instr.loadAt 3 t18) fun t19 =>
 A0 PR (binOp .add 3 t19 t2) fun t21 =>
 A0 PR (B5 t14) fun t22 =>
 B9 PR X (Instr.storeAt 3 t22 t21) <|
 A0 PR (B5 t14) fun t24 =>
 A6 PR (Instr.loadAt 3 t24) fun t25 =>
 R t25) fun J1 =>
 A6 PR (H6 .eql 137 (.tmp 15) (.const (.pointer none)) t14 (.pointer none)) fun t16 =>
 C3 t16 (
 R (.int .i64 0)) (
 J1 (.int .i64 0))
theorem A2Y : A9 PR 43 := A7 Tryz.func43 (by kernel_rfl) rfl
theorem A9m {X : Nat → Prop} {t0 t1 t2 : Value} {R : Value → WP} {w : World} (h : A3M X t0 t1 t2 R w) : Fn PR X 43 #[t0, t1, t2] w R := C4 (args := [t0, t1, t2]) mixed Tryz.func43 (by kernel_rfl) h
def A2M (X : Nat → Prop) (t0 t1 t2 : Value) (R : Value → WP) : WP :=
 A0 PR (B5 t0) fun t10 =>
 A0 PR (Instr.fieldAt 147 t10 2) fun t11 =>
 A6 PR (Instr.loadAt 54 t11) fun t12 =>
 B7 PR X 68 [t0, t12, t1] fun t14 =>
 A0 PR (binOp .geq 3 t2 (.int .i64 0)) fun t16 =>
 gj t16 true (fun J => J t14) fun t18 =>
 gj t16 true (fun J => J t2) fun t19 =>
 gj t16 true (fun J => B7 PR X 75 [t18, (.int .i64 (-1)), t19] J) fun t20 =>
 A0 PR (do pure (if ← asBool t16 then t20 else (.bool false))) fun t21 =>
 R t21
theorem A2G : A9 PR 44 := A7 Tryz.func44 (by kernel_rfl) rfl
theorem A9k {X : Nat → Prop} {t0 t1 t2 : Value} {R : Value → WP} {w : World} (h : A2M X t0 t1 t2 R w) : Fn PR X 44 #[t0, t1, t2] w R := C4 (args := [t0, t1, t2]) mixed Tryz.func44 (by kernel_rfl) h
def A1L (X : Nat → Prop) (t0 t1 t2 : Value) (R : Value → WP) : WP :=
 A0 PR (B5 t0) fun t10 =>
 A0 PR (Instr.fieldAt 147 t10 2) fun t11 =>
 A6 PR (Instr.loadAt 54 t11) fun t12 =>
 B7 PR X 68 [t0, t12, t1] fun t14 =>
 A0 PR (binOp .geq 3 t2 (.int .i64 0)) fun t16 =>
 gj t16 true (fun J => J t14) fun t18 =>
 gj t16 true (fun J => J t2) fun t19 =>
 gj t16 true (fun J => B7 PR X 75 [t18, t19, (.int .i64 (-1))] J) fun t20 =>
 A0 PR (do pure (if ← asBool t16 then t20 else (.bool false))) fun t21 =>
 R t21
theorem j3 : A9 PR 45 := A7 Tryz.func45 (by kernel_rfl) rfl
theorem A7H {X : Nat → Prop} {t0 t1 t2 : Value} {R : Value → WP} {w : World} (h : A1L X t0 t1 t2 R w) : Fn PR X 45 #[t0, t1, t2] w R := C4 (args := [t0, t1, t2]) mixed Tryz.func45 (by kernel_rfl) h
def A2D (X : Nat → Prop) (t0 t1 t2 : Value) (R : Value → WP) : WP :=
 A0 PR (B5 t0) fun t9 =>
 A0 PR (Instr.fieldAt 147 t9 1) fun t10 =>
 A6 PR (Instr.loadAt 54 t10) fun t11 =>
 B7 PR X 68 [t0, t11, t1] fun t13 =>
 A6 PR (H6 .neq 137 (.tmp 14) (.const (.pointer none)) t13 (.pointer none)) fun t15 =>
 C3 t15 (
 A0 PR (B5 t13) fun t18 =>
 B9 PR X (Instr.storeAt 3 t18 t2) <|
 R (.tuple #[])) (
 R (.tuple #[]))
theorem A7C : A9 PR 52 := A7 Tryz.func52 (by kernel_rfl) rfl
theorem A8D {X : Nat → Prop} {t0 t1 t2 : Value} {R : Value → WP} {w : World} (h : A2D X t0 t1 t2 R w) : Fn PR X 52 #[t0, t1, t2] w R := C4 (args := [t0, t1, t2]) mixed Tryz.func52 (by kernel_rfl) h
def A2U (X : Nat → Prop) (t0 t1 t2 : Value) (R : Value → WP) : WP :=
 jn (n := 1) (fun t6 =>
 A0 PR (B5 t0) fun t16 =>
 A0 PR (Instr.fieldAt 147 t16 0) fun t17 =>
 B7 PR X 97 [t17] fun t18 =>
 A0 PR (Instr.indexAt 54 t1 t2) fun t21 =>
 R t21) fun J1 =>
 A0 PR (binOp .lss 3 t2 (.int .i64 0)) fun t8 =>
 gj t8 false (fun J => J t2) fun t10 =>
 gj t8 false (fun J => J t1) fun t11 =>
 gj t8 false (fun J => A0 PR (A8 .len #[54] 0 [t11]) J) fun t12 =>
 gj t8 false (fun J => A0 PR (binOp .geq 3 t10 t12) J) fun t13 =>
 A0 PR (do pure (if ← asBool t8 then (.bool true) else t13)) fun t14 =>
 C3 t14 (
 R (.pointer none)) (
 J1 (.pointer none))
theorem T8 : A9 PR 68 := A7 Tryz.func68 (by kernel_rfl) rfl
theorem A9j {X : Nat → Prop} {t0 t1 t2 : Value} {R : Value → WP} {w : World} (h : A2U X t0 t1 t2 R w) : Fn PR X 68 #[t0, t1, t2] w R := C4 (args := [t0, t1, t2]) mixed Tryz.func68 (by kernel_rfl) h
def A57 (X : Nat → Prop) (t0 : Value) (R : Value → WP) : WP :=
 A0 PR (A8 .max #[3, 3] 0 [t0, (.int .i64 0)]) fun t4 =>
 A0 PR (A8 .min #[3, 3] 0 [t4, (.int .i64 1024)]) fun t5 =>
 R t5
theorem A05 : A9 PR 74 := A7 Tryz.func74 (by kernel_rfl) rfl
theorem B3N {X : Nat → Prop} {t0 : Value} {R : Value → WP} {w : World} (h : A57 X t0 R w) : Fn PR X 74 #[t0] w R := C4 (args := [t0]) mixed Tryz.func74 (by kernel_rfl) h
def A88 (X : Nat → Prop) (t0 t1 t2 : Value) (R : Value → WP) : WP :=
 jn (n := 1) (fun t6 =>
 A0 PR (B5 t0) fun t18 =>
 B9 PR X (Instr.storeAt 3 t18 t2) <|
 R (.bool true)) fun J1 =>
 A6 PR (H6 .eql 137 (.tmp 7) (.const (.pointer none)) t0 (.pointer none)) fun t8 =>
 gj t8 false (fun J => J t0) fun t10 =>
 gj t8 false (fun J => A0 PR (B5 t10) J) fun t11 =>
 gj t8 false (fun J => A6 PR (Instr.loadAt 3 t11) J) fun t12 =>
 gj t8 false (fun J => J t1) fun t13 =>
 gj t8 false (fun J => A0 PR (binOp .neq 3 t12 t13) J) fun t14 =>
 A0 PR (do pure (if ← asBool t8 then (.bool true) else t14)) fun t15 =>
 C3 t15 (
 R (.bool false)) (
 J1 (.bool false))
theorem A7K : A9 PR 75 := A7 Tryz.func75 (by kernel_rfl) rfl
theorem B6B {X : Nat → Prop} {t0 t1 t2 : Value} {R : Value → WP} {w : World} (h : A88 X t0 t1 t2 R w) : Fn PR X 75 #[t0, t1, t2] w R := C4 (args := [t0, t1, t2]) mixed Tryz.func75 (by kernel_rfl) h
def A0l (X : Nat → Prop) (t0 : Value) (R : Value → WP) : WP :=
 A0 PR (B5 t0) fun t3 =>
 A0 PR (Instr.fieldAt 145 t3 0) fun t4 =>
 B7 PR X 124 [t4, (.int .i64 1)] fun t5 =>
 R (.tuple #[])
theorem A48 : A9 PR 97 := A7 Tryz.func97 (by kernel_rfl) rfl
theorem A6f {X : Nat → Prop} {t0 : Value} {R : Value → WP} {w : World} (h : A0l X t0 R w) : Fn PR X 97 #[t0] w R := C4 (args := [t0]) mixed Tryz.func97 (by kernel_rfl) h
end Go.Proofs.YtpnidmkaobfhiaaGreat
