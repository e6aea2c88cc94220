/- The proof of a given statement, a part of it (Args Join ShR17 Few ArgsC ArgsQ ShL19WorkerAlone ShL19 ShWorker ShSweep ShFlows Flows Flows2 Sweep Wat ShModel). No condition but what each lemma says. -/
import Derived.WalkKit
import Derived.ProofKit
import Derived.OpenShut
import Derived.Carry
import Derived.Deep.Slices
import Derived.Test.YtjobgnabneddjaaGreatRows
import Derived.Test.YtjobgnabneddjaaGreatN12
set_option linter.unusedVariables false
set_option linter.unusedSimpArgs false
namespace Go.Proofs.YtjobgnabneddjaaGreat
open Go Go.ChangeShapes Go.WideShapes Go.ChangeAt Go.RowKit
theorem C71 {w w' : World} (h : D2 [] w w') (hk : Sk C0 w w') (may : MemPlace → Prop) : w.keptBut w' may := by
 refine ⟨hk.2.2.2.1, hk.2.2.2.2, fun i hi => ?_⟩
 have h1 : w.heap[i]? = some w.heap[i] := Array.getElem?_eq_getElem hi
 have h2 : w'.heap[i]? = some w.heap[i] := h.2 i _ (by simp) h1
 rw [h1, h2]
 cases w.heap[i] <;> simp
theorem C3U {f : FuncId} {args : Array Value} {w : World} (h : Fn PR C0 f args w (fun v w' => v = .bool true ∧ D2 [] w w')) :
  Calls PR f args w fun e w' => e = .returned (.bool true) ∧ (∀ may, w.keptBut w' may) ∧ D2 [] w w' :=
 Calls.mono h fun _ w' ⟨v, he, ⟨hv, hb⟩, hs⟩ => ⟨by rw [he, hv], C71 hb hs, hb⟩
theorem own : ownKnob PR.godebug = none := by kernel_rfl
theorem C8W : laidOutB PR = true := by kernel_rfl
theorem C1Y {H : Type} {enc : TypeId × Value → H} {P : Program} {f : Func} {s : ChangeSpec} {apart fresh handsOn : Bool} {W W' : World} {args : Array Value} {v : Value} {ds gs : List (DataW H)} {before pa pv : List MemPlace}
  (hW : DataW.Whole enc P f.params.toList s.vars apart W args.toList ds gs before)
  (hres : ∀ (b : Nat) (sp : Nat → Bool) (hd : Bool), DataW.TrodAll enc P W' b sp hd f.resultTypes.toList (v.resultList f.resultTypes.size) (s.fn H (ds ++ gs)).results [])
  (hargs : ∀ sp : Nat → Bool, (∀ p ∈ before, sp p.block = true) → DataW.TrodAll enc P W' 0 sp true f.params.toList args.toList (s.fn H (ds ++ gs)).args pa)
  (hvars : ∀ sp : Nat → Bool, (∀ p ∈ before, sp p.block = true) → DataW.TrodVars enc P W' sp s.vars (s.fn H (ds ++ gs)).vars pv)
  (hk : ∀ may, W.keptBut W' may) : s.post enc P f apart fresh handsOn false W args v W' := by
 have hold : ∀ p ∈ before, (fun b => decide (b < W.heap.size)) p.block = true := fun p hp => by simpa using hW.lt p hp
 exact ⟨ds, gs, before, [], pa, pv, hW, hres _ _ _, hargs _ hold, hvars _ hold, hk _, fun h => by cases h⟩
theorem B8J {v x : Value} (h : v.cells.toList = [x]) (hv : plain v = true) : v = x := by
 cases v <;> first | (simp [Value.cells] at h; exact h) | (simp [plain] at hv)
section
variable {H : Type} {enc : TypeId × Value → H} {P : Program} {w : World} {base : Nat} {spare : Nat → Bool} {held : Bool}
theorem B96 {α : Type} {f : α → List Value} {k : Nat} (hk : ∀ x, (f x).length = k) (hkp : 0 < k) {Q : α → Prop} {t e : TypeId} {fuel : Nat} {cs : List Value} {x : DataW H × List MemPlace}
  (ht : P.underlying t = some (.slice e)) (hc : P.cellsOf e = k) (h : DataW.trod enc P w base spare held fuel t cs = some x)
  (he : ∀ n cs' y, DataW.trod enc P w base spare held n e cs' = some y → ∃ a, cs' = f a ∧ Q a) :
  ∃ (v : Value) (l : List α), cs = [v] ∧ F9 w v l.length (l.flatMap f) ∧ (∀ a ∈ l, Q a) ∧ l.length ≤ maxLen := by
 rcases Go.Deep.open_slice ht h with ⟨rfl, _⟩ | ⟨a, len, cap, m, n, D, Pl, rfl, hb, hl, hm, hmm, _, hx⟩
 ·exact ⟨_, [], rfl, Or.inl ⟨rfl, rfl, none, 0, rfl⟩, by simp, by simp⟩
 have hlm : len ≤ m := by rw [hmm]; split <;> omega
 have hch : ∀ i : Fin len, ∃ a' : α, Q a' ∧ w.cells? base (a.add (i.1 * k)) k = some (f a') := by
  intro i
  obtain ⟨cs', h1, h2⟩ := hx i.1 (by omega)
  obtain ⟨a', rfl, hq⟩ := he _ _ _ h2
  rw [hc] at h1
  exact ⟨a', hq, h1⟩
 let g : Fin len → α := fun i => Classical.choose (hch i)
 have hg : ∀ i, Q (g i) ∧ w.cells? base (a.add (i.1 * k)) k = some (f (g i)) := fun i => Classical.choose_spec (hch i)
 refine ⟨_, List.ofFn g, rfl, ?_, ?_, by simp; omega⟩
 ·by_cases h0 : len = 0
  ·subst h0; exact Or.inl ⟨by simp, by simp, _, _, rfl⟩
  obtain ⟨b, o, spot⟩ := a
  have h1 := (World.cells?_some (hg ⟨0, by omega⟩).2).2.2 0 hkp
  have hfl := hk (g ⟨0, by omega⟩)
  rw [List.getElem?_eq_getElem (by omega)] at h1
  have hspot : spot = none := by simpa [Addr.add] using World.cell?_spot h1
  subst hspot
  refine Or.inr ⟨b, o, cap, by simp, fun i hi => ?_⟩
  rw [L4 hk] at hi
  simp only [List.length_ofFn] at hi
  have hd : i / k * k + i % k = i := by rw [Nat.mul_comm]; exact Nat.div_add_mod i k
  have hj : i % k < k := Nat.mod_lt _ hkp
  have hi' : i / k < len := by rw [Nat.div_lt_iff_lt_mul hkp]; exact hi
  have h2 := (World.cells?_some (hg ⟨i / k, hi'⟩).2).2.2 (i % k) hj
  rw [← hd, P6 hk _ _ _ hj, List.getElem?_ofFn, dif_pos hi']
  simp only [Option.bind_some]
  rw [← h2, f7, f7]
  simp only [Nat.add_assoc]
 ·intro a' ha'
  rw [List.mem_ofFn] at ha'
  obtain ⟨i, rfl⟩ := ha'
  exact (hg i).1
theorem x6 {t : TypeId} {k : IntKind} {fuel : Nat} {cs : List Value} {x : DataW H × List MemPlace} (ht : P.underlying t = some (.int k)) (h : DataW.trod enc P w base spare held fuel t cs = some x) :
  ∃ a : Int, cs = [.int k a] ∧ (Lit.int k a).wf = true := by
 obtain ⟨n, h1, _, h2⟩ := DataW.trod_int ht h
 exact ⟨n, h1, h2⟩
theorem C2K {t : TypeId} {fuel : Nat} {cs : List Value} {x : DataW H × List MemPlace} (ht : P.underlying t = some .string) (h : DataW.trod enc P w base spare held fuel t cs = some x) :
  ∃ s : ByteArray, cs = [.string s] ∧ s.size ≤ maxLen := by
 obtain ⟨s, h1, _, h2⟩ := DataW.trod_string ht h
 exact ⟨s, h1, h2⟩
theorem B3y {α : Type} {f : α → List Value} {t e : TypeId} {Q : List α → Prop} {r : Reach} {b0 : Nat} {v : Value} {d : DataW H} {ps : List MemPlace} (ht : P.underlying t = some (.slice e)) (hval : Value.okWide P w r b0 t v) (hd : DataW.Trod enc P w base spare held t v d ps)
  (h : ∀ fuel cs x, DataW.trod enc P w base spare held fuel t cs = some x → ∃ (v : Value) (l : List α), cs = [v] ∧ F9 w v l.length (l.flatMap f) ∧ Q l) : ∃ l : List α, F9 w v l.length (l.flatMap f) ∧ Q l := by
 obtain ⟨a, len, cap, rfl⟩ := okWide_slice ht hval
 obtain ⟨fuel, hf⟩ := hd
 obtain ⟨v', l, h1, h2⟩ := h _ _ _ hf
 have : Value.slice a len cap = v' := B8J h1 rfl
 subst this
 exact ⟨l, h2⟩
end
theorem B6S {H : Type} {enc : TypeId × Value → H} {P : Program} (hl : laidOutB P = true) {W W' : World} (hb : D2 [] W W') {sp : Nat → Bool} :
  ∀ {ts : List TypeId} {vs : List Value} {ds : List (DataW H)} {ps : List MemPlace}, (ts.all fun t => P.readableRec t && decide (t < P.types.size)) = true → DataW.TrodAll enc P W 0 (fun _ => true) true ts vs ds ps →
   (∀ p ∈ ps, p.block < W.heap.size) → (∀ p ∈ ps, sp p.block = true) → DataW.TrodAll enc P W' 0 sp true ts vs ds ps := by
 intro ts
 induction ts with
 | nil => intro vs ds ps _ h _ _; cases vs <;> cases ds <;> exact h
 | cons t ts ih =>
  intro vs ds ps ht h hlt hsp
  simp only [List.all_cons, Bool.and_eq_true, decide_eq_true_eq] at ht
  obtain ⟨v, vs', d, ds', p, q, rfl, rfl, rfl, h0, hr⟩ := trodAll_cons h
  refine ⟨p, q, WideElems.Trod_stays hl ht.1.1 ht.1.2 h0 (fun x hx => ?_) (fun x hx => hsp x (List.mem_append_left _ hx)),
   ih ht.2 hr (fun x hx => hlt x (List.mem_append_right _ hx)) (fun x hx => hsp x (List.mem_append_right _ hx)), rfl⟩
  have hlt' := hlt x (List.mem_append_left _ hx)
  have e1 : W.heap[x.block]? = some W.heap[x.block] := Array.getElem?_eq_getElem hlt'
  have e2 : W'.heap[x.block]? = some W.heap[x.block] := hb.2 _ _ (by simp) e1
  cases x with
  | cell b o => show W'.cell? _ = W.cell? _; unfold World.cell?; rw [show W'.heap[b]? = W.heap[b]? from e2.trans e1.symm]
  | map b => exact e2.trans e1.symm
set_option maxRecDepth 10000
section
variable {H : Type} {enc : TypeId × Value → H} {w : World} {base : Nat} {spare : Nat → Bool} {held : Bool} {fuel : Nat} {cs : List Value} {x : DataW H × List MemPlace}
theorem C68 (h : DataW.trod enc PR w base spare held fuel 155 cs = some x) : ∃ a : E9, cs = H3 a ∧ True := by
 obtain ⟨xs, n, _, rfl, hl, hxl, hf⟩ := DataW.trod_struct B1r.und h
 have hl4 : cs.length = 2 := hl.trans (by kernel_rfl)
 have hx4 : xs.length = 2 := hxl.trans (by kernel_rfl)
 match cs, hl4 with
 | [c0, c1], _ =>
  have f0 := hf 0 _ rfl
  have f1 := hf 1 _ rfl
  rw [List.getElem?_eq_getElem (by omega)] at f0 f1
  obtain ⟨a0, e0, _⟩ := x6 Tryz.underlying3 f0
  obtain ⟨a1, e1, _⟩ := x6 Tryz.underlying3 f1
  have e0 : [c0] = [.int .i64 a0] := e0
  have e1 : [c1] = [.int .i64 a1] := e1
  cases e0; cases e1
  exact ⟨(a0, a1), rfl, trivial⟩
theorem C5Y (h : DataW.trod enc PR w base spare held fuel 58 cs = some x) : ∃ (v : Value) (l : List E9), cs = [v] ∧ F9 w v l.length (l.flatMap H3) ∧ l.length ≤ maxLen := by
 obtain ⟨v, l, h1, h2, _, h3⟩ := B96 (f := H3) (k := 2) (Q := fun _ => True) (fun _ => rfl) (by omega) Tryz.underlying58 (by kernel_rfl) h (fun n cs' y hy => C68 hy)
 exact ⟨v, l, h1, h2, h3⟩
theorem B8x {r : Reach} {b0 : Nat} {v : Value} {d : DataW H} {ps : List MemPlace} (hval : Value.okWide PR w r b0 58 v) (hd : DataW.Trod enc PR w base spare held 58 v d ps) : ∃ l : List E9, F9 w v l.length (l.flatMap H3) ∧ l.length ≤ maxLen :=
 B3y Tryz.underlying58 hval hd fun _ _ _ h => C5Y h
end
end Go.Proofs.YtjobgnabneddjaaGreat
namespace Go.Proofs.YtjobgnabneddjaaGreat
open Go
set_option maxRecDepth 100000
theorem jf2 : mapsRowed Tryz.prog = true := by kernel_rfl
theorem jf6 : (Program.stops Tryz.prog == []) = true := by kernel_rfl
theorem jf8 : (Program.stopKnobs Tryz.prog == []) = true := by kernel_rfl
theorem D5K : Program.stopsHeard Tryz.prog = true := by kernel_rfl
theorem D49 : Program.mayEnter Tryz.prog = true := by kernel_rfl
end Go.Proofs.YtjobgnabneddjaaGreat
namespace Go.Proofs.YtjobgnabneddjaaGreat
open Go
def A0K (X : Nat → Prop) (t0 : Value) (R : Value → WP) : WP :=
 B3 PR X (Instr.box 23 t0) fun t1 =>
 A0 PR (Instr.fieldAt 23 t1 0) fun t3 =>
 A6 PR (Instr.loadAt 3 t3) fun t4 =>
 A0 PR (binOp .leq 3 t4 (.int .i64 6)) fun t5 =>
 gj t5 true (fun J => A0 PR (Instr.fieldAt 23 t1 1) J) fun t7 =>
 gj t5 true (fun J => A6 PR (Instr.loadAt 3 t7) J) fun t8 =>
 gj t5 true (fun J => A0 PR (binOp .leq 3 t8 (.int .i64 6)) J) fun t9 =>
 A0 PR (do pure (if ← asBool t5 then t9 else (.bool false))) fun t10 =>
 gj t10 true (fun J => A0 PR (Instr.fieldAt 23 t1 2) J) fun t12 =>
 gj t10 true (fun J => A6 PR (Instr.loadAt 3 t12) J) fun t13 =>
 gj t10 true (fun J => A0 PR (binOp .leq 3 t13 (.int .i64 12)) J) fun t14 =>
 A0 PR (do pure (if ← asBool t10 then t14 else (.bool false))) fun t15 =>
 R t15
theorem A4l : A9 PR 15 := A7 Tryz.func15 (by kernel_rfl) rfl
theorem A5U {X : Nat → Prop} {t0 : Value} {R : Value → WP} {w : World} (h : A0K X t0 R w) : Fn PR X 15 #[t0] w R := C8 (args := [t0]) mixed Tryz.func15 (by kernel_rfl) h
end Go.Proofs.YtjobgnabneddjaaGreat
namespace Go.Proofs.YtjobgnabneddjaaGreat
open Go
def A7n (c : CfgV) : Bool := decide (c.wk ≤ 6) && decide (c.sh ≤ 6) && decide (c.cp ≤ 12)
theorem C40 (w : World) (c : CfgV) : Fn PR C0 15 #[c.val] w (fun r w' => r = .bool (A7n c) ∧ D2 [] w w') := by
 refine Fn.pure (A5U (TW.go (κ := false) (S := []) ?_))
 unfold A0K
 simp only [CfgV.val]
 by_cases c1 : c.wk ≤ 6
 ·by_cases c2 : c.sh ≤ 6
  ·(have zz:=trivial;repeat((first|clear zz|with_reducible first|refine A3 ?_|refine A5 fun _=>?_|refine A4 fun _=>?_);try simp(disch:=first|omega|assumption|((repeat(first|exact A1|exact uH|apply A2|apply uT));first|done|fail)|(simp;first|done|omega|fail))[c1, c2]))
   exact B0 (by simp [A7n, c1, c2])
  ·(have zz:=trivial;repeat((first|clear zz|with_reducible first|refine A3 ?_|refine A5 fun _=>?_|refine A4 fun _=>?_);try simp(disch:=first|omega|assumption|((repeat(first|exact A1|exact uH|apply A2|apply uT));first|done|fail)|(simp;first|done|omega|fail))[c1, c2]))
   exact B0 (by simp [A7n, c1, c2])
 ·(have zz:=trivial;repeat((first|clear zz|with_reducible first|refine A3 ?_|refine A5 fun _=>?_|refine A4 fun _=>?_);try simp(disch:=first|omega|assumption|((repeat(first|exact A1|exact uH|apply A2|apply uT));first|done|fail)|(simp;first|done|omega|fail))[c1]))
  exact B0 (by simp [A7n, c1])
end Go.Proofs.YtjobgnabneddjaaGreat
namespace Go.Proofs.YtjobgnabneddjaaGreat
open Go Go.ChangeShapes Go.WideShapes Go.ChangeAt Go.RowKit
set_option maxRecDepth 10000
section
variable {H : Type} {enc : TypeId × Value → H} {w : World} {base : Nat} {spare : Nat → Bool} {held : Bool} {fuel : Nat} {cs : List Value} {x : DataW H × List MemPlace}
theorem C5D (h : DataW.trod enc PR w base spare held fuel 23 cs = some x) : ∃ c : CfgV, cs = [.int .i64 c.wk, .int .i64 c.sh, .int .i64 c.cp, .int .i64 c.idle, .int .i64 c.sl] ∧ True := by
 obtain ⟨xs, n, _, rfl, hl, hxl, hf⟩ := DataW.trod_struct A3r.und h
 have hl4 : cs.length = 5 := hl.trans (by kernel_rfl)
 have hx4 : xs.length = 5 := hxl.trans (by kernel_rfl)
 match cs, hl4 with
 | [c0, c1, c2, c3, c4], _ =>
  have f0 := hf 0 _ rfl
  have f1 := hf 1 _ rfl
  have f2 := hf 2 _ rfl
  have f3 := hf 3 _ rfl
  have f4 := hf 4 _ rfl
  rw [List.getElem?_eq_getElem (by omega)] at f0 f1 f2 f3 f4
  obtain ⟨a0, e0, _⟩ := x6 Tryz.underlying3 f0
  obtain ⟨a1, e1, _⟩ := x6 Tryz.underlying3 f1
  obtain ⟨a2, e2, _⟩ := x6 Tryz.underlying3 f2
  obtain ⟨a3, e3, _⟩ := x6 Tryz.underlying3 f3
  obtain ⟨a4, e4, _⟩ := x6 Tryz.underlying3 f4
  have e0 : [c0] = [.int .i64 a0] := e0
  have e1 : [c1] = [.int .i64 a1] := e1
  have e2 : [c2] = [.int .i64 a2] := e2
  have e3 : [c3] = [.int .i64 a3] := e3
  have e4 : [c4] = [.int .i64 a4] := e4
  cases e0; cases e1; cases e2; cases e3; cases e4
  exact ⟨⟨a0, a1, a2, a3, a4⟩, rfl, trivial⟩
theorem C9g {v : Value} {cs : Array Value} {l : List Value} (hv : v = .agg cs) (h : v.cells.toList = l) : v = .agg l.toArray := by
 subst hv
 have : cs.toList = l := h
 rw [← this]
theorem B7p {r : Reach} {b0 : Nat} {v : Value} {d : DataW H} {ps : List MemPlace} (hval : Value.okWide PR w r b0 23 v) (hd : DataW.Trod enc PR w base spare held 23 v d ps) : ∃ c : CfgV, v = c.val := by
 obtain ⟨cs, e, _⟩ := okWide_struct A3r.und hval
 obtain ⟨fuel, hf⟩ := hd
 obtain ⟨c, h, _⟩ := C5D hf
 exact ⟨c, C9g e h⟩
end
end Go.Proofs.YtjobgnabneddjaaGreat
namespace Go.Proofs.YtjobgnabneddjaaGreat
open Go Go.ChangeShapes Go.WideShapes Go.ChangeAt Go.RowKit
set_option maxRecDepth 10000
theorem B50 {α β : Type} (g : α → β) : ∀ l : List α, l.flatMap (fun a => [g a]) = l.map g
 | [] => rfl
 | a :: l => by rw [List.flatMap_cons, List.map_cons, B50 g l]; rfl
section
variable {H : Type} {enc : TypeId × Value → H} {w : World} {base : Nat} {spare : Nat → Bool} {held : Bool} {fuel : Nat} {cs : List Value} {x : DataW H × List MemPlace}
theorem B4x {r : Reach} {b0 : Nat} {v : Value} {d : DataW H} {ps : List MemPlace} (hval : Value.okWide PR w r b0 51 v) (hd : DataW.Trod enc PR w base spare held 51 v d ps) : ∃ l : List ByteArray, F9 w v l.length (l.map Value.string) ∧ (∀ a ∈ l, a.size ≤ maxLen) ∧ l.length ≤ maxLen := by
 obtain ⟨l, h1, h2⟩ := B3y (f := fun a : ByteArray => [Value.string a]) (Q := fun l => (∀ a ∈ l, a.size ≤ maxLen) ∧ l.length ≤ maxLen) Tryz.underlying51 hval hd fun _ _ _ h =>
  B96 (f := fun a : ByteArray => [Value.string a]) (k := 1) (Q := fun a => a.size ≤ maxLen) (fun _ => rfl) (by omega) Tryz.underlying51 (by kernel_rfl) h (fun n cs' y hy => by
   obtain ⟨a, e, h⟩ := C2K Tryz.underlying9 hy
   exact ⟨a, e, h⟩)
 rw [B50] at h1
 exact ⟨l, h1, h2⟩
end
end Go.Proofs.YtjobgnabneddjaaGreat
namespace Go.Proofs.YtjobgnabneddjaaGreat
open Go
def l0 (X : Nat → Prop) (t0 t1 t2 t3 t4 : Value) (R : Value → WP) : WP :=
 B3 PR X (Instr.box 23 t0) fun t5 =>
 B5 PR X 14 [] fun t26 =>
 jn (n := 1) (fun t10 =>
 A6 PR (Instr.loadAt 23 t5) fun t29 =>
 B5 PR X 15 [t29] fun t30 =>
 jn (n := 1) (fun t10_1 =>
 A6 PR (Instr.loadAt 23 t5) fun t68 =>
 B5 PR X 16 [t68] fun t69 =>
 A0 PR (Instr.extract t69 0) fun t70 =>
 A0 PR (Instr.extract t69 1) fun t71 =>
 A6 PR (Instr.loadAt 23 t5) fun t73 =>
 B5 PR X 59 [t73] fun t74 =>
 A0 PR (Instr.extract t74 0) fun t75 =>
 A0 PR (Instr.extract t74 1) fun t76 =>
 jn (n := 1) (fun t10_2 =>
 jn (n := 1) (fun t10_3 =>
 A6 PR (Instr.loadAt 23 t5) fun t96 =>
 B5 PR X 42 [t96] fun t97 =>
 A0 PR (Instr.build 79 #[(0, (.int .i64 4)), (2, t3)]) fun t101 =>
 B5 PR X 44 [t70, t97, t101] fun t102 =>
 A0 PR (Instr.build 79 #[(0, (.int .i64 6))]) fun t105 =>
 B5 PR X 44 [t70, t97, t105] fun t106 =>
 A0 PR (Instr.build 79 #[(0, (.int .i64 7)), (1, t4)]) fun t110 =>
 B5 PR X 44 [t70, t97, t110] fun t111 =>
 A0 PR (Instr.build 64 #[(0, (.int .i64 1)), (2, t3)]) fun t114 =>
 B5 PR X 60 [t75, t114, (.int .i64 0)] fun t115 =>
 jn (n := 2) (fun t10_4 t18 =>
 jn (n := 2) (fun t10_5 t24 =>
 R t26) fun J1 =>
 lp (n := 2) (fun L2 t10_6 t24_1 =>
 jn (n := 0) (
 jn (n := 1) (fun t10_7 =>
 A0 PR (binOp .add 3 t24_1 (.int .i64 1)) fun t195 =>
 L2 t10_7 t195) fun J3 =>
 drw <|
 A0 PR (B8 t70) fun t197 =>
 A0 PR (Instr.fieldAt 39 t197 4) fun t198 =>
 A6 PR (Instr.loadAt 36 t198) fun t199 =>
 A0 PR (Instr.indexAt 36 t199 t24_1) fun t201 =>
 A6 PR (Instr.loadAt 84 t201) fun t202 =>
 B5 PR X 62 [t75, t24_1] fun t205 =>
 watch PR [(none, (Instr.loadAt 84 t201), t202), (none, (Instr.loadAt 36 t198), t199)] <|
 B5 PR X 61 [t202, t205] fun t206 =>
 A0 PR (Op.unary .not t206) fun t208 =>
 gj t208 false (fun J => J t70) fun t210 =>
 gj t208 false (fun J => A0 PR (B8 t210) J) fun t211 =>
 gj t208 false (fun J => A0 PR (Instr.fieldAt 39 t211 1) J) fun t212 =>
 gj t208 false (fun J => A6 PR (Instr.loadAt 33 t212) J) fun t213 =>
 gj t208 false (fun J => J t24_1) fun t214 =>
 gj t208 false (fun J => B5 PR X 37 [t213, t214] J) fun t215 =>
 gj t208 false (fun J => A0 PR (binOp .neq 3 t215 (.int .i64 (-1))) J) fun t216 =>
 A0 PR (do pure (if ← asBool t208 then (.bool true) else t216)) fun t217 =>
 C6 t217 (
 R (.bool false)) (
 J3 t10_6)) fun J4 =>
 A0 PR (Instr.fieldAt 23 t5 1) fun t191 =>
 A6 PR (Instr.loadAt 3 t191) fun t192 =>
 A0 PR (binOp .lss 3 t24_1 t192) fun t193 =>
 C6 t193 (
 J4) (
 J1 t10_6 t24_1)) t10_4 (.int .i64 0)) fun J5 =>
 lp (n := 2) (fun L6 t10_8 t18_1 =>
 jn (n := 0) (
 jn (n := 4) (fun t21 t20 t23 t10_9 =>
 A0 PR (binOp .add 3 t18_1 (.int .i64 1)) fun t121 =>
 L6 t10_9 t121) fun J7 =>
 jn (n := 1) (fun t10_10 =>
 A0 PR (Instr.indexAt 51 t2 t18_1) fun t132 =>
 A6 PR (Instr.loadAt 9 t132) fun t133 =>
 B5 PR X 17 [t1, t133] fun t134 =>
 jn (n := 1) (fun t10_11 =>
 jn (n := 2) (fun t21_1 t20_1 =>
 drw <|
 kt (n := 1) (fun t22 =>
 jn (n := 1) (fun t23_1 =>
 drw <|
 gj t21_1 false (fun J => J t20_1) fun t169 =>
 gj t21_1 false (fun J => J t23_1) fun t170 =>
 gj t21_1 false (fun J => A0 PR (binOp .neq 3 t169 t170) J) fun t171 =>
 A0 PR (do pure (if ← asBool t21_1 then (.bool true) else t171)) fun t172 =>
 gj t172 false (fun J => J t134) fun t174 =>
 gj t172 false (fun J => A6 PR (Instr.loadAt 55 t22) J) fun t176 =>
 gj t172 false (fun J => B5 PR X 27 [t174] J) fun t175 =>
 watch PR [((some (t172, false)), (Instr.loadAt 55 t22), t176)] <|
 gj t172 false (fun J => A6 PR (H0 .neq 55 (.tmp 175) (.tmp 176) t175 t176) J) fun t177 =>
 A0 PR (do pure (if ← asBool t172 then (.bool true) else t177)) fun t178 =>
 gj t178 false (fun J => J t70) fun t180 =>
 gj t178 false (fun J => A0 PR (B8 t180) J) fun t181 =>
 gj t178 false (fun J => A0 PR (Instr.fieldAt 39 t181 1) J) fun t182 =>
 gj t178 false (fun J => A6 PR (Instr.loadAt 33 t182) J) fun t183 =>
 gj t178 false (fun J => J t70) fun t184 =>
 gj t178 false (fun J => J t1) fun t185 =>
 gj t178 false (fun J => B5 PR X 57 [t184, t185] J) fun t186 =>
 watch PR [((some (t178, false)), (Instr.loadAt 33 t182), t183)] <|
 gj t178 false (fun J => B5 PR X 35 [t183, t186] J) fun t187 =>
 gj t178 false (fun J => A0 PR (binOp .neq 3 t187 (.int .i64 0)) J) fun t188 =>
 A0 PR (do pure (if ← asBool t178 then (.bool true) else t188)) fun t189 =>
 C6 t189 (
 R (.bool false)) (
 J7 t21_1 t20_1 t23_1 t10_11)) fun J8 =>
 A0 PR (Instr.fieldAt 55 t22 0) fun t164 =>
 A6 PR (Instr.loadAt 27 t164) fun t165 =>
 A0 PR (binOp .eql 27 t165 (.int .i64 9)) fun t166 =>
 C6 t166 (
 J8 (.int .i64 1)) (
 J8 (.int .i64 10))) fun C9 =>
 A0 PR (Instr.indexAt 51 t2 t18_1) fun t156_1 =>
 A6 PR (Instr.loadAt 9 t156_1) fun t157_1 =>
 A0 PR (Instr.build 64 #[(1, t157_1)]) fun t158_1 =>
 A0 PR (B8 t70) fun t160_1 =>
 A0 PR (Instr.fieldAt 39 t160_1 6) fun t161_1 =>
 A6 PR (Instr.loadAt 3 t161_1) fun t162_1 =>
 both (B5 PR X 60 [t75, t158_1, t162_1] fun t163_2 =>
 B3 PR X (Instr.alloc 55 true (.tuple #[])) fun t22_2 =>
 C3 PR X (Instr.storeAt 55 t22_2 t163_2) <|
 C9 t22_2) (both (B3 PR X (Instr.alloc 55 true (.tuple #[])) fun t22_1 =>
 watch PR [(none, (Instr.loadAt 3 t161_1), t162_1), (none, (Instr.loadAt 9 t156_1), t157_1)] <|
 B5 PR X 60 [t75, t158_1, t162_1] fun t163_1 =>
 C3 PR X (Instr.storeAt 55 t22_1 t163_1) <|
 C9 t22_1) ((fun _ => True)))) fun J10 =>
 lp (n := 2) (fun L11 t21_2 t20_2 =>
 jn (n := 0) (
 gj t21_2 false (fun J => J t134) fun t146 =>
 gj t21_2 false (fun J => J t70) fun t147 =>
 gj t21_2 false (fun J => B5 PR X 20 [t146, t147] J) fun t148 =>
 gj t21_2 false (fun J => A0 PR (Instr.field 42 t148 2) J) fun t149 =>
 A0 PR (do pure (if ← asBool t21_2 then (.bool true) else t149)) fun t150 =>
 A0 PR (binOp .add 3 t20_2 (.int .i64 1)) fun t152 =>
 L11 t150 t152) fun J12 =>
 A0 PR (binOp .lss 3 t20_2 (.int .i64 20)) fun t138 =>
 gj t138 true (fun J => J t134) fun t140 =>
 gj t138 true (fun J => J t70) fun t141 =>
 gj t138 true (fun J => B5 PR X 23 [t140, t141] J) fun t142 =>
 A0 PR (do pure (if ← asBool t138 then t142 else (.bool false))) fun t143 =>
 C6 t143 (
 J12) (
 J10 t21_2 t20_2)) (.bool false) (.int .i64 0)) fun J13 =>
 A6 PR (H0 .eql 30 (.tmp 135) (.const (.pointer none)) t134 (.pointer none)) fun t136 =>
 C6 t136 (
 R (.bool false)) (
 J13 t10_10)) fun J14 =>
 A0 PR (Instr.indexAt 51 t2 t18_1) fun t124 =>
 A6 PR (Instr.loadAt 9 t124) fun t125 =>
 A0 PR (A8 .len #[9] 0 [t125]) fun t126 =>
 A0 PR (binOp .gtr 3 t126 (.int .i64 100)) fun t127 =>
 C6 t127 (
 R t26) (
 J14 t10_8)) fun J15 =>
 A0 PR (A8 .len #[51] 0 [t2]) fun t118 =>
 A0 PR (binOp .lss 3 t18_1 t118) fun t119 =>
 C6 t119 (
 J15) (
 J5 t10_8 t18_1)) t10_3 (.int .i64 0)) fun J16 =>
 B5 PR X 18 [t70] fun t94 =>
 A0 PR (Op.unary .not t94) fun t95 =>
 C6 t95 (
 R (.bool false)) (
 J16 t10_2)) fun J17 =>
 A0 PR (binOp .neq 27 t71 (.int .i64 0)) fun t78 =>
 gj t78 false (fun J => J t76) fun t80 =>
 gj t78 false (fun J => A0 PR (binOp .neq 27 t80 (.int .i64 0)) J) fun t81 =>
 A0 PR (do pure (if ← asBool t78 then (.bool true) else t81)) fun t82 =>
 gj t82 false (fun J => J t75) fun t84 =>
 gj t82 false (fun J => A6 PR (H0 .eql 110 (.tmp 84) (.const (.pointer none)) t84 (.pointer none)) J) fun t85 =>
 A0 PR (do pure (if ← asBool t82 then (.bool true) else t85)) fun t86 =>
 C6 t86 (
 gj t26 true (fun J => J t71) fun t89 =>
 gj t26 true (fun J => J t76) fun t90 =>
 gj t26 true (fun J => A0 PR (binOp .eql 27 t89 t90) J) fun t91 =>
 A0 PR (do pure (if ← asBool t26 then t91 else (.bool false))) fun t92 =>
 R t92) (
 J17 t10_1)) fun J18 =>
 A0 PR (Op.unary .not t30) fun t32 =>
 gj t32 false (fun J => J t2) fun t34 =>
 gj t32 false (fun J => A0 PR (A8 .len #[51] 0 [t34]) J) fun t35 =>
 gj t32 false (fun J => A0 PR (binOp .gtr 3 t35 (.int .i64 6)) J) fun t36 =>
 A0 PR (do pure (if ← asBool t32 then (.bool true) else t36)) fun t37 =>
 gj t37 false (fun J => J t3) fun t39 =>
 gj t37 false (fun J => A0 PR (A8 .len #[58] 0 [t39]) J) fun t40 =>
 gj t37 false (fun J => A0 PR (binOp .gtr 3 t40 (.int .i64 8)) J) fun t41 =>
 A0 PR (do pure (if ← asBool t37 then (.bool true) else t41)) fun t42 =>
 gj t42 false (fun J => J t3) fun t44 =>
 gj t42 false (fun J => B5 PR X 29 [t44] J) fun t45 =>
 gj t42 false (fun J => A0 PR (binOp .neq 27 t45 (.int .i64 0)) J) fun t46 =>
 A0 PR (do pure (if ← asBool t42 then (.bool true) else t46)) fun t47 =>
 gj t47 false (fun J => J t1) fun t49 =>
 gj t47 false (fun J => A0 PR (binOp .lss 3 t49 (.int .i64 1)) J) fun t50 =>
 A0 PR (do pure (if ← asBool t47 then (.bool true) else t50)) fun t51 =>
 gj t51 false (fun J => J t1) fun t53 =>
 gj t51 false (fun J => A0 PR (Instr.fieldAt 23 t5 0) J) fun t54 =>
 gj t51 false (fun J => A6 PR (Instr.loadAt 3 t54) J) fun t55 =>
 gj t51 false (fun J => A0 PR (binOp .gtr 3 t53 t55) J) fun t56 =>
 A0 PR (do pure (if ← asBool t51 then (.bool true) else t56)) fun t57 =>
 gj t57 false (fun J => J t4) fun t59 =>
 gj t57 false (fun J => A0 PR (binOp .lss 3 t59 (.int .i64 0)) J) fun t60 =>
 A0 PR (do pure (if ← asBool t57 then (.bool true) else t60)) fun t61 =>
 gj t61 false (fun J => J t4) fun t63 =>
 gj t61 false (fun J => A0 PR (binOp .gtr 3 t63 (.int .i64 1000000)) J) fun t64 =>
 A0 PR (do pure (if ← asBool t61 then (.bool true) else t64)) fun t65 =>
 C6 t65 (
 R t26) (
 J18 t10)) fun J19 =>
 A0 PR (Op.unary .not t26) fun t28 =>
 C6 t28 (
 R (.bool false)) (
 J19 (.bool false))
theorem A16 {X : Nat → Prop} {t0 t1 t2 t3 t4 : Value} {R : Value → WP} {w : World} (h : l0 X t0 t1 t2 t3 t4 R w) : Fn PR X 12 #[t0, t1, t2, t3, t4] w R := C8 (args := [t0, t1, t2, t3, t4]) mixed Tryz.func12 (by kernel_rfl) h
end Go.Proofs.YtjobgnabneddjaaGreat
namespace Go.Proofs.YtjobgnabneddjaaGreat
open Go
def A0S (X : Nat → Prop) (R : Value → WP) : WP :=
 A0 PR (Instr.build 23 #[(0, (.int .i64 1)), (1, (.int .i64 1)), (2, (.int .i64 1)), (3, (.int .i64 5)), (4, (.int .i64 2))]) fun t10 =>
 B5 PR X 16 [t10] fun t11 =>
 A0 PR (Instr.extract t11 0) fun t12 =>
 A0 PR (Instr.extract t11 1) fun t13 =>
 jn (n := 1) (fun t0 =>
 A0 PR (Instr.build 45 #[(0, (.int .i64 4)), (1, (.string (ByteArray.mk #[97, 98, 99, 100]))), (2, (.string (ByteArray.mk #[101, 102, 103, 104]))), (3, (.int .i64 1)), (4, (.int .i64 2)), (5, (.int .i64 17))]) fun t17 =>
 A0 PR (Instr.build 47 #[(0, t17)]) fun t18 =>
 B5 PR X 64 [t18] fun t19 =>
 A0 PR (Instr.extract t19 0) fun t20 =>
 A0 PR (Instr.extract t19 1) fun t21 =>
 B5 PR X 17 [(.int .i64 1), t20] fun t23 =>
 B5 PR X 17 [(.int .i64 1), (.string (ByteArray.mk #[]))] fun t24 =>
 jn (n := 1) (fun t0_1 =>
 jn (n := 1) (fun t7 =>
 B5 PR X 20 [t24, t12] fun t45 =>
 B3 PR X (Instr.alloc 42 true (.tuple #[])) fun t8 =>
 C3 PR X (Instr.storeAt 42 t8 t45) <|
 A0 PR (binOp .eql 3 t7 (.int .i64 10)) fun t47 =>
 gj t47 true (fun J => J t23) fun t49 =>
 gj t47 true (fun J => B5 PR X 27 [t49] J) fun t50 =>
 gj t47 true (fun J => A0 PR (Instr.build 55 #[(0, (.int .i64 11))]) J) fun t51 =>
 gj t47 true (fun J => A6 PR (H0 .eql 55 (.tmp 50) (.tmp 51) t50 t51) J) fun t52 =>
 A0 PR (do pure (if ← asBool t47 then t52 else (.bool false))) fun t53 =>
 gj t53 true (fun J => J t23) fun t55 =>
 gj t53 true (fun J => B5 PR X 22 [t55] J) fun t56 =>
 gj t53 true (fun J => A0 PR (binOp .eql 3 t56 (.int .i64 10)) J) fun t57 =>
 A0 PR (do pure (if ← asBool t53 then t57 else (.bool false))) fun t58 =>
 gj t58 true (fun J => A6 PR (Instr.loadAt 42 t8) J) fun t60 =>
 gj t58 true (fun J => A0 PR (Instr.build 42 #[(0, (.bool true)), (1, (.bool true))]) J) fun t61 =>
 gj t58 true (fun J => A6 PR (H0 .eql 42 (.tmp 60) (.tmp 61) t60 t61) J) fun t62 =>
 A0 PR (do pure (if ← asBool t58 then t62 else (.bool false))) fun t63 =>
 gj t63 true (fun J => J t24) fun t65 =>
 gj t63 true (fun J => B5 PR X 27 [t65] J) fun t66 =>
 gj t63 true (fun J => A0 PR (Instr.build 55 #[(0, (.int .i64 9))]) J) fun t67 =>
 gj t63 true (fun J => A6 PR (H0 .eql 55 (.tmp 66) (.tmp 67) t66 t67) J) fun t68 =>
 A0 PR (do pure (if ← asBool t63 then t68 else (.bool false))) fun t69 =>
 gj t69 true (fun J => J t24) fun t71 =>
 gj t69 true (fun J => J t12) fun t72 =>
 gj t69 true (fun J => B5 PR X 23 [t71, t72] J) fun t73 =>
 gj t69 true (fun J => A0 PR (Op.unary .not t73) J) fun t74 =>
 A0 PR (do pure (if ← asBool t69 then t74 else (.bool false))) fun t75 =>
 gj t75 true (fun J => J t24) fun t77 =>
 gj t75 true (fun J => B5 PR X 22 [t77] J) fun t78 =>
 gj t75 true (fun J => A0 PR (binOp .eql 3 t78 (.int .i64 10)) J) fun t79 =>
 A0 PR (do pure (if ← asBool t75 then t79 else (.bool false))) fun t80 =>
 R t80) fun J1 =>
 lp (n := 1) (fun L2 t7_1 =>
 jn (n := 0) (
 B5 PR X 20 [t23, t12] fun t40 =>
 A0 PR (binOp .add 3 t7_1 (.int .i64 1)) fun t42 =>
 L2 t42) fun J3 =>
 A0 PR (binOp .lss 3 t7_1 (.int .i64 20)) fun t32 =>
 gj t32 true (fun J => J t23) fun t34 =>
 gj t32 true (fun J => J t12) fun t35 =>
 gj t32 true (fun J => B5 PR X 23 [t34, t35] J) fun t36 =>
 A0 PR (do pure (if ← asBool t32 then t36 else (.bool false))) fun t37 =>
 C6 t37 (
 J3) (
 J1 t7_1)) (.int .i64 0)) fun J4 =>
 A6 PR (H0 .eql 30 (.tmp 25) (.const (.pointer none)) t23 (.pointer none)) fun t26 =>
 gj t26 false (fun J => J t24) fun t28 =>
 gj t26 false (fun J => A6 PR (H0 .eql 30 (.tmp 28) (.const (.pointer none)) t28 (.pointer none)) J) fun t29 =>
 A0 PR (do pure (if ← asBool t26 then (.bool true) else t29)) fun t30 =>
 C6 t30 (
 R (.bool false)) (
 J4 t0)) fun J5 =>
 A6 PR (H0 .eql 26 (.tmp 14) (.const (.pointer none)) t12 (.pointer none)) fun t15 =>
 C6 t15 (
 R (.bool false)) (
 J5 (.bool false))
theorem A4w : A9 PR 14 := A7 Tryz.func14 (by kernel_rfl) rfl
theorem A5G {X : Nat → Prop} {R : Value → WP} {w : World} (h : A0S X R w) : Fn PR X 14 #[] w R := C8 (args := []) mixed Tryz.func14 (by kernel_rfl) h
def A0J (X : Nat → Prop) (t0 : Value) (R : Value → WP) : WP :=
 A6 PR (H0 .neq 26 (.tmp 3) (.const (.pointer none)) t0 (.pointer none)) fun t4 =>
 gj t4 true (fun J => J t0) fun t6 =>
 gj t4 true (fun J => A0 PR (B8 t6) J) fun t7 =>
 gj t4 true (fun J => A0 PR (Instr.fieldAt 39 t7 1) J) fun t8 =>
 gj t4 true (fun J => A6 PR (Instr.loadAt 33 t8) J) fun t9 =>
 gj t4 true (fun J => A6 PR (H0 .neq 33 (.tmp 9) (.const (.pointer none)) t9 (.pointer none)) J) fun t10 =>
 A0 PR (do pure (if ← asBool t4 then t10 else (.bool false))) fun t11 =>
 gj t11 true (fun J => J t0) fun t13 =>
 gj t11 true (fun J => A0 PR (B8 t13) J) fun t14 =>
 gj t11 true (fun J => A0 PR (Instr.fieldAt 39 t14 2) J) fun t15 =>
 gj t11 true (fun J => A6 PR (Instr.loadAt 34 t15) J) fun t16 =>
 gj t11 true (fun J => A6 PR (H0 .neq 34 (.tmp 16) (.const (.pointer none)) t16 (.pointer none)) J) fun t17 =>
 A0 PR (do pure (if ← asBool t11 then t17 else (.bool false))) fun t18 =>
 gj t18 true (fun J => J t0) fun t20 =>
 gj t18 true (fun J => A0 PR (B8 t20) J) fun t21 =>
 gj t18 true (fun J => A0 PR (Instr.fieldAt 39 t21 3) J) fun t22 =>
 gj t18 true (fun J => A6 PR (Instr.loadAt 35 t22) J) fun t23 =>
 gj t18 true (fun J => A6 PR (H0 .neq 35 (.tmp 23) (.const (.pointer none)) t23 (.pointer none)) J) fun t24 =>
 A0 PR (do pure (if ← asBool t18 then t24 else (.bool false))) fun t25 =>
 R t25
theorem A4q : A9 PR 18 := A7 Tryz.func18 (by kernel_rfl) rfl
theorem A5N {X : Nat → Prop} {t0 : Value} {R : Value → WP} {w : World} (h : A0J X t0 R w) : Fn PR X 18 #[t0] w R := C8 (args := [t0]) mixed Tryz.func18 (by kernel_rfl) h
def x9 (X : Nat → Prop) (t0 t1 t2 : Value) (R : Value → WP) : WP :=
 B3 PR X (Instr.box 79 t2) fun t5 =>
 A0 PR (Instr.fieldAt 79 t5 0) fun t8 =>
 A6 PR (Instr.loadAt 3 t8) fun t9 =>
 A0 PR (binOp .eql 3 t9 (.int .i64 1)) fun t11 =>
 C6 t11 (
 A0 PR (B8 t0) fun t13 =>
 A0 PR (Instr.fieldAt 39 t13 1) fun t14 =>
 A6 PR (Instr.loadAt 33 t14) fun t15 =>
 B5 PR X 93 [t15, (.int .i64 0), (.int .i64 1)] fun t16 =>
 A0 PR (B8 t1) fun t19 =>
 A0 PR (Instr.fieldAt 106 t19 1) fun t20 =>
 A6 PR (Instr.loadAt 3 t20) fun t21 =>
 A0 PR (binOp .add 3 t21 (.int .i64 1)) fun t22 =>
 A0 PR (B8 t1) fun t23 =>
 A0 PR (Instr.fieldAt 106 t23 1) fun t24 =>
 C3 PR X (Instr.storeAt 3 t24 t22) <|
 R (.tuple #[])) (
 A0 PR (binOp .eql 3 t9 (.int .i64 2)) fun t26 =>
 C6 t26 (
 drw <|
 A0 PR (Instr.fieldAt 79 t5 1) fun t27 =>
 A6 PR (Instr.loadAt 3 t27) fun t28 =>
 A0 PR (binOp .geq 3 t28 (.int .i64 0)) fun t29 =>
 gj t29 true (fun J => A0 PR (Instr.fieldAt 79 t5 1) J) fun t31 =>
 gj t29 true (fun J => A6 PR (Instr.loadAt 3 t31) J) fun t32 =>
 gj t29 true (fun J => J t1) fun t33 =>
 gj t29 true (fun J => A0 PR (B8 t33) J) fun t34 =>
 gj t29 true (fun J => A0 PR (Instr.fieldAt 106 t34 0) J) fun t35 =>
 gj t29 true (fun J => A0 PR (Instr.fieldAt 23 t35 1) J) fun t36 =>
 gj t29 true (fun J => A6 PR (Instr.loadAt 3 t36) J) fun t37 =>
 gj t29 true (fun J => A0 PR (binOp .lss 3 t32 t37) J) fun t38 =>
 A0 PR (do pure (if ← asBool t29 then t38 else (.bool false))) fun t39 =>
 gj t39 true (fun J => J t1) fun t41 =>
 gj t39 true (fun J => A0 PR (B8 t41) J) fun t42 =>
 gj t39 true (fun J => A0 PR (Instr.fieldAt 106 t42 4) J) fun t43 =>
 gj t39 true (fun J => A6 PR (Instr.loadAt 37 t43) J) fun t44 =>
 gj t39 true (fun J => A0 PR (Instr.fieldAt 79 t5 1) J) fun t45 =>
 gj t39 true (fun J => A6 PR (Instr.loadAt 3 t45) J) fun t46 =>
 gj t39 true (fun J => A0 PR (Instr.indexAt 37 t44 t46) J) fun t47 =>
 gj t39 true (fun J => A6 PR (Instr.loadAt 3 t47) J) fun t48 =>
 gj t39 true (fun J => A0 PR (binOp .lss 3 t48 (.int .i64 0)) J) fun t49 =>
 A0 PR (do pure (if ← asBool t39 then t49 else (.bool false))) fun t50 =>
 C6 t50 (
 drw <|
 A0 PR (B8 t0) fun t52 =>
 A0 PR (Instr.fieldAt 39 t52 1) fun t53 =>
 A6 PR (Instr.loadAt 33 t53) fun t54 =>
 A0 PR (Instr.fieldAt 79 t5 1) fun t55 =>
 A6 PR (Instr.loadAt 3 t55) fun t56 =>
 B5 PR X 19 [t54, t56, (.int .i64 99)] fun t57 =>
 drw <|
 A0 PR (B8 t1) fun t59 =>
 A0 PR (Instr.fieldAt 106 t59 4) fun t60 =>
 A6 PR (Instr.loadAt 37 t60) fun t61 =>
 A0 PR (Instr.fieldAt 79 t5 1) fun t62 =>
 A6 PR (Instr.loadAt 3 t62) fun t63 =>
 A0 PR (Instr.indexAt 37 t61 t63) fun t64 =>
 C3 PR X (Instr.storeAt 3 t64 (.int .i64 99)) <|
 R (.tuple #[])) (
 R (.tuple #[]))) (
 A0 PR (binOp .eql 3 t9 (.int .i64 3)) fun t66 =>
 C6 t66 (
 drw <|
 A0 PR (Instr.fieldAt 79 t5 1) fun t67 =>
 A6 PR (Instr.loadAt 3 t67) fun t68 =>
 A0 PR (binOp .geq 3 t68 (.int .i64 0)) fun t69 =>
 gj t69 true (fun J => A0 PR (Instr.fieldAt 79 t5 1) J) fun t71 =>
 gj t69 true (fun J => A6 PR (Instr.loadAt 3 t71) J) fun t72 =>
 gj t69 true (fun J => J t1) fun t73 =>
 gj t69 true (fun J => A0 PR (B8 t73) J) fun t74 =>
 gj t69 true (fun J => A0 PR (Instr.fieldAt 106 t74 0) J) fun t75 =>
 gj t69 true (fun J => A0 PR (Instr.fieldAt 23 t75 1) J) fun t76 =>
 gj t69 true (fun J => A6 PR (Instr.loadAt 3 t76) J) fun t77 =>
 gj t69 true (fun J => A0 PR (binOp .lss 3 t72 t77) J) fun t78 =>
 A0 PR (do pure (if ← asBool t69 then t78 else (.bool false))) fun t79 =>
 gj t79 true (fun J => J t1) fun t81 =>
 gj t79 true (fun J => A0 PR (B8 t81) J) fun t82 =>
 gj t79 true (fun J => A0 PR (Instr.fieldAt 106 t82 4) J) fun t83 =>
 gj t79 true (fun J => A6 PR (Instr.loadAt 37 t83) J) fun t84 =>
 gj t79 true (fun J => A0 PR (Instr.fieldAt 79 t5 1) J) fun t85 =>
 gj t79 true (fun J => A6 PR (Instr.loadAt 3 t85) J) fun t86 =>
 gj t79 true (fun J => A0 PR (Instr.indexAt 37 t84 t86) J) fun t87 =>
 gj t79 true (fun J => A6 PR (Instr.loadAt 3 t87) J) fun t88 =>
 gj t79 true (fun J => A0 PR (binOp .eql 3 t88 (.int .i64 99)) J) fun t89 =>
 A0 PR (do pure (if ← asBool t79 then t89 else (.bool false))) fun t90 =>
 C6 t90 (
 drw <|
 A0 PR (B8 t0) fun t92 =>
 A0 PR (Instr.fieldAt 39 t92 1) fun t93 =>
 A6 PR (Instr.loadAt 33 t93) fun t94 =>
 A0 PR (Instr.fieldAt 79 t5 1) fun t95 =>
 A6 PR (Instr.loadAt 3 t95) fun t96 =>
 B5 PR X 25 [t94, t96, (.int .i64 99)] fun t97 =>
 drw <|
 A0 PR (B8 t1) fun t99 =>
 A0 PR (Instr.fieldAt 106 t99 4) fun t100 =>
 A6 PR (Instr.loadAt 37 t100) fun t101 =>
 A0 PR (Instr.fieldAt 79 t5 1) fun t102 =>
 A6 PR (Instr.loadAt 3 t102) fun t103 =>
 A0 PR (Instr.indexAt 37 t101 t103) fun t104 =>
 C3 PR X (Instr.storeAt 3 t104 (.int .i64 (-1))) <|
 R (.tuple #[])) (
 R (.tuple #[]))) (
 A0 PR (binOp .eql 3 t9 (.int .i64 4)) fun t106 =>
 C6 t106 (
 drw <|
 A0 PR (B8 t0) fun t108 =>
 A0 PR (Instr.fieldAt 39 t108 2) fun t109 =>
 A6 PR (Instr.loadAt 34 t109) fun t110 =>
 A0 PR (Instr.fieldAt 79 t5 1) fun t111 =>
 A6 PR (Instr.loadAt 3 t111) fun t112 =>
 B5 PR X 94 [t110, t112] fun t113 =>
 drw <|
 A0 PR (B8 t0) fun t115 =>
 A0 PR (Instr.fieldAt 39 t115 2) fun t116 =>
 A6 PR (Instr.loadAt 34 t116) fun t117 =>
 A0 PR (Instr.fieldAt 79 t5 1) fun t118 =>
 A6 PR (Instr.loadAt 3 t118) fun t119 =>
 A0 PR (Instr.fieldAt 79 t5 2) fun t120 =>
 A6 PR (Instr.loadAt 58 t120) fun t121 =>
 B5 PR X 95 [t117, t119, t121] fun t122 =>
 drw <|
 A0 PR (B8 t1) fun t125 =>
 A0 PR (Instr.fieldAt 106 t125 5) fun t126 =>
 A6 PR (Instr.loadAt 103 t126) fun t127 =>
 A0 PR (Instr.fieldAt 79 t5 1) fun t128 =>
 A6 PR (Instr.loadAt 3 t128) fun t129 =>
 B5 PR X 96 [t127, t129] fun t130 =>
 A0 PR (Instr.extract t130 0) fun t131 =>
 A0 PR (Instr.extract t130 1) fun t132 =>
 C6 t132 (
 A0 PR (Instr.fieldAt 79 t5 1) fun t137 =>
 A6 PR (Instr.loadAt 3 t137) fun t138 =>
 A0 PR (Instr.fieldAt 79 t5 2) fun t139 =>
 A6 PR (Instr.loadAt 58 t139) fun t140 =>
 B5 PR X 97 [t131, t138, t140] fun t141 =>
 A0 PR (Instr.extract t141 0) fun t142 =>
 A0 PR (Instr.extract t141 1) fun t143 =>
 A0 PR (B8 t1) fun t144 =>
 A0 PR (Instr.fieldAt 106 t144 5) fun t145 =>
 C3 PR X (Instr.storeAt 103 t145 t142) <|
 R (.tuple #[])) (
 R (.tuple #[]))) (
 A0 PR (binOp .eql 3 t9 (.int .i64 5)) fun t147 =>
 C6 t147 (
 drw <|
 A0 PR (B8 t0) fun t149 =>
 A0 PR (Instr.fieldAt 39 t149 2) fun t150 =>
 A6 PR (Instr.loadAt 34 t150) fun t151 =>
 A0 PR (Instr.fieldAt 79 t5 1) fun t152 =>
 A6 PR (Instr.loadAt 3 t152) fun t153 =>
 B5 PR X 98 [t151, t153] fun t154 =>
 drw <|
 A0 PR (B8 t1) fun t158 =>
 A0 PR (Instr.fieldAt 106 t158 5) fun t159 =>
 A6 PR (Instr.loadAt 103 t159) fun t160 =>
 A0 PR (Instr.fieldAt 79 t5 1) fun t161 =>
 A6 PR (Instr.loadAt 3 t161) fun t162 =>
 B5 PR X 99 [t160, t162] fun t163 =>
 A0 PR (Instr.extract t163 0) fun t164 =>
 A0 PR (Instr.extract t163 1) fun t165 =>
 A0 PR (B8 t1) fun t166 =>
 A0 PR (Instr.fieldAt 106 t166 5) fun t167 =>
 C3 PR X (Instr.storeAt 103 t167 t164) <|
 R (.tuple #[])) (
 A0 PR (binOp .eql 3 t9 (.int .i64 6)) fun t169 =>
 C6 t169 (
 drw <|
 A0 PR (Instr.fieldAt 79 t5 1) fun t170 =>
 A6 PR (Instr.loadAt 3 t170) fun t171 =>
 A0 PR (binOp .geq 3 t171 (.int .i64 (-1))) fun t172 =>
 gj t172 true (fun J => A0 PR (Instr.fieldAt 79 t5 1) J) fun t174 =>
 gj t172 true (fun J => A6 PR (Instr.loadAt 3 t174) J) fun t175 =>
 gj t172 true (fun J => J t1) fun t176 =>
 gj t172 true (fun J => A0 PR (B8 t176) J) fun t177 =>
 gj t172 true (fun J => A0 PR (Instr.fieldAt 106 t177 0) J) fun t178 =>
 gj t172 true (fun J => A0 PR (Instr.fieldAt 23 t178 4) J) fun t179 =>
 gj t172 true (fun J => A6 PR (Instr.loadAt 3 t179) J) fun t180 =>
 gj t172 true (fun J => A0 PR (binOp .lss 3 t175 t180) J) fun t181 =>
 A0 PR (do pure (if ← asBool t172 then t181 else (.bool false))) fun t182 =>
 C6 t182 (
 drw <|
 A0 PR (B8 t0) fun t184 =>
 A0 PR (Instr.fieldAt 39 t184 1) fun t185 =>
 A6 PR (Instr.loadAt 33 t185) fun t186 =>
 A0 PR (Instr.fieldAt 79 t5 1) fun t187 =>
 A6 PR (Instr.loadAt 3 t187) fun t188 =>
 A0 PR (binOp .add 3 t188 (.int .i64 1)) fun t189 =>
 B5 PR X 31 [t186, (.int .i64 1), t189] fun t190 =>
 A0 PR (Instr.fieldAt 79 t5 1) fun t192 =>
 A6 PR (Instr.loadAt 3 t192) fun t193 =>
 A0 PR (binOp .add 3 t193 (.int .i64 1)) fun t194 =>
 A0 PR (B8 t1) fun t195 =>
 A0 PR (Instr.fieldAt 106 t195 2) fun t196 =>
 C3 PR X (Instr.storeAt 3 t196 t194) <|
 R (.tuple #[])) (
 R (.tuple #[]))) (
 A0 PR (binOp .eql 3 t9 (.int .i64 7)) fun t198 =>
 C6 t198 (
 A0 PR (Instr.fieldAt 79 t5 1) fun t200 =>
 A6 PR (Instr.loadAt 3 t200) fun t201 =>
 B5 PR X 100 [t0, t201] fun t202 =>
 A0 PR (Instr.fieldAt 79 t5 1) fun t204 =>
 A6 PR (Instr.loadAt 3 t204) fun t205 =>
 B5 PR X 101 [t1, t205] fun t206 =>
 R (.tuple #[])) (
 R (.tuple #[]))))))))
theorem A4A : A9 PR 44 := A7 Tryz.func44 (by kernel_rfl) rfl
theorem A4k {X : Nat → Prop} {t0 t1 t2 : Value} {R : Value → WP} {w : World} (h : x9 X t0 t1 t2 R w) : Fn PR X 44 #[t0, t1, t2] w R := C8 (args := [t0, t1, t2]) mixed Tryz.func44 (by kernel_rfl) h
end Go.Proofs.YtjobgnabneddjaaGreat
namespace Go.Proofs.YtjobgnabneddjaaGreat
open Go
def A9N (X : Nat → Prop) (t0 t1 : Value) (R : Value → WP) : WP :=
 A0 PR (Instr.build 128 #[(0, t1)]) fun t6 =>
 A0 PR (Instr.build 130 #[(0, t6), (1, t0)]) fun t8 =>
 B3 PR X (Instr.box 130 t8) fun t9 =>
 R t9
theorem A2d : A9 PR 17 := A7 Tryz.func17 (by kernel_rfl) rfl
theorem B6x {X : Nat → Prop} {t0 t1 : Value} {R : Value → WP} {w : World} (h : A9N X t0 t1 R w) : Fn PR X 17 #[t0, t1] w R := C8 (args := [t0, t1]) mixed Tryz.func17 (by kernel_rfl) h
def A3e (X : Nat → Prop) (t0 t1 : Value) (R : Value → WP) : WP :=
 B3 PR X (Instr.alloc 42 true (.tuple #[])) fun t4 =>
 jn (n := 0) (
 A0 PR (Instr.build 144 #[(0, (.func (.func 76) #[] #[])), (1, (.func (.func 77) #[] #[])), (2, (.func (.func 78) #[] #[])), (3, (.func (.func 79) #[] #[])), (4, (.func (.func 80) #[] #[])), (5, (.func (.func 81) #[] #[])), (6, (.func (.func 82) #[] #[])), (7, (.func (.func 83) #[] #[])), (8, (.func (.func 84) #[] #[])), (9, (.func (.func 85) #[] #[]))]) fun t12 =>
 B3 PR X (Instr.alloc 144 true (.tuple #[])) fun t5 =>
 C3 PR X (Instr.storeAt 144 t5 t12) <|
 A0 PR (B8 t0) fun t14 =>
 A0 PR (Instr.fieldAt 130 t14 2) fun t15 =>
 A6 PR (Instr.loadAt 3 t15) fun t16 =>
 A0 PR (B8 t0) fun t18 =>
 A0 PR (Instr.fieldAt 130 t18 2) fun t19 =>
 A6 PR (Instr.loadAt 3 t19) fun t20 =>
 A0 PR (binOp .add 3 t20 (.int .i64 1)) fun t21 =>
 A0 PR (B8 t0) fun t22 =>
 A0 PR (Instr.fieldAt 130 t22 2) fun t23 =>
 C3 PR X (Instr.storeAt 3 t23 t21) <|
 A0 PR (Instr.indexAt 144 t5 t16) fun t25 =>
 A6 PR (Instr.loadAt 143 t25) fun t26 =>
 L8 PR X t26 [t0, t1] fun t29 =>
 C3 PR X (Instr.storeAt 42 t4 t29) <|
 A6 PR (F5 [.c 42 t4]) R) fun J1 =>
 B5 PR X 23 [t0, t1] fun t9 =>
 A0 PR (Op.unary .not t9) fun t10 =>
 C6 t10 (
 A0 PR (Instr.build 42 #[]) fun t11 =>
 C3 PR X (Instr.storeAt 42 t4 t11) <|
 A6 PR (F5 [.c 42 t4]) R) (
 J1)
theorem s7 : A9 PR 20 := A7 Tryz.func20 (by kernel_rfl) rfl
theorem B0z {X : Nat → Prop} {t0 t1 : Value} {R : Value → WP} {w : World} (h : A3e X t0 t1 R w) : Fn PR X 20 #[t0, t1] w R := C8 (args := [t0, t1]) mixed Tryz.func20 (by kernel_rfl) h
def A2C (X : Nat → Prop) (t0 : Value) (R : Value → WP) : WP :=
 A0 PR (B8 t0) fun t4 =>
 A0 PR (Instr.fieldAt 130 t4 2) fun t5 =>
 A6 PR (Instr.loadAt 3 t5) fun t6 =>
 R t6
theorem A1Y : A9 PR 22 := A7 Tryz.func22 (by kernel_rfl) rfl
theorem A9f {X : Nat → Prop} {t0 : Value} {R : Value → WP} {w : World} (h : A2C X t0 R w) : Fn PR X 22 #[t0] w R := C8 (args := [t0]) mixed Tryz.func22 (by kernel_rfl) h
def A2E (X : Nat → Prop) (t0 t1 : Value) (R : Value → WP) : WP :=
 drw <|
 A0 PR (B8 t0) fun t6 =>
 A0 PR (Instr.fieldAt 130 t6 2) fun t7 =>
 A6 PR (Instr.loadAt 3 t7) fun t8 =>
 A0 PR (binOp .lss 3 t8 (.int .i64 10)) fun t9 =>
 gj t9 true (fun J => J t0) fun t11 =>
 gj t9 true (fun J => A0 PR (B8 t11) J) fun t12 =>
 gj t9 true (fun J => A0 PR (Instr.fieldAt 130 t12 2) J) fun t13 =>
 gj t9 true (fun J => A6 PR (Instr.loadAt 3 t13) J) fun t14 =>
 gj t9 true (fun J => A0 PR (binOp .neq 3 t14 (.int .i64 3)) J) fun t15 =>
 gj t9 true (fun J => J t15) fun t16 =>
 gj t16 false (fun J => J t1) fun t17 =>
 gj t16 false (fun J => A0 PR (B8 t17) J) fun t18 =>
 gj t16 false (fun J => A0 PR (Instr.fieldAt 39 t18 1) J) fun t19 =>
 gj t16 false (fun J => A6 PR (Instr.loadAt 33 t19) J) fun t20 =>
 gj t16 false (fun J => J t0) fun t21 =>
 gj t16 false (fun J => A0 PR (B8 t21) J) fun t22 =>
 gj t16 false (fun J => A0 PR (Instr.fieldAt 130 t22 0) J) fun t23 =>
 gj t16 false (fun J => A0 PR (Instr.fieldAt 128 t23 2) J) fun t24 =>
 gj t16 false (fun J => A6 PR (Instr.loadAt 3 t24) J) fun t25 =>
 gj t16 false (fun J => B5 PR X 37 [t20, t25] J) fun t26 =>
 gj t16 false (fun J => A0 PR (binOp .lss 3 t26 (.int .i64 0)) J) fun t27 =>
 gj t9 true (fun J => A0 PR (do pure (if ← asBool t16 then (.bool true) else t27)) J) fun t28 =>
 A0 PR (do pure (if ← asBool t9 then t28 else (.bool false))) fun t29 =>
 R t29
theorem M9 : A9 PR 23 := A7 Tryz.func23 (by kernel_rfl) rfl
theorem A9v {X : Nat → Prop} {t0 t1 : Value} {R : Value → WP} {w : World} (h : A2E X t0 t1 R w) : Fn PR X 23 #[t0, t1] w R := C8 (args := [t0, t1]) mixed Tryz.func23 (by kernel_rfl) h
def A1m (X : Nat → Prop) (t0 : Value) (R : Value → WP) : WP :=
 B3 PR X (Instr.alloc 55 true (.tuple #[])) fun t2 =>
 A0 PR (B8 t0) fun t4 =>
 A0 PR (Instr.fieldAt 130 t4 7) fun t5 =>
 A6 PR (Instr.loadAt 55 t5) fun t6 =>
 C3 PR X (Instr.storeAt 55 t2 t6) <|
 A6 PR (F5 [.c 55 t2]) R
theorem V6 : A9 PR 27 := A7 Tryz.func27 (by kernel_rfl) rfl
theorem A8b {X : Nat → Prop} {t0 : Value} {R : Value → WP} {w : World} (h : A1m X t0 R w) : Fn PR X 27 #[t0] w R := C8 (args := [t0]) mixed Tryz.func27 (by kernel_rfl) h
def A2H (X : Nat → Prop) (t0 t1 : Value) (R : Value → WP) : WP :=
 B3 PR X (Instr.alloc 42 true (.tuple #[])) fun t4 =>
 jn (n := 0) (
 jn (n := 0) (
 A0 PR (B8 t1) fun t28 =>
 A0 PR (Instr.fieldAt 39 t28 1) fun t29 =>
 A6 PR (Instr.loadAt 33 t29) fun t30 =>
 B5 PR X 35 [t30, (.int .i64 0)] fun t31 =>
 A0 PR (B8 t0) fun t32 =>
 A0 PR (Instr.fieldAt 130 t32 3) fun t33 =>
 C3 PR X (Instr.storeAt 3 t33 t31) <|
 A0 PR (Instr.build 42 #[]) fun t34 =>
 C3 PR X (Instr.storeAt 42 t4 t34) <|
 A6 PR (F5 [.c 42 t4]) R) fun J1 =>
 drw <|
 A0 PR (B8 t0) fun t15 =>
 A0 PR (Instr.fieldAt 130 t15 0) fun t16 =>
 A0 PR (B8 t1) fun t18 =>
 A0 PR (Instr.fieldAt 39 t18 0) fun t19 =>
 A0 PR (Instr.fieldAt 23 t19 1) fun t20 =>
 A6 PR (Instr.loadAt 3 t20) fun t21 =>
 B5 PR X 131 [t16, t21] fun t22 =>
 A0 PR (Op.unary .not t22) fun t23 =>
 C6 t23 (
 B5 PR X 130 [t0, (.int .i64 9)] fun t25 =>
 C3 PR X (Instr.storeAt 42 t4 t25) <|
 A6 PR (F5 [.c 42 t4]) R) (
 J1)) fun J2 =>
 A0 PR (B8 t0) fun t7 =>
 A0 PR (Instr.fieldAt 130 t7 1) fun t8 =>
 A6 PR (Instr.loadAt 3 t8) fun t9 =>
 B5 PR X 57 [t1, t9] fun t10 =>
 A0 PR (binOp .lss 3 t10 (.int .i64 0)) fun t11 =>
 C6 t11 (
 B5 PR X 130 [t0, (.int .i64 1)] fun t13 =>
 C3 PR X (Instr.storeAt 42 t4 t13) <|
 A6 PR (F5 [.c 42 t4]) R) (
 J2)
theorem A8M : A9 PR 76 := A7 Tryz.func76 (by kernel_rfl) rfl
theorem A95 {X : Nat → Prop} {t0 t1 : Value} {R : Value → WP} {w : World} (h : A2H X t0 t1 R w) : Fn PR X 76 #[t0, t1] w R := C8 (args := [t0, t1]) mixed Tryz.func76 (by kernel_rfl) h
def A3y (X : Nat → Prop) (t0 t1 : Value) (R : Value → WP) : WP :=
 B3 PR X (Instr.alloc 42 true (.tuple #[])) fun t4 =>
 drw <|
 A0 PR (B8 t1) fun t6 =>
 A0 PR (Instr.fieldAt 39 t6 1) fun t7 =>
 A6 PR (Instr.loadAt 33 t7) fun t8 =>
 A0 PR (B8 t0) fun t11 =>
 A0 PR (Instr.fieldAt 130 t11 1) fun t12 =>
 A6 PR (Instr.loadAt 3 t12) fun t13 =>
 A0 PR (B8 t0) fun t16 =>
 A0 PR (Instr.fieldAt 130 t16 3) fun t17 =>
 A6 PR (Instr.loadAt 3 t17) fun t18 =>
 A0 PR (binOp .add 3 t18 (.int .i64 1)) fun t19 =>
 B5 PR X 57 [t1, t13] fun t14 =>
 watch PR [(none, (Instr.loadAt 3 t17), t18), (none, (Instr.loadAt 33 t7), t8)] <|
 B5 PR X 31 [t8, t14, t19] fun t20 =>
 A0 PR (Instr.build 42 #[]) fun t21 =>
 C3 PR X (Instr.storeAt 42 t4 t21) <|
 A6 PR (F5 [.c 42 t4]) R
theorem B03 : A9 PR 77 := A7 Tryz.func77 (by kernel_rfl) rfl
theorem B11 {X : Nat → Prop} {t0 t1 : Value} {R : Value → WP} {w : World} (h : A3y X t0 t1 R w) : Fn PR X 77 #[t0, t1] w R := C8 (args := [t0, t1]) mixed Tryz.func77 (by kernel_rfl) h
def A2D (X : Nat → Prop) (t0 t1 : Value) (R : Value → WP) : WP :=
 B3 PR X (Instr.alloc 42 true (.tuple #[])) fun t4 =>
 jn (n := 0) (
 A0 PR (Instr.build 42 #[]) fun t24 =>
 C3 PR X (Instr.storeAt 42 t4 t24) <|
 A6 PR (F5 [.c 42 t4]) R) fun J1 =>
 A0 PR (B8 t1) fun t7 =>
 A0 PR (Instr.fieldAt 39 t7 1) fun t8 =>
 A6 PR (Instr.loadAt 33 t8) fun t9 =>
 B5 PR X 35 [t9, (.int .i64 0)] fun t10 =>
 A0 PR (B8 t0) fun t13 =>
 A0 PR (Instr.fieldAt 130 t13 3) fun t14 =>
 A6 PR (Instr.loadAt 3 t14) fun t15 =>
 A0 PR (binOp .neq 3 t10 t15) fun t16 =>
 C6 t16 (
 A0 PR (B8 t0) fun t20 =>
 A0 PR (Instr.fieldAt 130 t20 3) fun t21 =>
 C3 PR X (Instr.storeAt 3 t21 t10) <|
 A0 PR (B8 t0) fun t22 =>
 A0 PR (Instr.fieldAt 130 t22 2) fun t23 =>
 C3 PR X (Instr.storeAt 3 t23 (.int .i64 1)) <|
 J1) (
 J1)
theorem A8d : A9 PR 78 := A7 Tryz.func78 (by kernel_rfl) rfl
theorem A9x {X : Nat → Prop} {t0 t1 : Value} {R : Value → WP} {w : World} (h : A2D X t0 t1 R w) : Fn PR X 78 #[t0, t1] w R := C8 (args := [t0, t1]) mixed Tryz.func78 (by kernel_rfl) h
def A3f (X : Nat → Prop) (t0 t1 : Value) (R : Value → WP) : WP :=
 B3 PR X (Instr.alloc 42 true (.tuple #[])) fun t4 =>
 drw <|
 A0 PR (B8 t1) fun t6 =>
 A0 PR (Instr.fieldAt 39 t6 1) fun t7 =>
 A6 PR (Instr.loadAt 33 t7) fun t8 =>
 A0 PR (B8 t0) fun t10 =>
 A0 PR (Instr.fieldAt 130 t10 0) fun t11 =>
 A0 PR (Instr.fieldAt 128 t11 2) fun t12 =>
 A6 PR (Instr.loadAt 3 t12) fun t13 =>
 A0 PR (B8 t0) fun t15 =>
 A0 PR (Instr.fieldAt 130 t15 1) fun t16 =>
 A6 PR (Instr.loadAt 3 t16) fun t17 =>
 B5 PR X 19 [t8, t13, t17] fun t18 =>
 A0 PR (Instr.build 42 #[]) fun t19 =>
 C3 PR X (Instr.storeAt 42 t4 t19) <|
 A6 PR (F5 [.c 42 t4]) R
theorem A9z : A9 PR 79 := A7 Tryz.func79 (by kernel_rfl) rfl
theorem B1L {X : Nat → Prop} {t0 t1 : Value} {R : Value → WP} {w : World} (h : A3f X t0 t1 R w) : Fn PR X 79 #[t0, t1] w R := C8 (args := [t0, t1]) mixed Tryz.func79 (by kernel_rfl) h
def A1A (X : Nat → Prop) (t0 t1 : Value) (R : Value → WP) : WP :=
 B3 PR X (Instr.alloc 42 true (.tuple #[])) fun t4 =>
 drw <|
 A0 PR (B8 t1) fun t8 =>
 A0 PR (Instr.fieldAt 39 t8 1) fun t9 =>
 A6 PR (Instr.loadAt 33 t9) fun t10 =>
 A0 PR (B8 t1) fun t14 =>
 A0 PR (Instr.fieldAt 39 t14 6) fun t15 =>
 A6 PR (Instr.loadAt 3 t15) fun t16 =>
 B5 PR X 35 [t10, (.int .i64 1)] fun t11 =>
 watch PR [(none, (Instr.loadAt 3 t15), t16)] <|
 A0 PR (binOp .sub 3 t11 (.int .i64 1)) fun t12 =>
 A0 PR (B8 t0) fun t17 =>
 A0 PR (Instr.fieldAt 130 t17 4) fun t18 =>
 C3 PR X (Instr.storeAt 3 t18 t12) <|
 A0 PR (B8 t0) fun t19 =>
 A0 PR (Instr.fieldAt 130 t19 5) fun t20 =>
 C3 PR X (Instr.storeAt 3 t20 t16) <|
 A0 PR (Instr.build 42 #[(0, (.bool true))]) fun t21 =>
 C3 PR X (Instr.storeAt 42 t4 t21) <|
 A6 PR (F5 [.c 42 t4]) R
theorem A6T : A9 PR 80 := A7 Tryz.func80 (by kernel_rfl) rfl
theorem A66 {X : Nat → Prop} {t0 t1 : Value} {R : Value → WP} {w : World} (h : A1A X t0 t1 R w) : Fn PR X 80 #[t0, t1] w R := C8 (args := [t0, t1]) mixed Tryz.func80 (by kernel_rfl) h
def A3U (X : Nat → Prop) (t0 t1 : Value) (R : Value → WP) : WP :=
 B3 PR X (Instr.alloc 42 true (.tuple #[])) fun t4 =>
 drw <|
 A0 PR (B8 t1) fun t7 =>
 A0 PR (Instr.fieldAt 39 t7 4) fun t8 =>
 A6 PR (Instr.loadAt 36 t8) fun t9 =>
 A0 PR (B8 t0) fun t11 =>
 A0 PR (Instr.fieldAt 130 t11 0) fun t12 =>
 A0 PR (Instr.fieldAt 128 t12 2) fun t13 =>
 A6 PR (Instr.loadAt 3 t13) fun t14 =>
 A0 PR (Instr.indexAt 36 t9 t14) fun t15 =>
 A6 PR (Instr.loadAt 84 t15) fun t16 =>
 A0 PR (B8 t0) fun t17 =>
 A0 PR (Instr.fieldAt 130 t17 6) fun t18 =>
 C3 PR X (Instr.storeAt 84 t18 t16) <|
 A0 PR (Instr.build 42 #[]) fun t19 =>
 C3 PR X (Instr.storeAt 42 t4 t19) <|
 A6 PR (F5 [.c 42 t4]) R
theorem A9d : A9 PR 81 := A7 Tryz.func81 (by kernel_rfl) rfl
theorem B0W {X : Nat → Prop} {t0 t1 : Value} {R : Value → WP} {w : World} (h : A3U X t0 t1 R w) : Fn PR X 81 #[t0, t1] w R := C8 (args := [t0, t1]) mixed Tryz.func81 (by kernel_rfl) h
def A1q (X : Nat → Prop) (t0 t1 : Value) (R : Value → WP) : WP :=
 B3 PR X (Instr.box 30 t0) fun t2 =>
 B3 PR X (Instr.box 26 t1) fun t3 =>
 B3 PR X (Instr.alloc 42 true (.tuple #[])) fun t4 =>
 drw <|
 A6 PR (Instr.loadAt 26 t3) fun t14 =>
 A0 PR (B8 t14) fun t15 =>
 A0 PR (Instr.fieldAt 39 t15 2) fun t16 =>
 A6 PR (Instr.loadAt 34 t16) fun t17 =>
 A6 PR (Instr.loadAt 30 t2) fun t18 =>
 A0 PR (B8 t18) fun t19 =>
 A0 PR (Instr.fieldAt 130 t19 4) fun t20 =>
 A6 PR (Instr.loadAt 3 t20) fun t21 =>
 B5 PR X 50 [t17, t21] fun t22 =>
 A0 PR (Instr.extract t22 0) fun t23 =>
 A0 PR (Instr.extract t22 1) fun t24 =>
 A0 PR (Instr.makeFunc (.func 132) #[] #[t2, t3]) fun t25 =>
 L8 PR X t25 [] fun t28 =>
 A0 PR (Instr.extract t28 0) fun t29 =>
 A0 PR (Instr.extract t28 1) fun t30 =>
 jn (n := 1) (fun t8 =>
 A6 PR (Instr.loadAt 30 t2) fun t51 =>
 A0 PR (B8 t51) fun t52 =>
 A0 PR (Instr.fieldAt 130 t52 4) fun t53 =>
 A6 PR (Instr.loadAt 3 t53) fun t54 =>
 A0 PR (binOp .geq 3 t54 (.int .i64 0)) fun t55 =>
 gj t55 true (fun J => J t24) fun t57 =>
 gj t55 true (fun J => A0 PR (Op.unary .not t57) J) fun t58 =>
 A0 PR (do pure (if ← asBool t55 then t58 else (.bool false))) fun t59 =>
 A0 PR (Instr.build 42 #[(2, t59)]) fun t60 =>
 B3 PR X (Instr.alloc 42 true (.tuple #[])) fun t10 =>
 C3 PR X (Instr.storeAt 42 t10 t60) <|
 jn (n := 0) (
 A6 PR (Instr.loadAt 42 t10) fun t141 =>
 C3 PR X (Instr.storeAt 42 t4 t141) <|
 A6 PR (F5 [.c 42 t4]) R) fun J1 =>
 A0 PR (Op.unary .not t30) fun t105 =>
 gj t105 true (fun J => J t23) fun t107 =>
 gj t105 true (fun J => A0 PR (binOp .eql 3 t107 (.int .i64 0)) J) fun t108 =>
 A0 PR (do pure (if ← asBool t105 then t108 else (.bool false))) fun t109 =>
 C6 t109 (
 A6 PR (Instr.loadAt 30 t2) fun t110 =>
 A0 PR (Instr.build 55 #[(0, (.int .i64 11))]) fun t111 =>
 A0 PR (B8 t110) fun t112 =>
 A0 PR (Instr.fieldAt 130 t112 7) fun t113 =>
 C3 PR X (Instr.storeAt 55 t113 t111) <|
 J1) (
 A6 PR (Instr.loadAt 30 t2) fun t115 =>
 A0 PR (B8 t115) fun t116 =>
 A0 PR (Instr.fieldAt 130 t116 0) fun t117 =>
 A0 PR (Instr.fieldAt 128 t117 3) fun t118 =>
 A6 PR (Instr.loadAt 4 t118) fun t119 =>
 C6 t119 (
 drw <|
 A6 PR (Instr.loadAt 30 t2) fun t121 =>
 A6 PR (Instr.loadAt 30 t2) fun t122 =>
 A0 PR (B8 t122) fun t123 =>
 A0 PR (Instr.fieldAt 130 t123 6) fun t124 =>
 A6 PR (Instr.loadAt 84 t124) fun t125 =>
 A6 PR (Instr.loadAt 30 t2) fun t126 =>
 A0 PR (B8 t126) fun t127 =>
 A0 PR (Instr.fieldAt 130 t127 0) fun t128 =>
 A0 PR (Instr.fieldAt 128 t128 1) fun t129 =>
 A6 PR (Instr.loadAt 9 t129) fun t130 =>
 B5 PR X 136 [t125, t130] fun t131 =>
 watch PR [(none, (Instr.loadAt 30 t2), t121)] <|
 A0 PR (Instr.extract t131 0) fun t132 =>
 A0 PR (Instr.extract t131 1) fun t133 =>
 A0 PR (B8 t121) fun t134 =>
 A0 PR (Instr.fieldAt 130 t134 6) fun t135 =>
 C3 PR X (Instr.storeAt 84 t135 t132) <|
 A6 PR (Instr.loadAt 30 t2) fun t136 =>
 A0 PR (Instr.build 55 #[(1, t8)]) fun t138 =>
 A0 PR (B8 t136) fun t139 =>
 A0 PR (Instr.fieldAt 130 t139 7) fun t140 =>
 C3 PR X (Instr.storeAt 55 t140 t138) <|
 J1) (
 drw <|
 A6 PR (Instr.loadAt 30 t2) fun t62 =>
 A0 PR (B8 t62) fun t63 =>
 A0 PR (Instr.fieldAt 130 t63 6) fun t64 =>
 A6 PR (Instr.loadAt 84 t64) fun t65 =>
 A6 PR (Instr.loadAt 30 t2) fun t66 =>
 A0 PR (B8 t66) fun t67 =>
 A0 PR (Instr.fieldAt 130 t67 0) fun t68 =>
 A0 PR (Instr.fieldAt 128 t68 1) fun t69 =>
 A6 PR (Instr.loadAt 9 t69) fun t70 =>
 A6 PR (Instr.loadAt 30 t2) fun t72 =>
 A0 PR (B8 t72) fun t73 =>
 A0 PR (Instr.fieldAt 130 t73 5) fun t74 =>
 A6 PR (Instr.loadAt 3 t74) fun t75 =>
 A6 PR (Instr.loadAt 26 t3) fun t76 =>
 A0 PR (B8 t76) fun t77 =>
 A0 PR (Instr.fieldAt 39 t77 0) fun t78 =>
 A0 PR (Instr.fieldAt 23 t78 3) fun t79 =>
 A6 PR (Instr.loadAt 3 t79) fun t80 =>
 A0 PR (binOp .add 3 t75 t80) fun t81 =>
 B5 PR X 137 [t65, t70, t8, t81] fun t82 =>
 A0 PR (Instr.extract t82 0) fun t83 =>
 A0 PR (Instr.extract t82 1) fun t84 =>
 drw <|
 A6 PR (Instr.loadAt 30 t2) fun t85 =>
 A6 PR (Instr.loadAt 30 t2) fun t86 =>
 A0 PR (Op.unary .not t30) fun t90 =>
 A0 PR (Instr.build 55 #[(1, t8), (2, t90)]) fun t91 =>
 A0 PR (B8 t85) fun t92 =>
 A0 PR (Instr.fieldAt 130 t92 6) fun t93 =>
 C3 PR X (Instr.storeAt 84 t93 t83) <|
 watch PR [(none, (Instr.loadAt 30 t2), t86)] <|
 A0 PR (B8 t86) fun t94 =>
 A0 PR (Instr.fieldAt 130 t94 7) fun t95 =>
 C3 PR X (Instr.storeAt 55 t95 t91) <|
 A0 PR (binOp .neq 27 t84 (.int .i64 0)) fun t97 =>
 C6 t97 (
 A6 PR (Instr.loadAt 30 t2) fun t98 =>
 A0 PR (Instr.build 55 #[(0, t84)]) fun t100 =>
 A0 PR (B8 t98) fun t101 =>
 A0 PR (Instr.fieldAt 130 t101 7) fun t102 =>
 C3 PR X (Instr.storeAt 55 t102 t100) <|
 J1) (
 J1)))) fun J2 =>
 A0 PR (Op.unary .not t30) fun t32 =>
 C6 t32 (
 drw <|
 A6 PR (Instr.loadAt 26 t3) fun t34 =>
 A0 PR (B8 t34) fun t35 =>
 A0 PR (Instr.fieldAt 39 t35 2) fun t36 =>
 A6 PR (Instr.loadAt 34 t36) fun t37 =>
 A6 PR (Instr.loadAt 30 t2) fun t38 =>
 A0 PR (B8 t38) fun t39 =>
 A0 PR (Instr.fieldAt 130 t39 4) fun t40 =>
 A6 PR (Instr.loadAt 3 t40) fun t41 =>
 A6 PR (Instr.loadAt 30 t2) fun t42 =>
 A0 PR (B8 t42) fun t43 =>
 A0 PR (Instr.fieldAt 130 t43 0) fun t44 =>
 A0 PR (Instr.fieldAt 128 t44 1) fun t45 =>
 A6 PR (Instr.loadAt 9 t45) fun t46 =>
 B5 PR X 135 [t46] fun t47 =>
 watch PR [(none, (Instr.loadAt 3 t40), t41), (none, (Instr.loadAt 30 t2), t38), (none, (Instr.loadAt 34 t36), t37), (none, (Instr.loadAt 26 t3), t34)] <|
 B5 PR X 48 [t37, t41, t47] fun t48 =>
 A0 PR (Instr.extract t48 0) fun t49 =>
 A0 PR (Instr.extract t48 1) fun t50 =>
 J2 t49) (
 J2 t29)
theorem A7A : A9 PR 82 := A7 Tryz.func82 (by kernel_rfl) rfl
theorem A82 {X : Nat → Prop} {t0 t1 : Value} {R : Value → WP} {w : World} (h : A1q X t0 t1 R w) : Fn PR X 82 #[t0, t1] w R := C8 (args := [t0, t1]) mixed Tryz.func82 (by kernel_rfl) h
def A2T (X : Nat → Prop) (t0 t1 : Value) (R : Value → WP) : WP :=
 B3 PR X (Instr.alloc 42 true (.tuple #[])) fun t4 =>
 drw <|
 A0 PR (B8 t1) fun t6 =>
 A0 PR (Instr.fieldAt 39 t6 4) fun t7 =>
 A6 PR (Instr.loadAt 36 t7) fun t8 =>
 A0 PR (B8 t0) fun t10 =>
 A0 PR (Instr.fieldAt 130 t10 0) fun t11 =>
 A0 PR (Instr.fieldAt 128 t11 2) fun t12 =>
 A6 PR (Instr.loadAt 3 t12) fun t13 =>
 A0 PR (B8 t0) fun t15 =>
 A0 PR (Instr.fieldAt 130 t15 6) fun t16 =>
 A6 PR (Instr.loadAt 84 t16) fun t17 =>
 A0 PR (Instr.indexAt 36 t8 t13) fun t18 =>
 C3 PR X (Instr.storeAt 84 t18 t17) <|
 A0 PR (Instr.build 42 #[]) fun t19 =>
 C3 PR X (Instr.storeAt 42 t4 t19) <|
 A6 PR (F5 [.c 42 t4]) R
theorem A8H : A9 PR 83 := A7 Tryz.func83 (by kernel_rfl) rfl
theorem A9k {X : Nat → Prop} {t0 t1 : Value} {R : Value → WP} {w : World} (h : A2T X t0 t1 R w) : Fn PR X 83 #[t0, t1] w R := C8 (args := [t0, t1]) mixed Tryz.func83 (by kernel_rfl) h
def A1U (X : Nat → Prop) (t0 t1 : Value) (R : Value → WP) : WP :=
 B3 PR X (Instr.alloc 42 true (.tuple #[])) fun t4 =>
 drw <|
 A0 PR (B8 t1) fun t6 =>
 A0 PR (Instr.fieldAt 39 t6 1) fun t7 =>
 A6 PR (Instr.loadAt 33 t7) fun t8 =>
 A0 PR (B8 t0) fun t10 =>
 A0 PR (Instr.fieldAt 130 t10 0) fun t11 =>
 A0 PR (Instr.fieldAt 128 t11 2) fun t12 =>
 A6 PR (Instr.loadAt 3 t12) fun t13 =>
 A0 PR (B8 t0) fun t15 =>
 A0 PR (Instr.fieldAt 130 t15 1) fun t16 =>
 A6 PR (Instr.loadAt 3 t16) fun t17 =>
 B5 PR X 25 [t8, t13, t17] fun t18 =>
 A0 PR (Instr.build 42 #[]) fun t19 =>
 C3 PR X (Instr.storeAt 42 t4 t19) <|
 A6 PR (F5 [.c 42 t4]) R
theorem A7c : A9 PR 84 := A7 Tryz.func84 (by kernel_rfl) rfl
theorem A8s {X : Nat → Prop} {t0 t1 : Value} {R : Value → WP} {w : World} (h : A1U X t0 t1 R w) : Fn PR X 84 #[t0, t1] w R := C8 (args := [t0, t1]) mixed Tryz.func84 (by kernel_rfl) h
def A2L (X : Nat → Prop) (t0 t1 : Value) (R : Value → WP) : WP :=
 B3 PR X (Instr.alloc 42 true (.tuple #[])) fun t4 =>
 drw <|
 A0 PR (B8 t1) fun t6 =>
 A0 PR (Instr.fieldAt 39 t6 1) fun t7 =>
 A6 PR (Instr.loadAt 33 t7) fun t8 =>
 A0 PR (B8 t0) fun t11 =>
 A0 PR (Instr.fieldAt 130 t11 1) fun t12 =>
 A6 PR (Instr.loadAt 3 t12) fun t13 =>
 B5 PR X 57 [t1, t13] fun t14 =>
 watch PR [(none, (Instr.loadAt 33 t7), t8)] <|
 B5 PR X 31 [t8, t14, (.int .i64 0)] fun t15 =>
 A0 PR (Instr.build 42 #[(1, (.bool true))]) fun t16 =>
 C3 PR X (Instr.storeAt 42 t4 t16) <|
 A6 PR (F5 [.c 42 t4]) R
theorem A8G : A9 PR 85 := A7 Tryz.func85 (by kernel_rfl) rfl
theorem A9j {X : Nat → Prop} {t0 t1 : Value} {R : Value → WP} {w : World} (h : A2L X t0 t1 R w) : Fn PR X 85 #[t0, t1] w R := C8 (args := [t0, t1]) mixed Tryz.func85 (by kernel_rfl) h
def A1w (X : Nat → Prop) (t0 t1 : Value) (R : Value → WP) : WP :=
 B3 PR X (Instr.alloc 42 true (.tuple #[])) fun t4 =>
 A0 PR (Instr.build 55 #[(0, t1)]) fun t8 =>
 A0 PR (B8 t0) fun t9 =>
 A0 PR (Instr.fieldAt 130 t9 2) fun t10 =>
 C3 PR X (Instr.storeAt 3 t10 (.int .i64 10)) <|
 A0 PR (B8 t0) fun t11 =>
 A0 PR (Instr.fieldAt 130 t11 7) fun t12 =>
 C3 PR X (Instr.storeAt 55 t12 t8) <|
 A0 PR (Instr.build 42 #[(0, (.bool true)), (1, (.bool true))]) fun t13 =>
 C3 PR X (Instr.storeAt 42 t4 t13) <|
 A6 PR (F5 [.c 42 t4]) R
theorem A08 : A9 PR 130 := A7 Tryz.func130 (by kernel_rfl) rfl
theorem A8f {X : Nat → Prop} {t0 t1 : Value} {R : Value → WP} {w : World} (h : A1w X t0 t1 R w) : Fn PR X 130 #[t0, t1] w R := C8 (args := [t0, t1]) mixed Tryz.func130 (by kernel_rfl) h
def A2V (X : Nat → Prop) (t0 t1 : Value) (R : Value → WP) : WP :=
 A0 PR (B8 t0) fun t9 =>
 A0 PR (Instr.fieldAt 128 t9 0) fun t10 =>
 A6 PR (Instr.loadAt 9 t10) fun t11 =>
 B5 PR X 21 [t11] fun t12 =>
 A0 PR (Instr.extract t12 0) fun t13 =>
 A0 PR (Instr.extract t12 1) fun t14 =>
 B3 PR X (Instr.alloc 47 true (.tuple #[])) fun t5 =>
 C3 PR X (Instr.storeAt 47 t5 t13) <|
 jn (n := 1) (fun t4 =>
 A0 PR (Instr.fieldAt 47 t5 0) fun t19 =>
 A6 PR (Instr.loadAt 45 t19) fun t20 =>
 B5 PR X 166 [t20] fun t21 =>
 A0 PR (Instr.extract t21 0) fun t22 =>
 A0 PR (Instr.extract t21 1) fun t23 =>
 A0 PR (B8 t0) fun t24 =>
 A0 PR (Instr.fieldAt 128 t24 1) fun t25 =>
 C3 PR X (Instr.storeAt 9 t25 t22) <|
 drw <|
 A0 PR (B8 t0) fun t29 =>
 A0 PR (Instr.fieldAt 128 t29 1) fun t30 =>
 A6 PR (Instr.loadAt 9 t30) fun t31 =>
 A6 PR (Instr.loadAt 47 t5) fun t34 =>
 B5 PR X 167 [t31, t1] fun t33 =>
 watch PR [(none, (Instr.loadAt 47 t5), t34)] <|
 B5 PR X 58 [t34] fun t35 =>
 A0 PR (B8 t0) fun t36 =>
 A0 PR (Instr.fieldAt 128 t36 2) fun t37 =>
 C3 PR X (Instr.storeAt 3 t37 t33) <|
 A0 PR (B8 t0) fun t38 =>
 A0 PR (Instr.fieldAt 128 t38 3) fun t39 =>
 C3 PR X (Instr.storeAt 4 t39 t35) <|
 R (.bool true)) fun J1 =>
 A0 PR (binOp .neq 27 t14 (.int .i64 0)) fun t16 =>
 C6 t16 (
 R (.bool false)) (
 J1 (.bool false))
theorem A10 : A9 PR 131 := A7 Tryz.func131 (by kernel_rfl) rfl
theorem A9m {X : Nat → Prop} {t0 t1 : Value} {R : Value → WP} {w : World} (h : A2V X t0 t1 R w) : Fn PR X 131 #[t0, t1] w R := C8 (args := [t0, t1]) mixed Tryz.func131 (by kernel_rfl) h
def A0E (X : Nat → Prop) (t0 t1 : Value) (R : Value → WP) : WP :=
 drw <|
 A6 PR (Instr.loadAt 30 t0) fun t7 =>
 A0 PR (B8 t7) fun t8 =>
 A0 PR (Instr.fieldAt 130 t8 6) fun t9 =>
 A6 PR (Instr.loadAt 84 t9) fun t10 =>
 A6 PR (Instr.loadAt 30 t0) fun t11 =>
 A0 PR (B8 t11) fun t12 =>
 A0 PR (Instr.fieldAt 130 t12 0) fun t13 =>
 A0 PR (Instr.fieldAt 128 t13 1) fun t14 =>
 A6 PR (Instr.loadAt 9 t14) fun t15 =>
 B5 PR X 133 [t10, t15] fun t16 =>
 jn (n := 2) (fun t2 t3 =>
 drw <|
 A6 PR (Instr.loadAt 26 t1) fun t35 =>
 A0 PR (B8 t35) fun t36 =>
 A0 PR (Instr.fieldAt 39 t36 2) fun t37 =>
 A6 PR (Instr.loadAt 34 t37) fun t38 =>
 A6 PR (Instr.loadAt 30 t0) fun t39 =>
 A0 PR (B8 t39) fun t40 =>
 A0 PR (Instr.fieldAt 130 t40 4) fun t41 =>
 A6 PR (Instr.loadAt 3 t41) fun t42 =>
 A6 PR (Instr.loadAt 30 t0) fun t43 =>
 A0 PR (B8 t43) fun t44 =>
 A0 PR (Instr.fieldAt 130 t44 6) fun t45 =>
 A6 PR (Instr.loadAt 84 t45) fun t46 =>
 A0 PR (Instr.indexAt 84 t46 t16) fun t48 =>
 A0 PR (Instr.fieldAt 218 t48 2) fun t49 =>
 A6 PR (Instr.loadAt 3 t49) fun t50 =>
 B5 PR X 134 [t38, t42, t50] fun t51 =>
 A0 PR (Instr.extract t51 0) fun t52 =>
 A0 PR (Instr.extract t51 1) fun t53 =>
 A6 PR (Instr.loadAt 30 t0) fun t54 =>
 A0 PR (B8 t54) fun t55 =>
 A0 PR (Instr.fieldAt 130 t55 6) fun t56 =>
 A6 PR (Instr.loadAt 84 t56) fun t57 =>
 A0 PR (Instr.indexAt 84 t57 t16) fun t59 =>
 A0 PR (Instr.fieldAt 218 t59 2) fun t60 =>
 A6 PR (Instr.loadAt 3 t60) fun t61 =>
 R (.tuple #[t61, t52])) fun J1 =>
 drw <|
 A0 PR (binOp .lss 3 t16 (.int .i64 0)) fun t18 =>
 gj t18 false (fun J => A6 PR (Instr.loadAt 30 t0) J) fun t20 =>
 gj t18 false (fun J => A0 PR (B8 t20) J) fun t21 =>
 gj t18 false (fun J => A0 PR (Instr.fieldAt 130 t21 6) J) fun t22 =>
 gj t18 false (fun J => A6 PR (Instr.loadAt 84 t22) J) fun t23 =>
 gj t18 false (fun J => J t16) fun t24 =>
 gj t18 false (fun J => A0 PR (Instr.indexAt 84 t23 t24) J) fun t25 =>
 gj t18 false (fun J => A0 PR (Instr.fieldAt 218 t25 3) J) fun t26 =>
 gj t18 false (fun J => A6 PR (Instr.loadAt 3 t26) J) fun t27 =>
 gj t18 false (fun J => A6 PR (Instr.loadAt 30 t0) J) fun t28 =>
 gj t18 false (fun J => A0 PR (B8 t28) J) fun t29 =>
 gj t18 false (fun J => A0 PR (Instr.fieldAt 130 t29 5) J) fun t30 =>
 gj t18 false (fun J => A6 PR (Instr.loadAt 3 t30) J) fun t31 =>
 gj t18 false (fun J => A0 PR (binOp .lss 3 t27 t31) J) fun t32 =>
 A0 PR (do pure (if ← asBool t18 then (.bool true) else t32)) fun t33 =>
 C6 t33 (
 R (.tuple #[(.int .i64 0), (.bool false)])) (
 J1 (.int .i64 0) (.bool false))
theorem A4r : A9 PR 132 := A7 Tryz.func132 (by kernel_rfl) rfl
theorem A5C {X : Nat → Prop} {t0 t1 : Value} {R : Value → WP} {w : World} (h : A0E X t0 t1 R w) : Fn PR X 132 #[t0, t1] w R := C8 (args := [t0, t1]) mixed Tryz.func132 (by kernel_rfl) h
end Go.Proofs.YtjobgnabneddjaaGreat
namespace Go.Proofs.YtjobgnabneddjaaGreat
open Go
def A9S (X : Nat → Prop) (t0 t1 t2 t3 : Value) (R : Value → WP) : WP :=
 jn (n := 1) (fun t1_1 =>
 A0 PR (A8 .max #[3, 3] 0 [t2, (.int .i64 0)]) fun t24 =>
 A0 PR (A8 .len #[84] 0 [t0]) fun t26 =>
 A0 PR (A8 .min #[3, 3] 0 [t24, t26]) fun t27 =>
 A0 PR (Instr.makeFunc (.func 230) #[t3] #[]) fun t29 =>
 B3 PR X (Instr.alloc 326 true (.tuple #[])) fun t11 =>
 C3 PR X (Instr.storeAt 326 t11 t29) <|
 B5 PR X 122 [t0] fun t31 =>
 B3 PR X (Instr.alloc 84 true (.tuple #[])) fun t12 =>
 B3 PR X (Instr.alloc 3 true (.tuple #[])) fun t13 =>
 C3 PR X (Instr.storeAt 84 t12 t31) <|
 C3 PR X (Instr.storeAt 3 t13 (.int .i64 0)) <|
 jn (n := 0) (
 jn (n := 0) (
 jn (n := 1) (fun t1_2 =>
 drw <|
 A6 PR (Instr.loadAt 84 t12) fun t71 =>
 A6 PR (Instr.loadAt 3 t13) fun t73 =>
 n0 (R (.tuple #[t71, t1_2, t73]))) fun J1 =>
 A0 PR (A8 .len #[84] 0 [t0]) fun t63 =>
 A0 PR (binOp .gtr 3 t63 (.int .i64 0)) fun t64 =>
 C6 t64 (
 A0 PR (binOp .add 3 t1_1 t27) fun t67 =>
 A0 PR (A8 .len #[84] 0 [t0]) fun t69 =>
 A0 PR (binOp .rem 3 t67 t69) fun t70 =>
 J1 t70) (
 J1 t1_1)) fun J2 =>
 drw <|
 A6 PR (Instr.loadAt 3 t13) fun t50 =>
 A0 PR (binOp .gtr 3 t50 (.int .i64 0)) fun t51 =>
 gj t51 true (fun J => A6 PR (Instr.loadAt 84 t12) J) fun t53 =>
 gj t51 true (fun J => A6 PR (Instr.loadAt 84 t12) J) fun t56 =>
 gj t51 true (fun J => A0 PR (A8 .len #[84] 0 [t56]) J) fun t57 =>
 gj t51 true (fun J => B5 PR X 186 [t53, (.int .i64 2)] J) fun t54 =>
 watch PR [((some (t51, true)), (Instr.loadAt 84 t12), t56)] <|
 gj t51 true (fun J => A0 PR (binOp .mul 3 (.int .i64 2) t54) J) fun t55 =>
 gj t51 true (fun J => A0 PR (binOp .gtr 3 t55 t57) J) fun t58 =>
 A0 PR (do pure (if ← asBool t51 then t58 else (.bool false))) fun t59 =>
 C6 t59 (
 A6 PR (Instr.loadAt 84 t12) fun t60 =>
 B5 PR X 187 [t60] fun t61 =>
 C3 PR X (Instr.storeAt 84 t12 t61) <|
 J2) (
 J2)) fun J3 =>
 A0 PR (A8 .len #[84] 0 [t0]) fun t35 =>
 B5 PR X 231 [t1_1, t27, t35] fun t36 =>
 rng (N := 1) PR X (fun t37 K4 =>
 bgn <|
 drw <|
 A6 PR (Instr.loadAt 326 t11) fun t38 =>
 A6 PR (Instr.loadAt 84 t12) fun t39 =>
 A0 PR (Instr.indexAt 84 t39 t37) fun t41 =>
 A6 PR (Instr.loadAt 218 t41) fun t42 =>
 L8 PR (fun _ => False) t38 [t42] fun t43 =>
 C6 t43 (
 A6 PR (Instr.loadAt 84 t12) fun t44 =>
 A0 PR (Instr.build 218 #[(0, (.int .i64 2))]) fun t46 =>
 A0 PR (Instr.indexAt 84 t44 t37) fun t47 =>
 C3 PR (fun _ => False) (Instr.storeAt 218 t47 t46) <|
 A6 PR (Instr.loadAt 3 t13) fun t48 =>
 A0 PR (binOp .add 3 t48 (.int .i64 1)) fun t49 =>
 C3 PR (fun _ => False) (Instr.storeAt 3 t13 t49) <|
 K4 none) (
 K4 none)) t36 (fun j => match j with | none => (J3) | some (.exit i) => (match Nat.beq i 0 with | true => (J3) | false => (H5)) | some .ret => (n0 (R (.tuple #[(.slice none 0 0), (.int .i64 0), (.int .i64 0)]))) | some _ => H5)) fun J5 =>
 A0 PR (binOp .lss 3 t1 (.int .i64 0)) fun t16 =>
 gj t16 false (fun J => J t1) fun t18 =>
 gj t16 false (fun J => J t0) fun t19 =>
 gj t16 false (fun J => A0 PR (A8 .len #[84] 0 [t19]) J) fun t20 =>
 gj t16 false (fun J => A0 PR (binOp .geq 3 t18 t20) J) fun t21 =>
 A0 PR (do pure (if ← asBool t16 then (.bool true) else t21)) fun t22 =>
 C6 t22 (
 J5 (.int .i64 0)) (
 J5 t1)
theorem B5U : A9 PR 169 := A7 Tryz.func169 (by kernel_rfl) rfl
theorem B6e {X : Nat → Prop} {t0 t1 t2 t3 : Value} {R : Value → WP} {w : World} (h : A9S X t0 t1 t2 t3 R w) : Fn PR X 169 #[t0, t1, t2, t3] w R := C8 (args := [t0, t1, t2, t3]) mixed Tryz.func169 (by kernel_rfl) h
def A2M (X : Nat → Prop) (t0 t1 : Value) (R : Value → WP) : WP :=
 B3 PR X (Instr.box 218 t1) fun t3 =>
 A0 PR (Instr.fieldAt 218 t3 0) fun t5 =>
 A6 PR (Instr.loadAt 3 t5) fun t6 =>
 A0 PR (binOp .eql 3 t6 (.int .i64 1)) fun t7 =>
 gj t7 true (fun J => A0 PR (Instr.fieldAt 218 t3 3) J) fun t9 =>
 gj t7 true (fun J => A6 PR (Instr.loadAt 3 t9) J) fun t10 =>
 gj t7 true (fun J => J t0) fun t11 =>
 gj t7 true (fun J => A0 PR (binOp .lss 3 t10 t11) J) fun t12 =>
 A0 PR (do pure (if ← asBool t7 then t12 else (.bool false))) fun t13 =>
 R t13
theorem A8Q : A9 PR 230 := A7 Tryz.func230 (by kernel_rfl) rfl
theorem A96 {X : Nat → Prop} {t0 t1 : Value} {R : Value → WP} {w : World} (h : A2M X t0 t1 R w) : Fn PR X 230 #[t0, t1] w R := C8 (args := [t0, t1]) mixed Tryz.func230 (by kernel_rfl) h
def A5Y (X : Nat → Prop) (t0 t1 t2 : Value) (R : Value → WP) : WP :=
 B3 PR X (Instr.box 3 t0) fun t3 =>
 B3 PR X (Instr.box 3 t1) fun t4 =>
 B3 PR X (Instr.box 3 t2) fun t5 =>
 A0 PR (Instr.makeFunc (.func 263) #[] #[t4, t3, t5]) fun t7 =>
 R t7
theorem B25 : A9 PR 231 := A7 Tryz.func231 (by kernel_rfl) rfl
theorem B3n {X : Nat → Prop} {t0 t1 t2 : Value} {R : Value → WP} {w : World} (h : A5Y X t0 t1 t2 R w) : Fn PR X 231 #[t0, t1, t2] w R := C8 (args := [t0, t1, t2]) mixed Tryz.func231 (by kernel_rfl) h
def A3K (X : Nat → Prop) (t0 t1 t2 t3 : Value) (R : Value → WP) : WP :=
 A6 PR (Instr.loadAt 3 t1) fun t6 =>
 lp (n := 1) (fun L1 t7 =>
 A0 PR (binOp .lss 3 t7 t6) fun t8 =>
 jn (n := 0) (
 jn (n := 0) (
 A0 PR (binOp .add 3 t7 (.int .i64 1)) fun t18 =>
 L1 t18) fun J2 =>
 A6 PR (Instr.loadAt 3 t2) fun t11 =>
 A0 PR (binOp .add 3 t11 t7) fun t13 =>
 A6 PR (Instr.loadAt 3 t3) fun t14 =>
 A0 PR (binOp .rem 3 t13 t14) fun t15 =>
 L8 PR X t0 [t15] fun t16 =>
 A0 PR (Op.unary .not t16) fun t17 =>
 C6 t17 (
 R (.tuple #[])) (
 J2)) fun J3 =>
 C6 t8 (
 J3) (
 R (.tuple #[]))) (.int .i64 0)
theorem A9y : A9 PR 263 := A7 Tryz.func263 (by kernel_rfl) rfl
theorem B1B {X : Nat → Prop} {t0 t1 t2 t3 : Value} {R : Value → WP} {w : World} (h : A3K X t0 t1 t2 t3 R w) : Fn PR X 263 #[t0, t1, t2, t3] w R := C8 (args := [t0, t1, t2, t3]) mixed Tryz.func263 (by kernel_rfl) h
theorem B1d {X : Nat → Prop} {t0 t1 t2 t3 : Value} {K : Value → WP} {w : World} (h : Fn PR X 263 #[t0, t1, t2, t3] w K) : A1v PR X 263 [t0, t1, t2, t3] K w := ⟨A9y, h⟩
end Go.Proofs.YtjobgnabneddjaaGreat
namespace Go.Proofs.YtjobgnabneddjaaGreat
open Go
def B04 (X : Nat → Prop) (t0 : Value) (R : Value → WP) : WP :=
 A0 PR (A8 .min #[3, 3] 0 [t0, (.int .i64 64)]) fun t4 =>
 A0 PR (A8 .max #[3, 3] 0 [(.int .i64 0), t4]) fun t5 =>
 B3 PR X (Instr.makeSlice 84 t5 t5) fun t6 =>
 R t6
theorem A3k : A9 PR 73 := A7 Tryz.func73 (by kernel_rfl) rfl
theorem B7r {X : Nat → Prop} {t0 : Value} {R : Value → WP} {w : World} (h : B04 X t0 R w) : Fn PR X 73 #[t0] w R := C8 (args := [t0]) mixed Tryz.func73 (by kernel_rfl) h
def A5q (X : Nat → Prop) (t0 t1 : Value) (R : Value → WP) : WP :=
 B3 PR X (Instr.box 9 t1) fun t3 =>
 A0 PR (Instr.makeFunc (.func 185) #[] #[t3]) fun t10 =>
 B5 PR X 184 [t0, t10] fun t11 =>
 A0 PR (Instr.extract t11 0) fun t12 =>
 A0 PR (Instr.extract t11 1) fun t13 =>
 jn (n := 1) (fun t6 =>
 R (.tuple #[t6, t13])) fun J1 =>
 gj t13 true (fun J => J t12) fun t16 =>
 gj t13 true (fun J => B5 PR X 186 [t16, (.int .i64 2)] J) fun t17 =>
 gj t13 true (fun J => A0 PR (binOp .mul 3 (.int .i64 2) t17) J) fun t18 =>
 gj t13 true (fun J => J t12) fun t19 =>
 gj t13 true (fun J => A0 PR (A8 .len #[84] 0 [t19]) J) fun t20 =>
 gj t13 true (fun J => A0 PR (binOp .gtr 3 t18 t20) J) fun t21 =>
 A0 PR (do pure (if ← asBool t13 then t21 else (.bool false))) fun t22 =>
 C6 t22 (
 B5 PR X 187 [t12] fun t24 =>
 J1 t24) (
 J1 t12)
theorem A0w : A9 PR 136 := A7 Tryz.func136 (by kernel_rfl) rfl
theorem B4H {X : Nat → Prop} {t0 t1 : Value} {R : Value → WP} {w : World} (h : A5q X t0 t1 R w) : Fn PR X 136 #[t0, t1] w R := C8 (args := [t0, t1]) mixed Tryz.func136 (by kernel_rfl) h
def B0F (X : Nat → Prop) (t0 t1 t2 t3 : Value) (R : Value → WP) : WP :=
 A0 PR (Instr.build 218 #[(0, (.int .i64 1)), (1, t1), (2, t2), (3, t3)]) fun t16 =>
 B3 PR X (Instr.alloc 218 true (.tuple #[])) fun t10 =>
 C3 PR X (Instr.storeAt 218 t10 t16) <|
 A0 PR (Instr.makeFunc (.func 188) #[] #[t10]) fun t19 =>
 B5 PR X 184 [t0, t19] fun t20 =>
 A0 PR (Instr.extract t20 0) fun t21 =>
 A0 PR (Instr.extract t20 1) fun t22 =>
 jn (n := 2) (fun t8 t9 =>
 R (.tuple #[t21, (.int .i64 0)])) fun J1 =>
 A0 PR (Op.unary .not t22) fun t24 =>
 C6 t24 (
 R (.tuple #[t21, (.int .i64 12)])) (
 J1 (.slice none 0 0) (.int .i64 0))
theorem A3q : A9 PR 137 := A7 Tryz.func137 (by kernel_rfl) rfl
theorem B8k {X : Nat → Prop} {t0 t1 t2 t3 : Value} {R : Value → WP} {w : World} (h : B0F X t0 t1 t2 t3 R w) : Fn PR X 137 #[t0, t1, t2, t3] w R := C8 (args := [t0, t1, t2, t3]) mixed Tryz.func137 (by kernel_rfl) h
def A4T (X : Nat → Prop) (t0 t1 : Value) (R : Value → WP) : WP :=
 B5 PR X 122 [t0] fun t8 =>
 jn (n := 2) (fun t4 t5 =>
 R (.tuple #[t8, (.bool true)])) fun J1 =>
 L8 PR X t1 [t8] fun t11 =>
 A0 PR (Op.unary .not t11) fun t12 =>
 C6 t12 (
 R (.tuple #[t0, (.bool false)])) (
 J1 (.slice none 0 0) (.bool false))
theorem A3z : A9 PR 184 := A7 Tryz.func184 (by kernel_rfl) rfl
theorem B2n {X : Nat → Prop} {t0 t1 : Value} {R : Value → WP} {w : World} (h : A4T X t0 t1 R w) : Fn PR X 184 #[t0, t1] w R := C8 (args := [t0, t1]) mixed Tryz.func184 (by kernel_rfl) h
def A3Y (X : Nat → Prop) (t0 t1 : Value) (R : Value → WP) : WP :=
 A6 PR (Instr.loadAt 9 t1) fun t6 =>
 B5 PR X 133 [t0, t6] fun t7 =>
 jn (n := 1) (fun t3 =>
 A0 PR (Instr.build 218 #[(0, (.int .i64 2))]) fun t12 =>
 A0 PR (Instr.indexAt 324 t0 t7) fun t13 =>
 C3 PR X (Instr.storeAt 218 t13 t12) <|
 R (.bool true)) fun J1 =>
 A0 PR (binOp .lss 3 t7 (.int .i64 0)) fun t9 =>
 C6 t9 (
 R (.bool false)) (
 J1 (.bool false))
theorem A9s : A9 PR 185 := A7 Tryz.func185 (by kernel_rfl) rfl
theorem B0x {X : Nat → Prop} {t0 t1 : Value} {R : Value → WP} {w : World} (h : A3Y X t0 t1 R w) : Fn PR X 185 #[t0, t1] w R := C8 (args := [t0, t1]) mixed Tryz.func185 (by kernel_rfl) h
def A9C (X : Nat → Prop) (t0 : Value) (R : Value → WP) : WP :=
 A0 PR (A8 .len #[84] 0 [t0]) fun t7 =>
 B5 PR X 73 [t7] fun t8 =>
 B3 PR X (Instr.alloc 324 true (.tuple #[])) fun t3 =>
 C3 PR X (Instr.storeAt 324 t3 t8) <|
 jn (n := 0) (
 A6 PR (Instr.loadAt 324 t3) fun t16 =>
 n0 (R t16)) fun J1 =>
 B5 PR X 200 [t0] fun t10 =>
 rng (N := 2) PR X (fun t11 t12 K2 =>
 B3 PR (fun _ => False) (Instr.alloc 218 true (.tuple #[])) fun t5 =>
 C3 PR (fun _ => False) (Instr.storeAt 218 t5 t12) <|
 bgn <|
 A6 PR (Instr.loadAt 324 t3) fun t13 =>
 A6 PR (Instr.loadAt 218 t5) fun t14 =>
 B5 PR (fun _ => False) 189 [t13, t14] fun t15 =>
 K2 none) t10 (fun j => match j with | none => (J1) | some (.exit i) => (match Nat.beq i 0 with | true => (J1) | false => (H5)) | some .ret => (n0 (R (.slice none 0 0))) | some _ => H5)
theorem A7v : A9 PR 187 := A7 Tryz.func187 (by kernel_rfl) rfl
theorem B6c {X : Nat → Prop} {t0 : Value} {R : Value → WP} {w : World} (h : A9C X t0 R w) : Fn PR X 187 #[t0] w R := C8 (args := [t0]) mixed Tryz.func187 (by kernel_rfl) h
def A5W (X : Nat → Prop) (t0 t1 : Value) (R : Value → WP) : WP :=
 A6 PR (Instr.loadAt 218 t1) fun t5 =>
 B5 PR X 189 [t0, t5] fun t6 =>
 R t6
theorem B2r : A9 PR 188 := A7 Tryz.func188 (by kernel_rfl) rfl
theorem B3w {X : Nat → Prop} {t0 t1 : Value} {R : Value → WP} {w : World} (h : A5W X t0 t1 R w) : Fn PR X 188 #[t0, t1] w R := C8 (args := [t0, t1]) mixed Tryz.func188 (by kernel_rfl) h
def A3Z (X : Nat → Prop) (t0 t1 : Value) (R : Value → WP) : WP :=
 B3 PR X (Instr.box 218 t1) fun t3 =>
 A0 PR (Instr.fieldAt 218 t3 1) fun t7 =>
 A6 PR (Instr.loadAt 9 t7) fun t8 =>
 B5 PR X 133 [t0, t8] fun t9 =>
 jn (n := 1) (fun t5 =>
 jn (n := 1) (fun t4 =>
 A6 PR (Instr.loadAt 218 t3) fun t20 =>
 A0 PR (Instr.indexAt 324 t0 t5) fun t21 =>
 C3 PR X (Instr.storeAt 218 t21 t20) <|
 R (.bool true)) fun J1 =>
 A0 PR (binOp .lss 3 t5 (.int .i64 0)) fun t17 =>
 C6 t17 (
 R (.bool false)) (
 J1 (.bool false))) fun J2 =>
 A0 PR (binOp .lss 3 t9 (.int .i64 0)) fun t11 =>
 C6 t11 (
 A0 PR (Instr.fieldAt 218 t3 1) fun t13 =>
 A6 PR (Instr.loadAt 9 t13) fun t14 =>
 B5 PR X 242 [t0, t14] fun t15 =>
 J2 t15) (
 J2 t9)
theorem A2G : A9 PR 189 := A7 Tryz.func189 (by kernel_rfl) rfl
theorem B1a {X : Nat → Prop} {t0 t1 : Value} {R : Value → WP} {w : World} (h : A3Z X t0 t1 R w) : Fn PR X 189 #[t0, t1] w R := C8 (args := [t0, t1]) mixed Tryz.func189 (by kernel_rfl) h
def A2W (X : Nat → Prop) (t0 : Value) (R : Value → WP) : WP :=
 B3 PR X (Instr.box 324 t0) fun t1 =>
 A0 PR (Instr.makeFunc (.func 244) #[] #[t1]) fun t3 =>
 R t3
theorem A83 : A9 PR 200 := A7 Tryz.func200 (by kernel_rfl) rfl
theorem A9r {X : Nat → Prop} {t0 : Value} {R : Value → WP} {w : World} (h : A2W X t0 R w) : Fn PR X 200 #[t0] w R := C8 (args := [t0]) mixed Tryz.func200 (by kernel_rfl) h
def A0d (X : Nat → Prop) (t0 t1 : Value) (R : Value → WP) : WP :=
 A6 PR (Instr.loadAt 324 t1) fun t5 =>
 A0 PR (A8 .len #[324] 0 [t5]) fun t6 =>
 lp (n := 1) (fun L1 t7 =>
 A0 PR (binOp .lss 3 t7 t6) fun t8 =>
 jn (n := 0) (
 jn (n := 0) (
 A0 PR (binOp .add 3 t7 (.int .i64 1)) fun t22 =>
 L1 t22) fun J2 =>
 A0 PR (Instr.indexAt 324 t5 t7) fun t10 =>
 A6 PR (Instr.loadAt 218 t10) fun t11 =>
 B3 PR X (Instr.alloc 218 true (.tuple #[])) fun t4 =>
 C3 PR X (Instr.storeAt 218 t4 t11) <|
 A0 PR (Instr.fieldAt 218 t4 0) fun t12 =>
 A6 PR (Instr.loadAt 3 t12) fun t13 =>
 A0 PR (binOp .eql 3 t13 (.int .i64 1)) fun t14 =>
 gj t14 true (fun J => J t0) fun t16 =>
 gj t14 true (fun J => J t7) fun t17 =>
 gj t14 true (fun J => A6 PR (Instr.loadAt 218 t4) J) fun t18 =>
 gj t14 true (fun J => L8 PR X t16 [t17, t18] J) fun t19 =>
 gj t14 true (fun J => A0 PR (Op.unary .not t19) J) fun t20 =>
 A0 PR (do pure (if ← asBool t14 then t20 else (.bool false))) fun t21 =>
 C6 t21 (
 R (.tuple #[])) (
 J2)) fun J3 =>
 C6 t8 (
 J3) (
 R (.tuple #[]))) (.int .i64 0)
theorem A5T : A9 PR 244 := A7 Tryz.func244 (by kernel_rfl) rfl
theorem A6b {X : Nat → Prop} {t0 t1 : Value} {R : Value → WP} {w : World} (h : A0d X t0 t1 R w) : Fn PR X 244 #[t0, t1] w R := C8 (args := [t0, t1]) mixed Tryz.func244 (by kernel_rfl) h
theorem A6Y {X : Nat → Prop} {t0 t1 : Value} {K : Value → WP} {w : World} (h : Fn PR X 244 #[t0, t1] w K) : A1v PR X 244 [t0, t1] K w := ⟨A5T, h⟩
end Go.Proofs.YtjobgnabneddjaaGreat
namespace Go.Proofs.YtjobgnabneddjaaGreat
open Go
theorem B1Y (l : List EnV) : (l.flatMap F6).all plain = true := by
 rw [List.all_eq_true]; intro v hv; rw [List.mem_flatMap] at hv
 obtain ⟨x, _, hx⟩ := hv
 simp only [F6, List.mem_cons, List.not_mem_nil, or_false] at hx
 rcases hx with rfl | rfl | rfl | rfl <;> rfl
theorem A1J {α : Type} {f : α → List Value} {k : Nat} (hk : ∀ x, (f x).length = k) (l : List α) (i : Nat) (y : α) (hi : i < l.length) : U4 (l.flatMap f) (i * k) (f y) = (l.set i y).flatMap f := by
 have e1 := C3a hk l i
 have e2 := B01 hk l (i + 1)
 rw [Nat.add_mul, Nat.one_mul] at e2
 rw [U4, hk, e1, e2, List.set_eq_take_append_cons_drop, if_pos hi, List.flatMap_append, List.flatMap_cons, List.append_assoc]
abbrev G7 (v : Value) (l : List EnV) : Res := .own 218 4 v l.length (l.flatMap F6)
def newE (n : Nat) : List EnV := List.replicate (min n 64) noE
theorem C6x (n : Nat) : (Builtin.zeroCells (Value.agg #[.int .i64 0, .string H4, .int .i64 0, .int .i64 0]).cells n).toList = (List.replicate n noE).flatMap F6 := by
 have h4 : (Value.agg #[.int .i64 0, .string H4, .int .i64 0, .int .i64 0]).cells.size = 4 := rfl
 have hz : (Builtin.zeroCells (Value.agg #[.int .i64 0, .string H4, .int .i64 0, .int .i64 0]).cells n).toList.length = n * 4 := by simp [size_zeroCells]
 have hr : ((List.replicate n noE).flatMap F6).length = n * 4 := by rw [L4 (k := 4) fun _ => rfl]; simp
 apply List.ext_getElem (by rw [hz, hr])
 intro i h1 h2
 rw [hz] at h1
 have hf := P6 (f := F6) (k := 4) (fun _ => rfl) (List.replicate n noE) (i / 4) (i % 4) (by omega)
 rw [show i / 4 * 4 + i % 4 = i by omega, List.getElem?_eq_getElem h2, List.getElem?_replicate_of_lt (by omega)] at hf
 have e : (Builtin.zeroCells (Value.agg #[.int .i64 0, .string H4, .int .i64 0, .int .i64 0]).cells n).toList[i]'(by rw [hz]; exact h1) = (Value.agg #[.int .i64 0, .string H4, .int .i64 0, .int .i64 0]).cells[i % 4]! := by
  simp [Builtin.zeroCells]
 rw [e]
 have h3 : i % 4 = 0 ∨ i % 4 = 1 ∨ i % 4 = 2 ∨ i % 4 = 3 := by omega
 rcases h3 with h3 | h3 | h3 | h3 <;> (rw [h3] at hf ⊢; simp [F6, noE] at hf ⊢; exact hf.symm)
theorem A6Q (w : World) (n : Nat) (hn : n ≤ 1000000) : Fn PR C0 73 #[.int .i64 (n : Int)] w (Rn [] w (fun r u => u = r) fun r => [G7 r (newE n)]) := by
 refine B7r (TW.go (κ := false) (S := []) ?_)
 unfold B04
 have e : max 0 (min (n : Int) 64) = ((min n 64 : Nat) : Int) := by omega
 (have zz:=trivial;repeat((first|clear zz|with_reducible first|refine A3 ?_|refine A5 fun _=>?_|refine A4 fun _=>?_);try simp(disch:=first|omega|assumption|((repeat(first|exact A1|exact uH|apply A2|apply uT));first|done|fail)|(simp;first|done|omega|fail))[e]))
 refine u6 (by omega) (by omega) (by omega) (by omega) fun bs => ?_
 rw [Int.toNat_natCast]
 refine m7 _ rfl ?_
 simp only [G7, newE, List.length_replicate, ← C6x]
 exact List.Sublist.refl _
def K3 (l : List EnV) (x : EnV) : Option (List EnV) :=
 let at0 := F2 l x.key
 let at1 := if at0 < 0 then d7 l x.key else at0
 if at1 < 0 then none else some (l.set at1.toNat x)
theorem C4S {key : ByteArray} {n : Nat} : ∀ L : List (Nat × EnV), (∀ p ∈ L, p.1 < n) → 0 ≤ M4 key L → (M4 key L).toNat < n := by
 intro L
 induction L with
 | nil => intro _ h; simp [M4] at h
 | cons p L ih =>
  intro h h0
  simp only [M4] at h0 ⊢
  split
  ·rw [if_pos ‹_›] at h0; simp at h0
  ·rw [if_neg ‹_›] at h0
   split
   ·simpa using h p (by simp)
   ·rw [if_neg ‹_›] at h0; exact ih (fun q hq => h q (by simp [hq])) h0
theorem C5B {n : Nat} : ∀ L : List (Nat × EnV), (∀ p ∈ L, p.1 < n) → 0 ≤ Q8 L → (Q8 L).toNat < n := by
 intro L
 induction L with
 | nil => intro _ h; simp [Q8] at h
 | cons p L ih =>
  intro h h0
  simp only [Q8] at h0 ⊢
  split
  ·rw [if_pos ‹_›] at h0; exact ih (fun q hq => h q (by simp [hq])) h0
  ·simpa using h p (by simp)
theorem B9w (l : List EnV) (key : ByteArray) : ∀ p ∈ W5 l key, p.1 < l.length := by
 intro p hp
 obtain ⟨i, hi, rfl⟩ := List.mem_map.1 hp
 exact Nat.mod_lt _ (by simp at hi; omega)
theorem A2a {l : List EnV} {key : ByteArray} (h : 0 ≤ F2 l key) : (F2 l key).toNat < l.length := C4S _ (B9w l key) h
theorem B20 {l : List EnV} {key : ByteArray} (h : 0 ≤ d7 l key) : (d7 l key).toNat < l.length := by
 unfold d7 at h ⊢
 split
 ·rw [if_pos ‹_›] at h; simp at h
 ·rw [if_neg ‹_›] at h; exact C5B _ (B9w l key) h
theorem A8T {l m : List EnV} {x : EnV} (h : K3 l x = some m) : m.length = l.length := by
 unfold K3 at h
 simp only at h
 by_cases c : (if F2 l x.key < 0 then d7 l x.key else F2 l x.key) < 0
 ·rw [if_pos c] at h; cases h
 ·rw [if_neg c] at h; injection h with h; rw [← h]; simp
theorem C0G (w : World) (v : Value) (l : List EnV) (x : EnV) (hk : x.key.size < 2 ^ 60) (hn : l.length ≤ 1000000) (hw : LW false (B6 [G7 v l]) w [G7 v l] w) :
  Fn PR C0 189 #[v, .agg #[.int .i64 x.st, .string x.key, .int .i64 x.bk, .int .i64 x.dl]] w (Rn (B6 [G7 v l]) w (fun (_ : Unit) u => u = .bool (K3 l x).isSome) fun _ => [G7 v ((K3 l x).getD l)]) := by
 refine B1a (TW.goH (κ := false) (S := B6 [G7 v l]) ?_ hw)
 unfold A3Z
 (have zz:=trivial;repeat((first|clear zz|with_reducible first|refine A3 ?_|refine A5 fun _=>?_|refine A4 fun _=>?_);try simp(disch:=first|omega|assumption|((repeat(first|exact A1|exact uH|apply A2|apply uT));first|done|fail)|(simp;first|done|omega|fail))[]))
 rename_i bx
 refine C4 m6 (fun w' hw' => v8 w' v l x.key hk hn (N9.own (by (repeat constructor)) w' hw')) ?_
 have fin : ∀ r : Int, 0 ≤ r → r.toNat < l.length → K3 l x = some (l.set r.toNat x) → TW false (B6 [G7 v l]) w [.pt bx (.cells #[.int .i64 x.st, .string x.key, .int .i64 x.bk, .int .i64 x.dl] 218), G7 v l]
   (A0 PR (Instr.indexAt 324 v (.int .i64 r)) fun t21 => C3 PR C0 (Instr.storeAt 218 t21 (.agg #[.int .i64 x.st, .string x.key, .int .i64 x.bk, .int .i64 x.dl])) <|
    Rn (B6 [G7 v l]) w (fun (_ : Unit) u => u = .bool (K3 l x).isSome) (fun _ => [G7 v ((K3 l x).getD l)]) (.bool true)) := by
  intro r h0 hi hp
  obtain ⟨i, rfl⟩ : ∃ i : Nat, r = i := ⟨r.toNat, by omega⟩
  rw [Int.toNat_natCast] at hi hp
  refine g4 (e := 218) (k := 4) (v := v) (q := l.length) (xs := l.flatMap F6) (by (repeat constructor)) (by omega) ?_
  rintro g c rfl
  (have zz:=trivial;repeat((first|clear zz|with_reducible first|refine A3 ?_|refine A5 fun _=>?_|refine A4 fun _=>?_);try simp(disch:=first|omega|assumption|((repeat(first|exact A1|exact uH|apply A2|apply uT));first|done|fail)|(simp;first|done|omega|fail))[hi]))
  refine N3 (by (repeat constructor)) (by simp) (by rw [y6]; omega) (by simp) ?_
  refine B1 () (by simp [hp]) ?_
  have := A1J (f := F6) (k := 4) (fun _ => rfl) l i x hi
  simp only [hp, Option.getD_some, G7, List.length_set, ← this]
  (repeat' constructor)
 by_cases c1 : F2 l x.key < 0
 ·(have zz:=trivial;repeat((first|clear zz|with_reducible first|refine A3 ?_|refine A5 fun _=>?_|refine A4 fun _=>?_);try simp(disch:=first|omega|assumption|((repeat(first|exact A1|exact uH|apply A2|apply uT));first|done|fail)|(simp;first|done|omega|fail))[c1]))
  refine C4 B4w (fun w' hw' => B7a w' v l x.key hk hn (N9.own (by (repeat constructor)) w' hw')) ?_
  by_cases c2 : d7 l x.key < 0
  ·have hp : K3 l x = none := by simp [K3, c1, c2]
   (have zz:=trivial;repeat((first|clear zz|with_reducible first|refine A3 ?_|refine A5 fun _=>?_|refine A4 fun _=>?_);try simp(disch:=first|omega|assumption|((repeat(first|exact A1|exact uH|apply A2|apply uT));first|done|fail)|(simp;first|done|omega|fail))[c2]))
   exact B1 () (by simp [hp]) (by simp only [hp, Option.getD_none]; (repeat' constructor))
  ·have hp : K3 l x = some (l.set (d7 l x.key).toNat x) := by simp [K3, c1, c2]
   have := fin _ (by omega) (B20 (by omega)) hp
   simp(disch:=first|omega|assumption|((repeat(first|exact A1|exact uH|apply A2|apply uT));first|done|fail)|(simp;first|done|omega|fail))[c2]
   exact this
 ·have hp : K3 l x = some (l.set (F2 l x.key).toNat x) := by simp [K3, c1]
  have := fin _ (by omega) (A2a (by omega)) hp
  simp(disch:=first|omega|assumption|((repeat(first|exact A1|exact uH|apply A2|apply uT));first|done|fail)|(simp;first|done|omega|fail))[c1]
  exact this
def j5 : Nat → List EnV → List (Nat × EnV)
 | _, [] => []
 | i, x :: r => if x.st = 1 then (i, x) :: j5 (i + 1) r else j5 (i + 1) r
def P7 (l : List EnV) : List (Nat × EnV) := j5 0 l
theorem B6B (i : Nat) (l m : List EnV) : j5 i (l ++ m) = j5 i l ++ j5 (i + l.length) m := by
 induction l generalizing i with
 | nil => simp [j5]
 | cons x l ih =>
  simp only [List.cons_append, j5, ih, List.length_cons]
  split
  ·simp only [List.cons_append]; congr 3; omega
  ·congr 2; omega
theorem B7Q {l : List EnV} {i : Nat} {x : EnV} (hx : l[i]? = some x) : P7 (l.take (i + 1)) = P7 (l.take i) ++ (if x.st = 1 then [(i, x)] else []) := by
 obtain ⟨hi, _⟩ := List.getElem?_eq_some_iff.1 hx
 rw [List.take_add_one, hx, P7, B6B, Option.toList_some, List.length_take, Nat.zero_add, Nat.min_eq_left (by omega)]
 simp only [j5, P7]
theorem C4P {l : List EnV} {i : Nat} {x : EnV} (hx : l[i]? = some x) (h : x.st = 1) : (P7 l)[(P7 (l.take i)).length]? = some (i, x) := by
 have e : l = l.take (i + 1) ++ l.drop (i + 1) := (List.take_append_drop _ _).symm
 conv => lhs; arg 1; rw [e]
 rw [P7, B6B, ← P7, B7Q hx, if_pos h, List.append_assoc, List.getElem?_append_right (by omega)]
 simp
abbrev C6c (b : Nat) : Value := .func (.func 244) #[] #[.pointer (some ⟨b, 0, none⟩)]
theorem C7c (w : World) (v : Value) (hv : ∃ a n c, v = .slice a n c) : Fn PR C0 200 #[v] w (Rn [] w (fun b u => u = C6c b) fun b => [.pt b (.cells #[v] 324)]) := by
 obtain ⟨a, n, c, rfl⟩ := hv
 refine A9r (TW.go (κ := false) (S := []) ?_)
 unfold A2W
 (have zz:=trivial;repeat((first|clear zz|with_reducible first|refine A3 ?_|refine A5 fun _=>?_|refine A4 fun _=>?_);try simp(disch:=first|omega|assumption|((repeat(first|exact A1|exact uH|apply A2|apply uT));first|done|fail)|(simp;first|done|omega|fail))[]))
 rename_i b
 exact m7 b rfl (by simp)
theorem C7H (b : Nat) (v : Value) (l : List EnV) (hn : l.length ≤ 1000000) : A5y (C6c b) [.pt b (.cells #[v] 324)] (RqS v l.length (l.flatMap F6)) ((P7 l).map A8E) := by
 refine ⟨_, _, _, rfl, fun y J E hJ hE stJ stE hy w0 h0 => ?_⟩
 obtain ⟨a, c, hv, hr⟩ := (hJ _ _ _ h0).2
 subst hv
 refine A6Y (A6b (TW.at (κ := true) ?_ (hJ _ _ _ h0).1))
 unfold A0d
 (have zz:=trivial;repeat((first|clear zz|with_reducible first|refine A3 ?_|refine A5 fun _=>?_|refine A4 fun _=>?_);try simp(disch:=first|omega|assumption|((repeat(first|exact A1|exact uH|apply A2|apply uT));first|done|fail)|(simp;first|done|omega|fail))[]))
 refine A4g l.length (fun i => (P7 (l.take i)).length) (fun _ => _) hJ stJ (by simpa [P7, j5] using h0) fun i a' hi hJi hRi L hL => ?_
 by_cases hlt : i < l.length
 ·obtain ⟨_, _, hv, hr⟩ := hRi
  obtain ⟨b', o, hb, hrow, hnb⟩ := hr (by omega)
  cases hv
  subst hb
  obtain ⟨x, hx⟩ : ∃ x, l[i]? = some x := ⟨_, List.getElem?_eq_getElem hlt⟩
  have h1 := hrow.at (f := F6) (k := 4) (fun _ => rfl) hx
  rw [F6] at h1
  have hat := B7Q hx
  by_cases c1 : x.st = 1
  ·have hg := C4P hx c1
   rw [if_pos c1] at hat
   obtain ⟨hgi, hg'⟩ := List.getElem?_eq_some_iff.1 hg
   have hlen : (P7 (l.take (i + 1))).length = (P7 (l.take i)).length + 1 := by rw [hat]; simp
   rw [hlen] at hL
   (have zz:=trivial;repeat((first|clear zz|with_reducible first|refine A3 ?_|refine A5 fun _=>?_|refine A4 fun _=>?_);try simp(disch:=first|omega|assumption|((repeat(first|exact A1|exact uH|apply A2|apply uT));first|done|fail)|(simp;first|done|omega|fail))[hlt, h1, c1]))
   refine A8D hJ hE stJ hy hJi (by simpa using hgi) (by rw [List.getElem_map, hg', A8E, c1]) (fun w3 h => ?_) (fun w3 h => ?_)
   ·(have zz:=trivial;repeat((first|clear zz|with_reducible first|refine A3 ?_|refine A5 fun _=>?_|refine A4 fun _=>?_);try simp(disch:=first|omega|assumption|((repeat(first|exact A1|exact uH|apply A2|apply uT));first|done|fail)|(simp;first|done|omega|fail))[]))
    exact fun w' hw' => hL hlt w' (stJ _ _ _ _ _ h (hw'.sub (by simp)))
   ·(have zz:=trivial;repeat((first|clear zz|with_reducible first|refine A3 ?_|refine A5 fun _=>?_|refine A4 fun _=>?_);try simp(disch:=first|omega|assumption|((repeat(first|exact A1|exact uH|apply A2|apply uT));first|done|fail)|(simp;first|done|omega|fail))[]))
    exact A4z stE h
  ·rw [if_neg c1, List.append_nil] at hat
   rw [hat] at hL
   (have zz:=trivial;repeat((first|clear zz|with_reducible first|refine A3 ?_|refine A5 fun _=>?_|refine A4 fun _=>?_);try simp(disch:=first|omega|assumption|((repeat(first|exact A1|exact uH|apply A2|apply uT));first|done|fail)|(simp;first|done|omega|fail))[hlt, h1, c1]))
   exact fun w' hw' => hL hlt w' (stJ _ _ _ _ _ hJi (hw'.sub (by simp)))
 ·obtain rfl : i = l.length := by omega
  rw [List.take_length] at hJi
  (have zz:=trivial;repeat((first|clear zz|with_reducible first|refine A3 ?_|refine A5 fun _=>?_|refine A4 fun _=>?_);try simp(disch:=first|omega|assumption|((repeat(first|exact A1|exact uH|apply A2|apply uT));first|done|fail)|(simp;first|done|omega|fail))[]))
  exact A4v stJ (by simpa using hJi)
end Go.Proofs.YtjobgnabneddjaaGreat
namespace Go.Proofs.YtjobgnabneddjaaGreat
open Go
theorem C0s {w : World} {b : Nat} {T : TypeId} {l : List Value} (h : bl w b = some (.cells l.toArray T (0, 0))) : n8 w b 0 l.length = some l := A7Y fun i hi => by
 rw [F3 h]; simp
theorem B4F (w : World) (v : Value) (l : List EnV) (f : FuncId) (cap : List Value) (o : Option (List EnV)) (ho : ∀ m, o = some m → m.length = l.length) (hn : l.length ≤ 1000000) (hv : F9 w v l.length (l.flatMap F6)) (he : A9 PR f)
  (hf : ∀ w' r, KS false [] w w' → (∀ b ∈ B6 [G7 r l], sz w ≤ b) → LW false (B6 [G7 r l]) w' [G7 r l] w' → Fn PR C0 f (r :: cap).toArray w' (Rn (B6 [G7 r l]) w' (fun (_ : Unit) u => u = .bool o.isSome) fun _ => [G7 r (o.getD l)])) :
  Fn PR C0 184 #[v, .func (.func f) #[] cap.toArray] w (Rn [] w (fun r u => u = .tuple #[if o.isSome then r else v, .bool o.isSome]) fun r => [G7 r (o.getD l)]) := by
 refine B2n (TW.go (κ := false) (S := []) ?_)
 unfold A4T
 refine G4 P4 (fun w' hw' => B1K w' v l.length (l.flatMap F6) hn (y6 l) (B1Y l) (hv.ks hw'.ks (by simp))) ?_
 rintro _ r rfl
 (have zz:=trivial;repeat((first|clear zz|with_reducible first|refine A3 ?_|refine A5 fun _=>?_|refine A4 fun _=>?_);try simp(disch:=first|omega|assumption|((repeat(first|exact A1|exact uH|apply A2|apply uT));first|done|fail)|(simp;first|done|omega|fail))[]))
 refine D0 (Hc := [G7 r l]) he (fun w' hw hs => hf w' r hw.ks (fun b hb => by
  obtain ⟨s, hs1, hb1⟩ := M7.1 hb
  rcases (hw.own s (List.mem_append_left _ hs1) b hb1).1 with h | h
  ·simp at h
  ·exact h) hs) (by (repeat' constructor)) ?_
 rintro _ _ rfl
 cases o with
 | none =>
  (have zz:=trivial;repeat((first|clear zz|with_reducible first|refine A3 ?_|refine A5 fun _=>?_|refine A4 fun _=>?_);try simp(disch:=first|omega|assumption|((repeat(first|exact A1|exact uH|apply A2|apply uT));first|done|fail)|(simp;first|done|omega|fail))[]))
  exact B1 r rfl (by (repeat' constructor))
 | some m =>
  (have zz:=trivial;repeat((first|clear zz|with_reducible first|refine A3 ?_|refine A5 fun _=>?_|refine A4 fun _=>?_);try simp(disch:=first|omega|assumption|((repeat(first|exact A1|exact uH|apply A2|apply uT));first|done|fail)|(simp;first|done|omega|fail))[]))
  exact B1 r rfl (by (repeat' constructor))
theorem C44 (w : World) (v : Value) (l : List EnV) (x : EnV) (b : Nat) (hk : x.key.size < 2 ^ 60) (hn : l.length ≤ 1000000) (hx : n8 w b 0 4 = some (F6 x)) (hb : b ∉ B6 [G7 v l]) (hw : LW false (B6 [G7 v l]) w [G7 v l] w) :
  Fn PR C0 188 #[v, .pointer (some ⟨b, 0, none⟩)] w (Rn (B6 [G7 v l]) w (fun (_ : Unit) u => u = .bool (K3 l x).isSome) fun _ => [G7 v ((K3 l x).getD l)]) := by
 refine B3w (TW.goH (κ := false) (S := B6 [G7 v l]) ?_ hw)
 unfold A5W
 rw [F6] at hx
 (have zz:=trivial;repeat((first|clear zz|with_reducible first|refine A3 ?_|refine A5 fun _=>?_|refine A4 fun _=>?_);try simp(disch:=first|omega|assumption|((repeat(first|exact A1|exact uH|apply A2|apply uT));first|done|fail)|(simp;first|done|omega|fail))[hx]))
 refine D0 (Hc := [G7 v l]) A2G (fun w' hw hs => C0G w' v l x hk hn hs) (by (repeat' constructor)) ?_
 rintro _ _ rfl
 exact B1 () rfl (by (repeat' constructor))
theorem A6U (w : World) (v : Value) (l : List EnV) (key : ByteArray) (bk dl : Int) (hk : key.size < 2 ^ 60) (hn : l.length ≤ 1000000) (hv : F9 w v l.length (l.flatMap F6)) :
  Fn PR C0 137 #[v, .string key, .int .i64 bk, .int .i64 dl] w (Rn [] w (fun r u => u = .tuple #[if (K3 l ⟨1, key, bk, dl⟩).isSome then r else v, .int .i64 (if (K3 l ⟨1, key, bk, dl⟩).isSome then 0 else 12)]) fun r => [G7 r ((K3 l ⟨1, key, bk, dl⟩).getD l)]) := by
 refine B8k (TW.go (κ := false) (S := []) ?_)
 unfold B0F
 (have zz:=trivial;repeat((first|clear zz|with_reducible first|refine A3 ?_|refine A5 fun _=>?_|refine A4 fun _=>?_);try simp(disch:=first|omega|assumption|((repeat(first|exact A1|exact uH|apply A2|apply uT));first|done|fail)|(simp;first|done|omega|fail))[]))
 rename_i b
 refine G4 A3z (fun w' hw' => B4F w' v l 188 [.pointer (some ⟨b, 0, none⟩)] (K3 l ⟨1, key, bk, dl⟩) (fun m h => A8T h) hn (hv.ks hw'.ks (by simp)) B2r
  fun w2 r h hf hr => ?_) ?_
 ·have hp := hw'.pt (b := b) (by (repeat constructor))
  have hb : b < sz w' := L0 hp
  refine C44 w2 r l ⟨1, key, bk, dl⟩ b hk hn ?_ (fun hc => by have := hf b hc; omega) hr
  have hp2 := h.2.1 b _ (by simp) rfl hp
  exact C0s hp2
 ·rintro r _ rfl
  cases h : K3 l ⟨1, key, bk, dl⟩ with
  | none =>
   (have zz:=trivial;repeat((first|clear zz|with_reducible first|refine A3 ?_|refine A5 fun _=>?_|refine A4 fun _=>?_);try simp(disch:=first|omega|assumption|((repeat(first|exact A1|exact uH|apply A2|apply uT));first|done|fail)|(simp;first|done|omega|fail))[]))
   exact B1 r (by simp) (by (repeat' constructor))
  | some m =>
   (have zz:=trivial;repeat((first|clear zz|with_reducible first|refine A3 ?_|refine A5 fun _=>?_|refine A4 fun _=>?_);try simp(disch:=first|omega|assumption|((repeat(first|exact A1|exact uH|apply A2|apply uT));first|done|fail)|(simp;first|done|omega|fail))[]))
   exact B1 r (by simp) (by (repeat' constructor))
def V9 : EnV := ⟨2, H4, 0, 0⟩
def N0 (l : List EnV) : Prop := ∀ x ∈ l, x.key.size < 2 ^ 60
def c8 (acc : List EnV) (x : EnV) : List EnV := (K3 acc x).getD acc
theorem C5l (acc : List EnV) (x : EnV) : (c8 acc x).length = acc.length := by
 unfold c8
 cases h : K3 acc x with
 | none => rfl
 | some m => exact A8T h
def l4 (l : List EnV) : List EnV := (P7 l).foldl (fun acc p => c8 acc p.2) (newE l.length)
theorem B7M (L : List (Nat × EnV)) (a : List EnV) : (L.foldl (fun acc p => c8 acc p.2) a).length = a.length := by
 induction L generalizing a with
 | nil => rfl
 | cons p L ih => rw [List.foldl_cons, ih, C5l]
theorem A75 (n : Nat) : (newE n).length = min n 64 := by simp [newE]
theorem B52 {i : Nat} {l : List EnV} : ∀ p ∈ j5 i l, p.2 ∈ l ∧ p.2.st = 1 := by
 induction l generalizing i with
 | nil => intro p hp; cases hp
 | cons x l ih =>
  intro p hp
  simp only [j5] at hp
  split at hp
  ·rcases List.mem_cons.1 hp with rfl | hp
   ·exact ⟨by simp, ‹_›⟩
   ·obtain ⟨h1, h2⟩ := ih p hp; exact ⟨by simp [h1], h2⟩
  ·obtain ⟨h1, h2⟩ := ih p hp; exact ⟨by simp [h1], h2⟩
theorem Z5 {κ : Bool} {S : List Nat} {w0 : World} {H : List Res} {K0 : WP} {e : TypeId} {k : Nat} {v : Value} {q : Nat} {xs : List Value} (hm : Res.own e k v q xs ∈ H) (h : v.cells = #[v] → v.cells.size = 1 → v.cells.toList.all plain = true → TW κ S w0 H K0) : TW κ S w0 H K0 := fun w hw => by
 obtain ⟨a, c, rfl⟩ := Q2.form (hw.hold _ hm); exact h rfl rfl rfl w hw
theorem T8 {κ : Bool} {S : List Nat} {w0 : World} {H : List Res} {K0 : WP} {e : TypeId} {k : Nat} {v : Value} {q : Nat} {xs : List Value} (hm : Res.own e k v q xs ∈ H) (h : ∀ a c, v = .slice a q c → TW κ S w0 H K0) : TW κ S w0 H K0 := fun w hw => by
 obtain ⟨a, c, rfl⟩ := Q2.form (hw.hold _ hm); exact h a c rfl w hw
theorem B91 (w : World) (v : Value) (l : List EnV) (hks : N0 l) (hn : l.length ≤ 1000000) (hv : F9 w v l.length (l.flatMap F6)) :
  Fn PR C0 187 #[v] w (Rn [] w (fun r u => u = r) fun r => [G7 r (l4 l)]) := by
 refine B6c (TW.go (κ := false) (S := []) ?_)
 unfold A9C
 obtain ⟨a, c, rfl, _⟩ := hv.form
 (have zz:=trivial;repeat((first|clear zz|with_reducible first|refine A3 ?_|refine A5 fun _=>?_|refine A4 fun _=>?_);try simp(disch:=first|omega|assumption|((repeat(first|exact A1|exact uH|apply A2|apply uT));first|done|fail)|(simp;first|done|omega|fail))[]))
 refine G4 A3k (fun w' _ => A6Q w' l.length hn) ?_
 rintro _ r rfl
 refine Z5 (e := 218) (k := 4) (v := r) (q := (newE l.length).length) (xs := (newE l.length).flatMap F6) (by (repeat constructor)) fun hr1 hr2 hr3 => ?_
 (have zz:=trivial;repeat((first|clear zz|with_reducible first|refine A3 ?_|refine A5 fun _=>?_|refine A4 fun _=>?_);try simp(disch:=first|omega|assumption|((repeat(first|exact A1|exact uH|apply A2|apply uT));first|done|fail)|(simp;first|done|omega|fail))[hr1]))
 rename_i bt
 refine G4 A83 (fun w' _ => C7c w' (.slice a l.length c) ⟨_, _, _, rfl⟩) ?_
 rintro b _ rfl
 refine A4H (C7H b (.slice a l.length c) l hn) (B26 _) (fun i (acc : List EnV) => acc = ((P7 l).take i).foldl (fun acc p => c8 acc p.2) (newE l.length)) (fun _ acc => [.pt bt (.cells #[r] 324), G7 r acc])
  (fun c (y : Unit) => False) (fun y => []) (newE l.length) (by simp) ?_ ?_ ?_ ?_ (by simp)
 ·intro i _ F w1 _ hw
  exact RqS.of hv (fun h => by rw [y6]; omega) hw
 ·rintro i hi acc F hψ K' hK _
  have hi' : i < (P7 l).length := by simpa using hi
  have hm : (P7 l)[i] ∈ P7 l := List.getElem_mem hi'
  have hst : ((P7 l).take (i + 1)).foldl (fun acc p => c8 acc p.2) (newE l.length) = c8 acc (P7 l)[i].2 := by
   rw [List.take_add_one, List.getElem?_eq_getElem hi', Option.toList_some, List.foldl_append, ← hψ]; rfl
  have hlen : acc.length ≤ 64 := by rw [hψ, B7M, A75]; omega
  simp only [List.getElem_map]
  generalize (P7 l)[i] = p at *
  have hkp := hks p.2 (B52 p hm).1
  simp only [A8E, VF.app]
  (have zz:=trivial;repeat((first|clear zz|with_reducible first|refine A3 ?_|refine A5 fun _=>?_|refine A4 fun _=>?_);try simp(disch:=first|omega|assumption|((repeat(first|exact A1|exact uH|apply A2|apply uT));first|done|fail)|(simp;first|done|omega|fail))[]))
  refine D0 (Hc := [G7 r acc]) A2G (fun w' hw hs => C0G w' r acc p.2 hkp (by omega) hs) (by (repeat' constructor)) ?_
  rintro _ _ rfl
  refine TW.sub (TW.perm (hK (c8 acc p.2) hst.symm) ?_) (H' := G7 r (c8 acc p.2) :: .pt bt (.cells #[r] 324) :: F) ?_
  ·exact List.Perm.swap ..
  ·simp only [c8]; ((try simp only [List.cons_append, List.nil_append, List.append_assoc]); (repeat (first | exact List.Sublist.refl _ | exact List.nil_sublist _ | with_reducible apply List.Sublist.cons_cons | apply List.Sublist.cons)); first | done | fail)
 ·intro acc hψ
  simp only [List.length_map, List.take_length] at hψ
  subst hψ
  (have zz:=trivial;repeat((first|clear zz|with_reducible first|refine A3 ?_|refine A5 fun _=>?_|refine A4 fun _=>?_);try simp(disch:=first|omega|assumption|((repeat(first|exact A1|exact uH|apply A2|apply uT));first|done|fail)|(simp;first|done|omega|fail))[]))
  exact B1 r rfl (by simp only [l4]; (repeat' constructor))
 ·rintro _ _ h; exact h.elim
def V0 (l : List EnV) (key : ByteArray) : Option (List EnV) := if F2 l key < 0 then none else some (l.set (F2 l key).toNat V9)
theorem B8c {l m : List EnV} {key : ByteArray} (h : V0 l key = some m) : m.length = l.length := by
 unfold V0 at h
 by_cases c : F2 l key < 0
 ·rw [if_pos c] at h; cases h
 ·rw [if_neg c] at h; injection h with h; rw [← h]; simp
def P3 (u : List EnV) : List EnV := if u.length < 2 * U1 u 2 then l4 u else u
def V2 (l : List EnV) (key : ByteArray) : List EnV := match V0 l key with | some u => P3 u | none => l
theorem B88 (w : World) (v : Value) (l : List EnV) (key : ByteArray) (b : Nat) (hk : key.size < 2 ^ 60) (hn : l.length ≤ 1000000) (hx : w.cell? ⟨b, 0, none⟩ = some (.string key)) (hb : b ∉ B6 [G7 v l]) (hw : LW false (B6 [G7 v l]) w [G7 v l] w) :
  Fn PR C0 185 #[v, .pointer (some ⟨b, 0, none⟩)] w (Rn (B6 [G7 v l]) w (fun (_ : Unit) u => u = .bool (V0 l key).isSome) fun _ => [G7 v ((V0 l key).getD l)]) := by
 refine B0x (TW.goH (κ := false) (S := B6 [G7 v l]) ?_ hw)
 unfold A3Y
 (have zz:=trivial;repeat((first|clear zz|with_reducible first|refine A3 ?_|refine A5 fun _=>?_|refine A4 fun _=>?_);try simp(disch:=first|omega|assumption|((repeat(first|exact A1|exact uH|apply A2|apply uT));first|done|fail)|(simp;first|done|omega|fail))[hx]))
 refine C4 m6 (fun w' hw' => v8 w' v l key hk hn (N9.own (by (repeat constructor)) w' hw')) ?_
 by_cases c1 : F2 l key < 0
 ·have hd : V0 l key = none := if_pos c1
  (have zz:=trivial;repeat((first|clear zz|with_reducible first|refine A3 ?_|refine A5 fun _=>?_|refine A4 fun _=>?_);try simp(disch:=first|omega|assumption|((repeat(first|exact A1|exact uH|apply A2|apply uT));first|done|fail)|(simp;first|done|omega|fail))[c1]))
  exact B1 () (by simp [hd]) (by simp only [hd, Option.getD_none]; (repeat' constructor))
 ·have hd : V0 l key = some (l.set (F2 l key).toNat V9) := if_neg c1
  have hlt := A2a (l := l) (key := key) (by omega)
  have h0 : 0 ≤ F2 l key := by omega
  obtain ⟨i, hi⟩ : ∃ i : Nat, F2 l key = i := ⟨(F2 l key).toNat, by omega⟩
  rw [hi] at hd hlt c1 ⊢
  rw [Int.toNat_natCast] at hd hlt
  refine g4 (e := 218) (k := 4) (v := v) (q := l.length) (xs := l.flatMap F6) (by (repeat constructor)) (by omega) ?_
  rintro g c rfl
  (have zz:=trivial;repeat((first|clear zz|with_reducible first|refine A3 ?_|refine A5 fun _=>?_|refine A4 fun _=>?_);try simp(disch:=first|omega|assumption|((repeat(first|exact A1|exact uH|apply A2|apply uT));first|done|fail)|(simp;first|done|omega|fail))[c1, hlt]))
  refine N3 (by (repeat constructor)) (by simp) (by rw [y6]; omega) (by simp) ?_
  refine B1 () (by simp [hd]) ?_
  have := A1J (f := F6) (k := 4) (fun _ => rfl) l i V9 hlt
  simp only [hd, Option.getD_some, G7, List.length_set, ← this]
  (repeat' constructor)
theorem A2f (w : World) (v : Value) (l : List EnV) (key : ByteArray) (hk : key.size < 2 ^ 60) (hks : N0 l) (hn : l.length ≤ 1000000) (hv : F9 w v l.length (l.flatMap F6)) :
  Fn PR C0 136 #[v, .string key] w (Rn [] w (fun r u => u = .tuple #[if (V0 l key).isSome then r else v, .bool (V0 l key).isSome]) fun r => [G7 r (V2 l key)]) := by
 refine B4H (TW.go (κ := false) (S := []) ?_)
 unfold A5q
 (have zz:=trivial;repeat((first|clear zz|with_reducible first|refine A3 ?_|refine A5 fun _=>?_|refine A4 fun _=>?_);try simp(disch:=first|omega|assumption|((repeat(first|exact A1|exact uH|apply A2|apply uT));first|done|fail)|(simp;first|done|omega|fail))[]))
 rename_i b
 refine G4 A3z (fun w' hw' => B4F w' v l 185 [.pointer (some ⟨b, 0, none⟩)] (V0 l key) (fun m h => B8c h) hn (hv.ks hw'.ks (by simp)) A9s
  fun w2 r h hf hr => ?_) ?_
 ·have hp := hw'.pt (b := b) (by (repeat constructor))
  have hb : b < sz w' := L0 hp
  exact B88 w2 r l key b hk hn (h.cell (by simp) (hw'.cell1 (by (repeat constructor)))) (fun hc => by have := hf b hc; omega) hr
 ·rintro r _ rfl
  cases h : V0 l key with
  | none =>
   have e : V2 l key = l := by simp [V2, h]
   (have zz:=trivial;repeat((first|clear zz|with_reducible first|refine A3 ?_|refine A5 fun _=>?_|refine A4 fun _=>?_);try simp(disch:=first|omega|assumption|((repeat(first|exact A1|exact uH|apply A2|apply uT));first|done|fail)|(simp;first|done|omega|fail))[]))
   exact B1 r (by simp) (by rw [e]; (repeat' constructor))
  | some m =>
   have e : V2 l key = P3 m := by simp [V2, h]
   have hml := B8c h
   have hmk : N0 m := by
    unfold V0 at h
    by_cases c : F2 l key < 0
    ·rw [if_pos c] at h; cases h
    ·rw [if_neg c] at h; injection h with h; rw [← h]
     intro x hx
     rcases List.mem_or_eq_of_mem_set hx with hx | rfl
     ·exact hks x hx
     ·simp [V9]
   simp only [Option.isSome_some, if_true, Option.getD_some]
   refine T8 (e := 218) (k := 4) (v := r) (q := m.length) (xs := m.flatMap F6) (by (repeat constructor)) ?_
   rintro ra rc rfl
   (have zz:=trivial;repeat((first|clear zz|with_reducible first|refine A3 ?_|refine A5 fun _=>?_|refine A4 fun _=>?_);try simp(disch:=first|omega|assumption|((repeat(first|exact A1|exact uH|apply A2|apply uT));first|done|fail)|(simp;first|done|omega|fail))[]))
   refine C4 A14 (fun w' hw' => B2l w' _ m 2 (by omega) (N9.own (by (repeat constructor)) w' hw')) ?_
   have hcl : U1 m 2 ≤ m.length := List.countP_le_length
   by_cases c1 : m.length < 2 * U1 m 2
   ·have c1' : (m.length : Int) < 2 * (U1 m 2 : Nat) := by omega
    have e2 : V2 l key = l4 m := by rw [e, P3, if_pos c1]
    (have zz:=trivial;repeat((first|clear zz|with_reducible first|refine A3 ?_|refine A5 fun _=>?_|refine A4 fun _=>?_);try simp(disch:=first|omega|assumption|((repeat(first|exact A1|exact uH|apply A2|apply uT));first|done|fail)|(simp;first|done|omega|fail))[c1']))
    refine G4 A7v (fun w' hw' => B91 w' _ m hmk (by omega) (N9.own (by (repeat constructor)) w' hw')) ?_
    rintro _ r rfl
    exact B1 r rfl (by rw [e2]; (repeat' constructor))
   ·have c1' : ¬ (m.length : Int) < 2 * (U1 m 2 : Nat) := by omega
    have e2 : V2 l key = m := by rw [e, P3, if_neg c1]
    (have zz:=trivial;repeat((first|clear zz|with_reducible first|refine A3 ?_|refine A5 fun _=>?_|refine A4 fun _=>?_);try simp(disch:=first|omega|assumption|((repeat(first|exact A1|exact uH|apply A2|apply uT));first|done|fail)|(simp;first|done|omega|fail))[c1']))
    exact B1 (.slice ra m.length rc) rfl (by rw [e2]; (repeat' constructor))
def U0 (l : List EnV) : Bool := (P7 l).all fun p => decide (F2 l p.2.key = p.1)
end Go.Proofs.YtjobgnabneddjaaGreat
namespace Go.Proofs.YtjobgnabneddjaaGreat
open Go
def A45 (x : EnV) (now : Int) : Bool := decide (x.st = 1) && decide (x.dl < now)
theorem C7Z (w : World) (x : EnV) (now : Int) : Fn PR C0 230 #[.int .i64 now, .agg #[.int .i64 x.st, .string x.key, .int .i64 x.bk, .int .i64 x.dl]] w (fun r w' => r = .bool (A45 x now) ∧ D2 [] w w') := by
 refine Fn.pure (A96 (TW.go (κ := false) (S := []) ?_))
 unfold A2M
 by_cases c1 : x.st = 1
 ·(have zz:=trivial;repeat((first|clear zz|with_reducible first|refine A3 ?_|refine A5 fun _=>?_|refine A4 fun _=>?_);try simp(disch:=first|omega|assumption|((repeat(first|exact A1|exact uH|apply A2|apply uT));first|done|fail)|(simp;first|done|omega|fail))[c1]))
  exact B0 (by simp [A45, c1])
 ·(have zz:=trivial;repeat((first|clear zz|with_reducible first|refine A3 ?_|refine A5 fun _=>?_|refine A4 fun _=>?_);try simp(disch:=first|omega|assumption|((repeat(first|exact A1|exact uH|apply A2|apply uT));first|done|fail)|(simp;first|done|omega|fail))[c1]))
  exact B0 (by simp [A45, c1])
def P1 (f n m : Nat) : List Nat := (List.range n).map fun i => (f + i) % m
def B0J (j : Nat) : List Value := [.int .i64 (j : Int)]
abbrev B9r (x : Nat × Nat × Nat) : Value := .func (.func 263) #[] #[.pointer (some ⟨x.1, 0, none⟩), .pointer (some ⟨x.2.1, 0, none⟩), .pointer (some ⟨x.2.2, 0, none⟩)]
abbrev B41 (x : Nat × Nat × Nat) (f n m : Nat) : List Res := [.pt x.1 (.cells #[.int .i64 (n : Int)] 3), .pt x.2.1 (.cells #[.int .i64 (f : Int)] 3), .pt x.2.2 (.cells #[.int .i64 (m : Int)] 3)]
theorem C3Z (w : World) (f n m : Nat) : Fn PR C0 231 #[.int .i64 (f : Int), .int .i64 (n : Int), .int .i64 (m : Int)] w (Rn [] w (fun x u => u = B9r x) fun x => B41 x f n m) := by
 refine B3n (TW.go (κ := false) (S := []) ?_)
 unfold A5Y
 (have zz:=trivial;repeat((first|clear zz|with_reducible first|refine A3 ?_|refine A5 fun _=>?_|refine A4 fun _=>?_);try simp(disch:=first|omega|assumption|((repeat(first|exact A1|exact uH|apply A2|apply uT));first|done|fail)|(simp;first|done|omega|fail))[]))
 rename_i b1 b2 b3
 exact B1 (b2, b1, b3) rfl (by (repeat' constructor))
theorem C3k (x : Nat × Nat × Nat) (f n m : Nat) (hf : f ≤ 1000000) (hn : n ≤ 1000000) (hm : n ≤ m) (hmm : m ≤ 1000000) : A5y (B9r x) (B41 x f n m) (fun _ _ => True) ((P1 f n m).map B0J) := by
 obtain ⟨b1, b2, b3⟩ := x
 refine ⟨_, _, _, rfl, fun y J E hJ hE stJ stE hy w0 h0 => ?_⟩
 refine B1d (B1B (TW.at (κ := true) ?_ (hJ _ _ _ h0).1))
 unfold A3K
 simp only [B41]
 (have zz:=trivial;repeat((first|clear zz|with_reducible first|refine A3 ?_|refine A5 fun _=>?_|refine A4 fun _=>?_);try simp(disch:=first|omega|assumption|((repeat(first|exact A1|exact uH|apply A2|apply uT));first|done|fail)|(simp;first|done|omega|fail))[]))
 refine A4g n (fun i => i) (fun _ => _) hJ stJ h0 fun i a hi hJi _ L hL => ?_
 by_cases hlt : i < n
 ·have e1 : ((f : Int) + (i : Nat)).tmod m = ((f + i) % m : Nat) := by rw [Int.tmod_eq_emod_of_nonneg (by omega), Int.natCast_emod, Int.natCast_add]
  have hnz : ¬ (m : Int) = 0 := by omega
  have hwi : ∀ h, ((P1 f n m).map B0J)[i]'h = B0J ((f + i) % m) := by
   intro h; simp only [List.getElem_map, P1, List.getElem_range]
  (have zz:=trivial;repeat((first|clear zz|with_reducible first|refine A3 ?_|refine A5 fun _=>?_|refine A4 fun _=>?_);try simp(disch:=first|omega|assumption|((repeat(first|exact A1|exact uH|apply A2|apply uT));first|done|fail)|(simp;first|done|omega|fail))[hlt, e1, hnz, A37]))
  refine A8D hJ hE stJ hy hJi (by simpa [P1] using hlt) (by rw [hwi]; simp [B0J]) (fun w3 h => ?_) (fun w3 h => ?_)
  ·(have zz:=trivial;repeat((first|clear zz|with_reducible first|refine A3 ?_|refine A5 fun _=>?_|refine A4 fun _=>?_);try simp(disch:=first|omega|assumption|((repeat(first|exact A1|exact uH|apply A2|apply uT));first|done|fail)|(simp;first|done|omega|fail))[]))
   exact fun w' hw' => hL hlt w' (stJ _ _ _ _ _ h hw')
  ·(have zz:=trivial;repeat((first|clear zz|with_reducible first|refine A3 ?_|refine A5 fun _=>?_|refine A4 fun _=>?_);try simp(disch:=first|omega|assumption|((repeat(first|exact A1|exact uH|apply A2|apply uT));first|done|fail)|(simp;first|done|omega|fail))[]))
   exact A4z stE h
 ·obtain rfl : i = n := by omega
  (have zz:=trivial;repeat((first|clear zz|with_reducible first|refine A3 ?_|refine A5 fun _=>?_|refine A4 fun _=>?_);try simp(disch:=first|omega|assumption|((repeat(first|exact A1|exact uH|apply A2|apply uT));first|done|fail)|(simp;first|done|omega|fail))[]))
  exact A4v stJ (by simpa [P1] using hJi)
def S3 (now : Int) (s : List EnV × Nat) (j : Nat) : List EnV × Nat := if A45 (s.1.getD j noE) now then (s.1.set j V9, s.2 + 1) else s
def A7G (l : List EnV) (f n : Nat) (now : Int) : List EnV × Nat := (P1 f n l.length).foldl (S3 now) (l, 0)
def U9 (l : List EnV) (f : Int) : Nat := if f < 0 ∨ (l.length : Int) ≤ f then 0 else f.toNat
def A0q (l : List EnV) (n : Int) : Nat := min n.toNat l.length
def Q1 (l : List EnV) (f n now : Int) : List EnV × Nat × Nat :=
 let s := A7G l (U9 l f) (A0q l n) now
 (if 0 < s.2 then P3 s.1 else s.1, if 0 < l.length then (U9 l f + A0q l n) % l.length else U9 l f, s.2)
theorem B57 (now : Int) (L : List Nat) (s : List EnV × Nat) : (L.foldl (S3 now) s).1.length = s.1.length := by
 induction L generalizing s with
 | nil => rfl
 | cons j L ih => rw [List.foldl_cons, ih]; unfold S3; split <;> simp
theorem C04 (now : Int) (L : List Nat) (s : List EnV × Nat) (h : N0 s.1) : N0 (L.foldl (S3 now) s).1 := by
 induction L generalizing s with
 | nil => exact h
 | cons j L ih =>
  rw [List.foldl_cons]
  refine ih _ ?_
  unfold S3; split
  ·intro x hx
   rcases List.mem_or_eq_of_mem_set hx with hx | rfl
   ·exact h x hx
   ·simp [V9]
  ·exact h
theorem B8b (now : Int) (L : List Nat) (s : List EnV × Nat) : (L.foldl (S3 now) s).2 ≤ s.2 + L.length := by
 induction L generalizing s with
 | nil => simp
 | cons j L ih =>
  rw [List.foldl_cons]
  have := ih (S3 now s j)
  have h2 : (S3 now s j).2 ≤ s.2 + 1 := by unfold S3; split <;> simp
  simp only [List.length_cons]; omega
theorem D0x {κ : Bool} {S : List Nat} {w0 : World} {H Hj : List Res} {F : Value → WP} {A : (Value → WP) → WP} (v : Value) (hF : TW κ S w0 Hj (F v)) (hA : ∀ J : Value → WP, TW κ S w0 Hj (J v) → TW κ S w0 H (A J)) : TW κ S w0 H (jn (n := 1) F A) := hA F hF
@[simp] theorem D3g {κ : Bool} {S : List Nat} {w0 : World} {H : List Res} {K0 : WP} {t : TypeId} {z : Value} [h : TS t z] {b o : Nat} {c : Array Value} {T : TypeId} {f : Nat × Nat} {v : Value} {l : List Rd} {x y : Bool} (hm : Res.pt b (.cells c T f) ∈ H) (hv : c[o]? = some v) :
  TW κ S w0 H (watch PR ((some (.bool x, y), Instr.loadAt t (.pointer (some ⟨b, o, none⟩)), v) :: l) K0) = TW κ S w0 H (watch PR l K0) := let ⟨_, _, h, hd⟩ := h.ti; B0L fun _ w hw => y3 h hd (by rw [F3 (hw.pt hm)]; exact hv)
@[simp] theorem D1u {κ : Bool} {S : List Nat} {w0 : World} {H : List Res} {K0 : WP} {s : Sem Value} {v : Value} {l : List Rd} : TW κ S w0 H (watch PR ((some (.bool false, true), s, v) :: l) K0) = TW κ S w0 H (watch PR l K0) := B0L fun h => by cases h
theorem C7T (w : World) (v : Value) (l : List EnV) (f n now : Int) (hks : N0 l) (hn : l.length ≤ 1000000) (hv : F9 w v l.length (l.flatMap F6)) :
  Fn PR C0 169 #[v, .int .i64 f, .int .i64 n, .int .i64 now] w (Rn [] w (fun r u => u = .tuple #[r, .int .i64 ((Q1 l f n now).2.1 : Nat), .int .i64 ((Q1 l f n now).2.2 : Nat)]) fun r => [G7 r (Q1 l f n now).1]) := by
 refine B6e (TW.go (κ := false) (S := []) ?_)
 unfold A9S
 obtain ⟨a, c, rfl, _⟩ := hv.form
 have key : ∀ g : Nat, g = U9 l f → g ≤ 1000000 → True := fun _ _ _ => trivial
 have hmax : min (max n 0) (l.length : Int) = (A0q l n : Nat) := by unfold A0q; omega
 have hfl : U9 l f ≤ 1000000 := by unfold U9; split <;> omega
 refine D0x (Hj := []) (.int .i64 (U9 l f : Nat)) ?_ ?_
 case refine_2 =>
  intro J hJ
  by_cases c1 : f < 0
  ·have e : U9 l f = 0 := by unfold U9; rw [if_pos (Or.inl c1)]
   rw [e] at hJ
   (have zz:=trivial;repeat((first|clear zz|with_reducible first|refine A3 ?_|refine A5 fun _=>?_|refine A4 fun _=>?_);try simp(disch:=first|omega|assumption|((repeat(first|exact A1|exact uH|apply A2|apply uT));first|done|fail)|(simp;first|done|omega|fail))[c1]))
   exact hJ
  by_cases c2 : (l.length : Int) ≤ f
  ·have e : U9 l f = 0 := by unfold U9; rw [if_pos (Or.inr c2)]
   rw [e] at hJ
   (have zz:=trivial;repeat((first|clear zz|with_reducible first|refine A3 ?_|refine A5 fun _=>?_|refine A4 fun _=>?_);try simp(disch:=first|omega|assumption|((repeat(first|exact A1|exact uH|apply A2|apply uT));first|done|fail)|(simp;first|done|omega|fail))[c1, c2]))
   exact hJ
  ·have e : ((U9 l f : Nat) : Int) = f := by unfold U9; rw [if_neg (by omega)]; omega
   rw [e] at hJ
   (have zz:=trivial;repeat((first|clear zz|with_reducible first|refine A3 ?_|refine A5 fun _=>?_|refine A4 fun _=>?_);try simp(disch:=first|omega|assumption|((repeat(first|exact A1|exact uH|apply A2|apply uT));first|done|fail)|(simp;first|done|omega|fail))[c1, c2]))
   exact hJ
 have hml : A0q l n ≤ l.length := by unfold A0q; omega
 have hlt0 : 0 < l.length → U9 l f < l.length := by unfold U9; split <;> omega
 generalize hfv : U9 l f = fv at *
 generalize hmv : A0q l n = mv at *
 (have zz:=trivial;repeat((first|clear zz|with_reducible first|refine A3 ?_|refine A5 fun _=>?_|refine A4 fun _=>?_);try simp(disch:=first|omega|assumption|((repeat(first|exact A1|exact uH|apply A2|apply uT));first|done|fail)|(simp;first|done|omega|fail))[hmax]))
 rename_i bd
 rw [hmax]
 refine G4 P4 (fun w' hw' => B1K w' (.slice a l.length c) l.length (l.flatMap F6) hn (y6 l) (B1Y l) (hv.ks hw'.ks (by simp))) ?_
 rintro _ r rfl
 refine Z5 (e := 218) (k := 4) (v := r) (q := l.length) (xs := l.flatMap F6) (by (repeat constructor)) fun hr1 hr2 hr3 => ?_
 (have zz:=trivial;repeat((first|clear zz|with_reducible first|refine A3 ?_|refine A5 fun _=>?_|refine A4 fun _=>?_);try simp(disch:=first|omega|assumption|((repeat(first|exact A1|exact uH|apply A2|apply uT));first|done|fail)|(simp;first|done|omega|fail))[hr1]))
 rename_i bu bg
 refine G4 B25 (fun w' hw' => C3Z w' fv mv l.length) ?_
 rintro x _ rfl
 have hpl : (P1 fv mv l.length).length = mv := by simp [P1]
 refine A4H (C3k x fv mv l.length hfl (by omega) hml hn) (by intro y hy; obtain ⟨p, _, rfl⟩ := List.mem_map.1 hy; rfl) (fun i (s : List EnV × Nat) => s = ((P1 fv mv l.length).take i).foldl (S3 now) (l, 0))
  (fun i s => [.pt bg (.cells #[.int .i64 (s.2 : Int)] 3), .pt bu (.cells #[r] 84), .own 218 4 r l.length (s.1.flatMap F6), .pt bd (.cells #[.func (.func 230) #[.int .i64 now] #[]] 326)])
  (fun c (y : Unit) => False) (fun y => []) (l, 0) (by simp) ?_ ?_ ?_ ?_ (by simp)
 ·intros; trivial
 ·rintro i hi s F hψ K' hK _
  have hi' : i < (P1 fv mv l.length).length := by simpa using hi
  have hst : ((P1 fv mv l.length).take (i + 1)).foldl (S3 now) (l, 0) = S3 now s (P1 fv mv l.length)[i] := by
   rw [List.take_add_one, List.getElem?_eq_getElem hi', Option.toList_some, List.foldl_append, ← hψ]; rfl
  have hsl : s.1.length = l.length := by rw [hψ, B57]
  have hs2 : s.2 ≤ i := by
   have := B8b now ((P1 fv mv l.length).take i) (l, 0)
   rw [← hψ] at this; simp at this; omega
  have hj : (P1 fv mv l.length)[i] < l.length := by
   simp only [P1, List.getElem_map, List.getElem_range]
   exact Nat.mod_lt _ (by rw [hpl] at hi'; omega)
  simp only [List.getElem_map]
  generalize (P1 fv mv l.length)[i] = j at *
  have hx : s.1[j]? = some (s.1.getD j noE) := by
   rw [List.getD_eq_getElem?_getD, List.getElem?_eq_getElem (by omega)]; rfl
  have hrl := B6E (f := F6) (k := 4) (fun _ => rfl) hx
  rw [F6] at hrl
  simp only [S3] at hst
  generalize s.1.getD j noE = y at *
  simp only [B0J, VF.app]
  refine g4 (e := 218) (k := 4) (v := r) (q := l.length) (xs := s.1.flatMap F6) (by (repeat constructor)) (by omega) ?_
  rintro g gc rfl
  have hst' := fun s' (h : s' = _) => hK s' (h.trans hst.symm)
  (have zz:=trivial;repeat((first|clear zz|with_reducible first|refine A3 ?_|refine A5 fun _=>?_|refine A4 fun _=>?_);try simp(disch:=first|omega|assumption|((repeat(first|exact A1|exact uH|apply A2|apply uT));first|done|fail)|(simp;first|done|omega|fail))[hj, hrl]))
  refine C4 A8Q (fun w' _ => C7Z w' y now) ?_
  cases hd : A45 y now with
  | true =>
   simp only [hd, if_true] at hst'
   (have zz:=trivial;repeat((first|clear zz|with_reducible first|refine A3 ?_|refine A5 fun _=>?_|refine A4 fun _=>?_);try simp(disch:=first|omega|assumption|((repeat(first|exact A1|exact uH|apply A2|apply uT));first|done|fail)|(simp;first|done|omega|fail))[hj]))
   refine N3 (by (repeat constructor)) (by simp) (by rw [y6]; omega) (by simp) ?_
   have e := A1J (f := F6) (k := 4) (fun _ => rfl) s.1 j V9 (by omega)
   have hk' := hst' _ rfl
   simp only [← e] at hk'
   (have zz:=trivial;repeat((first|clear zz|with_reducible first|refine A3 ?_|refine A5 fun _=>?_|refine A4 fun _=>?_);try simp(disch:=first|omega|assumption|((repeat(first|exact A1|exact uH|apply A2|apply uT));first|done|fail)|(simp;first|done|omega|fail))[]))
   exact TW.sub hk' (by ((try simp only [List.cons_append, List.nil_append, List.append_assoc]); (repeat (first | exact List.Sublist.refl _ | exact List.nil_sublist _ | with_reducible apply List.Sublist.cons_cons | apply List.Sublist.cons)); first | done | fail))
  | false =>
   simp only [hd, Bool.false_eq_true, if_false] at hst'
   (have zz:=trivial;repeat((first|clear zz|with_reducible first|refine A3 ?_|refine A5 fun _=>?_|refine A4 fun _=>?_);try simp(disch:=first|omega|assumption|((repeat(first|exact A1|exact uH|apply A2|apply uT));first|done|fail)|(simp;first|done|omega|fail))[]))
   exact hst' _ rfl
 ·intro s hψ
  simp only [List.length_map, List.take_length] at hψ
  have hs0 : s = A7G l fv mv now := hψ
  have hsl : s.1.length = l.length := by rw [hψ, B57]
  have hsk : N0 s.1 := by rw [hψ]; exact C04 _ _ _ hks
  have hs2 : s.2 ≤ 1000000 := by
   have := B8b now (P1 fv mv l.length) (l, 0)
   rw [← hψ, hpl] at this; simp at this; omega
  have hsv : Q1 l f n now = (if 0 < s.2 then P3 s.1 else s.1, if 0 < l.length then (fv + mv) % l.length else fv, s.2) := by
   simp only [Q1, hfv, hmv, ← hs0]
  have hcl : U1 s.1 2 ≤ s.1.length := List.countP_le_length
  rw [hsv]
  refine T8 (e := 218) (k := 4) (v := r) (q := l.length) (xs := s.1.flatMap F6) (by (repeat constructor)) ?_
  rintro ra rc rfl
  have e1 : 0 < l.length → ((fv : Int) + (mv : Nat)).tmod l.length = ((fv + mv) % l.length : Nat) := fun _ => by rw [Int.tmod_eq_emod_of_nonneg (by omega), Int.natCast_emod, Int.natCast_add]
  by_cases c1 : 0 < s.2
  ·have c1' : (0 : Int) < s.2 := by omega
   (have zz:=trivial;repeat((first|clear zz|with_reducible first|refine A3 ?_|refine A5 fun _=>?_|refine A4 fun _=>?_);try simp(disch:=first|omega|assumption|((repeat(first|exact A1|exact uH|apply A2|apply uT));first|done|fail)|(simp;first|done|omega|fail))[c1, c1']))
   refine C4 (u := .int .i64 (U1 s.1 2 : Nat)) A14 (fun w' hw' => B2l w' _ s.1 2 (by omega) (by rw [hsl]; exact N9.own (e := 218) (k := 4) (by (repeat constructor)) w' hw')) ?_
   by_cases c2 : s.1.length < 2 * U1 s.1 2
   ·have c2' : (l.length : Int) < 2 * (U1 s.1 2 : Nat) := by omega
    have e2 : P3 s.1 = l4 s.1 := if_pos c2
    (have zz:=trivial;repeat((first|clear zz|with_reducible first|refine A3 ?_|refine A5 fun _=>?_|refine A4 fun _=>?_);try simp(disch:=first|omega|assumption|((repeat(first|exact A1|exact uH|apply A2|apply uT));first|done|fail)|(simp;first|done|omega|fail))[c1, c1', c2']))
    refine G4 A7v (fun w' hw' => B91 w' _ s.1 hsk (by omega) (by rw [hsl]; exact N9.own (e := 218) (k := 4) (by (repeat constructor)) w' hw')) ?_
    rintro _ r rfl
    refine Z5 (e := 218) (k := 4) (v := r) (q := (l4 s.1).length) (xs := (l4 s.1).flatMap F6) (by (repeat constructor)) fun hq1 hq2 hq3 => ?_
    simp only [if_pos c1, e2]
    (have zz:=trivial;repeat((first|clear zz|with_reducible first|refine A3 ?_|refine A5 fun _=>?_|refine A4 fun _=>?_);try simp(disch:=first|omega|assumption|((repeat(first|exact A1|exact uH|apply A2|apply uT));first|done|fail)|(simp;first|done|omega|fail))[hq1]))
    refine B7J (fun c0 => ?_) (fun c0 => ?_)
    ·have hnz : ¬ (l.length : Int) = 0 := by omega
     simp only [if_pos c0]
     (have zz:=trivial;repeat((first|clear zz|with_reducible first|refine A3 ?_|refine A5 fun _=>?_|refine A4 fun _=>?_);try simp(disch:=first|omega|assumption|((repeat(first|exact A1|exact uH|apply A2|apply uT));first|done|fail)|(simp;first|done|omega|fail))[hnz, A37, e1 c0]))
     exact B1 r rfl (by (repeat' constructor))
    ·simp only [if_neg c0]
     clear c0
     (have zz:=trivial;repeat((first|clear zz|with_reducible first|refine A3 ?_|refine A5 fun _=>?_|refine A4 fun _=>?_);try simp(disch:=first|omega|assumption|((repeat(first|exact A1|exact uH|apply A2|apply uT));first|done|fail)|(simp;first|done|omega|fail))[]))
     exact B1 r rfl (by (repeat' constructor))
   ·have c2' : ¬ (l.length : Int) < 2 * (U1 s.1 2 : Nat) := by omega
    have e2 : P3 s.1 = s.1 := if_neg c2
    simp only [if_pos c1, e2]
    (have zz:=trivial;repeat((first|clear zz|with_reducible first|refine A3 ?_|refine A5 fun _=>?_|refine A4 fun _=>?_);try simp(disch:=first|omega|assumption|((repeat(first|exact A1|exact uH|apply A2|apply uT));first|done|fail)|(simp;first|done|omega|fail))[c1, c1', c2']))
    refine B7J (fun c0 => ?_) (fun c0 => ?_)
    ·have hnz : ¬ (l.length : Int) = 0 := by omega
     simp only [if_pos c0]
     (have zz:=trivial;repeat((first|clear zz|with_reducible first|refine A3 ?_|refine A5 fun _=>?_|refine A4 fun _=>?_);try simp(disch:=first|omega|assumption|((repeat(first|exact A1|exact uH|apply A2|apply uT));first|done|fail)|(simp;first|done|omega|fail))[hnz, A37, e1 c0]))
     exact B1 (.slice ra l.length rc) rfl (by simp only [G7, hsl]; (repeat' constructor))
    ·simp only [if_neg c0]
     (have zz:=trivial;repeat((first|clear zz|with_reducible first|refine A3 ?_|refine A5 fun _=>?_|refine A4 fun _=>?_);try simp(disch:=first|omega|assumption|((repeat(first|exact A1|exact uH|apply A2|apply uT));first|done|fail)|(simp;first|done|omega|fail))[]))
     exact B1 (.slice ra l.length rc) rfl (by simp only [G7, hsl]; (repeat' constructor))
  ·have c1' : ¬ (0 : Int) < s.2 := by omega
   simp only [if_neg c1]
   have hd0 : decide ((0 : Int) < s.2) = false := decide_eq_false c1'
   (have zz:=trivial;repeat((first|clear zz|with_reducible first|refine A3 ?_|refine A5 fun _=>?_|refine A4 fun _=>?_);try simp(disch:=first|omega|assumption|((repeat(first|exact A1|exact uH|apply A2|apply uT));first|done|fail)|(simp;first|done|omega|fail))[c1, c1']))
   refine B7J (fun c0 => ?_) (fun c0 => ?_)
   ·have hnz : ¬ (l.length : Int) = 0 := by omega
    simp only [if_pos c0]
    (have zz:=trivial;repeat((first|clear zz|with_reducible first|refine A3 ?_|refine A5 fun _=>?_|refine A4 fun _=>?_);try simp(disch:=first|omega|assumption|((repeat(first|exact A1|exact uH|apply A2|apply uT));first|done|fail)|(simp;first|done|omega|fail))[hnz, A37, e1 c0]))
    exact B1 (.slice ra l.length rc) rfl (by simp only [G7, hsl]; (repeat' constructor))
   ·simp only [if_neg c0]
    (have zz:=trivial;repeat((first|clear zz|with_reducible first|refine A3 ?_|refine A5 fun _=>?_|refine A4 fun _=>?_);try simp(disch:=first|omega|assumption|((repeat(first|exact A1|exact uH|apply A2|apply uT));first|done|fail)|(simp;first|done|omega|fail))[]))
    exact B1 (.slice ra l.length rc) rfl (by simp only [G7, hsl]; (repeat' constructor))
 ·rintro _ _ h; exact h.elim
end Go.Proofs.YtjobgnabneddjaaGreat
namespace Go.Proofs.YtjobgnabneddjaaGreat
open Go
theorem x7 {κ : Bool} {S : List Nat} {w0 : World} {H : List Res} {K0 : WP} {t : TypeId} {n : Nat} {z : Value} [h : TG t n z] {b o : Nat} {c : Array Value} {T : TypeId} {f : Nat × Nat} {xs : Array Value} {l : List Rd} (hm : Res.pt b (.cells c T f) ∈ H) (hl : V1 c.toList o n = some xs.toList) :
  TW κ S w0 H (watch PR ((none, Instr.loadAt t (.pointer (some ⟨b, o, none⟩)), .agg xs) :: l) K0) = TW κ S w0 H (watch PR l K0) := by
 obtain ⟨_, _, h, hd⟩ := h.ti
 refine B1g fun w hw => ?_
 have hr := A0B hl (N8.bl (hw.pt hm))
 have h2 := u9 hr
 have := A1G h hd h2.1 h2.2
 simpa using this
theorem B6D {κ : Bool} {S : List Nat} {w0 : World} {H : List Res} {K0 : WP} {t : TypeId} {n : Nat} {z : Value} [h : TG t n z] {b o : Nat} {c xs : Array Value} {T : TypeId} {f : Nat × Nat} {l : List Rd} {x y : Bool} (hm : Res.pt b (.cells c T f) ∈ H) (hl : V1 c.toList o n = some xs.toList) :
  TW κ S w0 H (watch PR ((some (.bool x, y), Instr.loadAt t (.pointer (some ⟨b, o, none⟩)), .agg xs) :: l) K0) = TW κ S w0 H (watch PR l K0) := by
 obtain ⟨_, _, h, hd⟩ := h.ti
 refine B0L fun _ w hw => ?_
 have hr := A0B hl (N8.bl (hw.pt hm)); have h2 := u9 hr
 have := A1G h hd h2.1 h2.2
 simpa using this
theorem N8.sub {w : World} {b o : Nat} {l : List Value} (h : N8 w b o l) (j n : Nat) (hn : j + n ≤ l.length) : n8 w b (o + j) n = some ((l.drop j).take n) := by
 have hl : ((l.drop j).take n).length = n := by simp; omega
 have h1 : N8 w b (o + j) ((l.drop j).take n) := fun q hq => by
  rw [hl] at hq
  rw [Nat.add_assoc, h (j + q) (by omega), List.getElem?_take_of_lt hq, List.getElem?_drop]
 have := A7Y h1
 rwa [hl] at this
end Go.Proofs.YtjobgnabneddjaaGreat
namespace Go.Proofs.YtjobgnabneddjaaGreat
open Go
def B09 (X : Nat → Prop) (t0 : Value) (R : Value → WP) : WP :=
 B3 PR X (Instr.box 23 t0) fun t1 =>
 jn (n := 2) (fun t2 t3 =>
 drw <|
 A6 PR (Instr.loadAt 23 t1) fun t12 =>
 A0 PR (Instr.fieldAt 23 t1 1) fun t13 =>
 A6 PR (Instr.loadAt 3 t13) fun t14 =>
 B3 PR X (Instr.makeSlice 208 t14 t14) fun t15 =>
 watch PR [(none, (Instr.loadAt 23 t1), t12)] <|
 A0 PR (Instr.build 210 #[(0, t12), (2, t15)]) fun t16 =>
 B3 PR X (Instr.box 210 t16) fun t17 =>
 jn (n := 1) (fun t23 =>
 R (.tuple #[t17, (.int .i64 0)])) fun J1 =>
 A0 PR (B8 t17) fun t19 =>
 A0 PR (Instr.fieldAt 210 t19 2) fun t20 =>
 A6 PR (Instr.loadAt 208 t20) fun t21 =>
 A0 PR (A8 .len #[208] 0 [t21]) fun t22 =>
 lp (n := 1) (fun L2 t23_1 =>
 A0 PR (binOp .lss 3 t23_1 t22) fun t24 =>
 jn (n := 0) (
 jn (n := 0) (
 A0 PR (binOp .add 3 t23_1 (.int .i64 1)) fun t37 =>
 L2 t37) fun J3 =>
 drw <|
 A0 PR (B8 t17) fun t27 =>
 A0 PR (Instr.fieldAt 210 t27 2) fun t28 =>
 A6 PR (Instr.loadAt 208 t28) fun t29 =>
 A0 PR (Instr.fieldAt 23 t1 2) fun t31 =>
 A6 PR (Instr.loadAt 3 t31) fun t32 =>
 B5 PR X 73 [t32] fun t33 =>
 watch PR [(none, (Instr.loadAt 208 t28), t29)] <|
 A0 PR (Instr.indexAt 208 t29 t23_1) fun t34 =>
 A0 PR (Instr.fieldAt 214 t34 0) fun t35 =>
 A0 PR (Instr.fieldAt 212 t35 0) fun t36 =>
 C3 PR X (Instr.storeAt 84 t36 t33) <|
 J3) fun J4 =>
 C6 t24 (
 J4) (
 J1 t23_1)) (.int .i64 0)) fun J5 =>
 A6 PR (Instr.loadAt 23 t1) fun t7 =>
 B5 PR X 65 [t7] fun t8 =>
 A0 PR (binOp .neq 27 t8 (.int .i64 0)) fun t10 =>
 C6 t10 (
 R (.tuple #[(.pointer none), t8])) (
 J5 (.pointer none) (.int .i64 0))
theorem B6j : A9 PR 59 := A7 Tryz.func59 (by kernel_rfl) rfl
theorem B8P {X : Nat → Prop} {t0 : Value} {R : Value → WP} {w : World} (h : B09 X t0 R w) : Fn PR X 59 #[t0] w R := C8 (args := [t0]) mixed Tryz.func59 (by kernel_rfl) h
def A3w (X : Nat → Prop) (t0 t1 t2 : Value) (R : Value → WP) : WP :=
 B3 PR X (Instr.box 64 t1) fun t4 =>
 B3 PR X (Instr.alloc 55 true (.tuple #[])) fun t6 =>
 A0 PR (Instr.build 216 #[(0, (.func (.func 118) #[] #[])), (1, (.func (.func 119) #[] #[])), (2, (.func (.func 120) #[] #[])), (3, (.func (.func 121) #[] #[]))]) fun t8 =>
 B3 PR X (Instr.alloc 216 true (.tuple #[])) fun t7 =>
 C3 PR X (Instr.storeAt 216 t7 t8) <|
 jn (n := 0) (
 drw <|
 A0 PR (Instr.fieldAt 64 t4 0) fun t18 =>
 A6 PR (Instr.loadAt 3 t18) fun t19 =>
 A0 PR (Instr.indexAt 216 t7 t19) fun t20 =>
 A6 PR (Instr.loadAt 215 t20) fun t21 =>
 A6 PR (Instr.loadAt 64 t4) fun t23 =>
 L8 PR X t21 [t0, t23, t2] fun t25 =>
 C3 PR X (Instr.storeAt 55 t6 t25) <|
 A6 PR (F5 [.c 55 t6]) R) fun J1 =>
 A0 PR (Instr.fieldAt 64 t4 0) fun t9 =>
 A6 PR (Instr.loadAt 3 t9) fun t10 =>
 A0 PR (binOp .lss 3 t10 (.int .i64 0)) fun t11 =>
 gj t11 false (fun J => A0 PR (Instr.fieldAt 64 t4 0) J) fun t13 =>
 gj t11 false (fun J => A6 PR (Instr.loadAt 3 t13) J) fun t14 =>
 gj t11 false (fun J => A0 PR (binOp .geq 3 t14 (.int .i64 4)) J) fun t15 =>
 A0 PR (do pure (if ← asBool t11 then (.bool true) else t15)) fun t16 =>
 C6 t16 (
 A0 PR (Instr.build 55 #[(0, (.int .i64 1))]) fun t17 =>
 C3 PR X (Instr.storeAt 55 t6 t17) <|
 A6 PR (F5 [.c 55 t6]) R) (
 J1)
theorem B0a : A9 PR 60 := A7 Tryz.func60 (by kernel_rfl) rfl
theorem B10 {X : Nat → Prop} {t0 t1 t2 : Value} {R : Value → WP} {w : World} (h : A3w X t0 t1 t2 R w) : Fn PR X 60 #[t0, t1, t2] w R := C8 (args := [t0, t1, t2]) mixed Tryz.func60 (by kernel_rfl) h
def A1e (X : Nat → Prop) (t0 t1 : Value) (R : Value → WP) : WP :=
 jn (n := 1) (fun t4 =>
 A0 PR (B8 t0) fun t17 =>
 A0 PR (Instr.fieldAt 210 t17 2) fun t18 =>
 A6 PR (Instr.loadAt 208 t18) fun t19 =>
 A0 PR (Instr.indexAt 208 t19 t1) fun t21 =>
 A0 PR (Instr.fieldAt 214 t21 0) fun t22 =>
 A0 PR (Instr.fieldAt 212 t22 0) fun t23 =>
 A6 PR (Instr.loadAt 84 t23) fun t24 =>
 B5 PR X 122 [t24] fun t25 =>
 R t25) fun J1 =>
 A0 PR (binOp .lss 3 t1 (.int .i64 0)) fun t6 =>
 gj t6 false (fun J => J t1) fun t8 =>
 gj t6 false (fun J => J t0) fun t9 =>
 gj t6 false (fun J => A0 PR (B8 t9) J) fun t10 =>
 gj t6 false (fun J => A0 PR (Instr.fieldAt 210 t10 2) J) fun t11 =>
 gj t6 false (fun J => A6 PR (Instr.loadAt 208 t11) J) fun t12 =>
 gj t6 false (fun J => A0 PR (A8 .len #[208] 0 [t12]) J) fun t13 =>
 gj t6 false (fun J => A0 PR (binOp .geq 3 t8 t13) J) fun t14 =>
 A0 PR (do pure (if ← asBool t6 then (.bool true) else t14)) fun t15 =>
 C6 t15 (
 R (.slice none 0 0)) (
 J1 (.slice none 0 0))
theorem A6w : A9 PR 62 := A7 Tryz.func62 (by kernel_rfl) rfl
theorem A76 {X : Nat → Prop} {t0 t1 : Value} {R : Value → WP} {w : World} (h : A1e X t0 t1 R w) : Fn PR X 62 #[t0, t1] w R := C8 (args := [t0, t1]) mixed Tryz.func62 (by kernel_rfl) h
def A7p (X : Nat → Prop) (t0 : Value) (R : Value → WP) : WP :=
 B3 PR X (Instr.box 23 t0) fun t1 =>
 B3 PR X (Instr.alloc 27 true (.tuple #[])) fun t3 =>
 C3 PR X (Instr.storeAt 27 t3 (.int .i64 0)) <|
 A0 PR (Instr.makeFunc (.func 127) #[] #[t3]) fun t5 =>
 A0 PR (Instr.fieldAt 23 t1 0) fun t7 =>
 A6 PR (Instr.loadAt 3 t7) fun t8 =>
 L8 PR X t5 [t8, (.int .i64 1), (.int .i64 64)] fun t9 =>
 A0 PR (Instr.fieldAt 23 t1 1) fun t11 =>
 A6 PR (Instr.loadAt 3 t11) fun t12 =>
 L8 PR X t5 [t12, (.int .i64 1), (.int .i64 16)] fun t13 =>
 A0 PR (Instr.fieldAt 23 t1 2) fun t15 =>
 A6 PR (Instr.loadAt 3 t15) fun t16 =>
 L8 PR X t5 [t16, (.int .i64 1), (.int .i64 64)] fun t17 =>
 A0 PR (Instr.fieldAt 23 t1 3) fun t19 =>
 A6 PR (Instr.loadAt 3 t19) fun t20 =>
 L8 PR X t5 [t20, (.int .i64 0), (.int .i64 1000000)] fun t21 =>
 A0 PR (Instr.fieldAt 23 t1 4) fun t23 =>
 A6 PR (Instr.loadAt 3 t23) fun t24 =>
 L8 PR X t5 [t24, (.int .i64 2), (.int .i64 8)] fun t25 =>
 A6 PR (Instr.loadAt 27 t3) fun t26 =>
 R t26
theorem A57 : A9 PR 65 := A7 Tryz.func65 (by kernel_rfl) rfl
theorem B5f {X : Nat → Prop} {t0 : Value} {R : Value → WP} {w : World} (h : A7p X t0 R w) : Fn PR X 65 #[t0] w R := C8 (args := [t0]) mixed Tryz.func65 (by kernel_rfl) h
def A0P (X : Nat → Prop) (t0 t1 t2 : Value) (R : Value → WP) : WP :=
 B3 PR X (Instr.box 64 t1) fun t4 =>
 B3 PR X (Instr.alloc 55 true (.tuple #[])) fun t6 =>
 A0 PR (Instr.fieldAt 64 t4 1) fun t15 =>
 A6 PR (Instr.loadAt 9 t15) fun t16 =>
 B5 PR X 21 [t16] fun t17 =>
 A0 PR (Instr.extract t17 0) fun t18 =>
 A0 PR (Instr.extract t17 1) fun t19 =>
 B3 PR X (Instr.alloc 47 true (.tuple #[])) fun t7 =>
 C3 PR X (Instr.storeAt 47 t7 t18) <|
 jn (n := 0) (
 A0 PR (Instr.fieldAt 47 t7 0) fun t24 =>
 A6 PR (Instr.loadAt 45 t24) fun t25 =>
 B5 PR X 166 [t25] fun t26 =>
 A0 PR (Instr.extract t26 0) fun t27 =>
 A0 PR (Instr.extract t26 1) fun t28 =>
 drw <|
 A0 PR (B8 t0) fun t30 =>
 A0 PR (Instr.fieldAt 210 t30 2) fun t31 =>
 A6 PR (Instr.loadAt 208 t31) fun t32 =>
 A0 PR (B8 t0) fun t35 =>
 A0 PR (Instr.fieldAt 210 t35 0) fun t36 =>
 A0 PR (Instr.fieldAt 23 t36 1) fun t37 =>
 A6 PR (Instr.loadAt 3 t37) fun t38 =>
 B5 PR X 167 [t27, t38] fun t39 =>
 watch PR [(none, (Instr.loadAt 208 t31), t32)] <|
 A0 PR (Instr.indexAt 208 t32 t39) fun t40 =>
 drw <|
 kt (n := 2) (fun t13 t12 =>
 A0 PR (B8 t40) fun t65 =>
 A0 PR (Instr.fieldAt 214 t65 0) fun t66 =>
 A0 PR (Instr.fieldAt 212 t66 0) fun t67 =>
 C3 PR X (Instr.storeAt 84 t67 t12) <|
 A6 PR (Instr.loadAt 55 t13) fun t68 =>
 C3 PR X (Instr.storeAt 55 t6 t68) <|
 A6 PR (F5 [.c 55 t6]) R) fun C1 =>
 A0 PR (B8 t40) fun t43_1 =>
 A0 PR (Instr.fieldAt 214 t43_1 0) fun t44_1 =>
 A0 PR (Instr.fieldAt 212 t44_1 0) fun t45_1 =>
 A6 PR (Instr.loadAt 84 t45_1) fun t46_1 =>
 A0 PR (B8 t0) fun t48_1 =>
 A0 PR (Instr.fieldAt 210 t48_1 1) fun t49_1 =>
 A6 PR (Instr.loadAt 58 t49_1) fun t50_1 =>
 A6 PR (Instr.loadAt 47 t7) fun t52_1 =>
 A0 PR (B8 t0) fun t56_1 =>
 A0 PR (Instr.fieldAt 210 t56_1 0) fun t57_1 =>
 A0 PR (Instr.fieldAt 23 t57_1 3) fun t58_1 =>
 A6 PR (Instr.loadAt 3 t58_1) fun t59_1 =>
 both (B5 PR X 58 [t52_1] fun t53_2 =>
 watch PR [(none, (Instr.loadAt 3 t58_1), t59_1), (none, (Instr.loadAt 58 t49_1), t50_1), (none, (Instr.loadAt 84 t45_1), t46_1)] <|
 both (B5 PR X 168 [t46_1, t50_1, t27, t53_2, t2, t59_1] fun t60_3 =>
 A0 PR (Instr.extract t60_3 0) fun t61_3 =>
 A0 PR (Instr.extract t60_3 1) fun t62_3 =>
 B3 PR X (Instr.alloc 55 true (.tuple #[])) fun t13_3 =>
 C3 PR X (Instr.storeAt 55 t13_3 t62_3) <|
 C1 t13_3 t61_3) (both (B3 PR X (Instr.alloc 55 true (.tuple #[])) fun t13_2 =>
 watch PR [(none, (Instr.loadAt 3 t58_1), t59_1), (none, (Instr.loadAt 58 t49_1), t50_1), (none, (Instr.loadAt 84 t45_1), t46_1)] <|
 B5 PR X 168 [t46_1, t50_1, t27, t53_2, t2, t59_1] fun t60_2 =>
 A0 PR (Instr.extract t60_2 0) fun t61_2 =>
 A0 PR (Instr.extract t60_2 1) fun t62_2 =>
 C3 PR X (Instr.storeAt 55 t13_2 t62_2) <|
 C1 t13_2 t61_2) ((fun _ => True)))) (both (B3 PR X (Instr.alloc 55 true (.tuple #[])) fun t13_1 =>
 watch PR [(none, (Instr.loadAt 3 t58_1), t59_1), (none, (Instr.loadAt 47 t7), t52_1), (none, (Instr.loadAt 58 t49_1), t50_1), (none, (Instr.loadAt 84 t45_1), t46_1)] <|
 B5 PR X 58 [t52_1] fun t53_1 =>
 watch PR [(none, (Instr.loadAt 3 t58_1), t59_1), (none, (Instr.loadAt 58 t49_1), t50_1), (none, (Instr.loadAt 84 t45_1), t46_1)] <|
 B5 PR X 168 [t46_1, t50_1, t27, t53_1, t2, t59_1] fun t60_1 =>
 A0 PR (Instr.extract t60_1 0) fun t61_1 =>
 A0 PR (Instr.extract t60_1 1) fun t62_1 =>
 C3 PR X (Instr.storeAt 55 t13_1 t62_1) <|
 C1 t13_1 t61_1) ((fun _ => True)))) fun J2 =>
 A0 PR (binOp .neq 27 t19 (.int .i64 0)) fun t21 =>
 C6 t21 (
 A0 PR (Instr.build 55 #[(0, (.int .i64 9))]) fun t22 =>
 C3 PR X (Instr.storeAt 55 t6 t22) <|
 A6 PR (F5 [.c 55 t6]) R) (
 J2)
theorem A4V : A9 PR 118 := A7 Tryz.func118 (by kernel_rfl) rfl
theorem A5M {X : Nat → Prop} {t0 t1 t2 : Value} {R : Value → WP} {w : World} (h : A0P X t0 t1 t2 R w) : Fn PR X 118 #[t0, t1, t2] w R := C8 (args := [t0, t1, t2]) mixed Tryz.func118 (by kernel_rfl) h
def A07 (X : Nat → Prop) (t0 t1 t2 : Value) (R : Value → WP) : WP :=
 B3 PR X (Instr.box 64 t1) fun t4 =>
 B3 PR X (Instr.alloc 55 true (.tuple #[])) fun t6 =>
 jn (n := 0) (
 A0 PR (Instr.fieldAt 64 t4 2) fun t16 =>
 A6 PR (Instr.loadAt 58 t16) fun t17 =>
 B5 PR X 123 [t17] fun t18 =>
 A0 PR (B8 t0) fun t19 =>
 A0 PR (Instr.fieldAt 210 t19 1) fun t20 =>
 C3 PR X (Instr.storeAt 58 t20 t18) <|
 A0 PR (Instr.build 55 #[]) fun t21 =>
 C3 PR X (Instr.storeAt 55 t6 t21) <|
 A6 PR (F5 [.c 55 t6]) R) fun J1 =>
 A0 PR (Instr.fieldAt 64 t4 2) fun t8 =>
 A6 PR (Instr.loadAt 58 t8) fun t9 =>
 B5 PR X 29 [t9] fun t10 =>
 A0 PR (binOp .neq 27 t10 (.int .i64 0)) fun t12 =>
 C6 t12 (
 A0 PR (Instr.build 55 #[(0, t10)]) fun t14 =>
 C3 PR X (Instr.storeAt 55 t6 t14) <|
 A6 PR (F5 [.c 55 t6]) R) (
 J1)
theorem A6K : A9 PR 119 := A7 Tryz.func119 (by kernel_rfl) rfl
theorem A7d {X : Nat → Prop} {t0 t1 t2 : Value} {R : Value → WP} {w : World} (h : A07 X t0 t1 t2 R w) : Fn PR X 119 #[t0, t1, t2] w R := C8 (args := [t0, t1, t2]) mixed Tryz.func119 (by kernel_rfl) h
def A06 (X : Nat → Prop) (t0 t1 t2 : Value) (R : Value → WP) : WP :=
 B3 PR X (Instr.box 64 t1) fun t4 =>
 B3 PR X (Instr.alloc 55 true (.tuple #[])) fun t6 =>
 jn (n := 0) (
 B3 PR X (Instr.alloc 55 true (.tuple #[])) fun t7 =>
 drw <|
 A0 PR (B8 t0) fun t24 =>
 A0 PR (Instr.fieldAt 210 t24 2) fun t25 =>
 A6 PR (Instr.loadAt 208 t25) fun t26 =>
 A0 PR (Instr.fieldAt 64 t4 3) fun t27 =>
 A6 PR (Instr.loadAt 3 t27) fun t28 =>
 A0 PR (Instr.indexAt 208 t26 t28) fun t29 =>
 drw <|
 A0 PR (B8 t29) fun t34 =>
 A0 PR (Instr.fieldAt 214 t34 0) fun t35 =>
 A0 PR (Instr.fieldAt 212 t35 0) fun t36 =>
 A6 PR (Instr.loadAt 84 t36) fun t37 =>
 A0 PR (B8 t29) fun t39 =>
 A0 PR (Instr.fieldAt 214 t39 1) fun t40 =>
 A6 PR (Instr.loadAt 3 t40) fun t41 =>
 B5 PR X 169 [t37, t41, (.int .i64 4), t2] fun t43 =>
 A0 PR (Instr.extract t43 0) fun t44 =>
 A0 PR (Instr.extract t43 1) fun t45 =>
 A0 PR (Instr.extract t43 2) fun t46 =>
 A0 PR (B8 t29) fun t47 =>
 A0 PR (Instr.fieldAt 214 t47 0) fun t48 =>
 A0 PR (Instr.fieldAt 212 t48 0) fun t49 =>
 C3 PR X (Instr.storeAt 84 t49 t44) <|
 A0 PR (B8 t29) fun t50 =>
 A0 PR (Instr.fieldAt 214 t50 1) fun t51 =>
 C3 PR X (Instr.storeAt 3 t51 t45) <|
 A0 PR (Instr.fieldAt 55 t7 3) fun t52 =>
 C3 PR X (Instr.storeAt 3 t52 t46) <|
 A6 PR (Instr.loadAt 55 t7) fun t53 =>
 C3 PR X (Instr.storeAt 55 t6 t53) <|
 A6 PR (F5 [.c 55 t6]) R) fun J1 =>
 drw <|
 A0 PR (Instr.fieldAt 64 t4 3) fun t9 =>
 A6 PR (Instr.loadAt 3 t9) fun t10 =>
 A0 PR (binOp .lss 3 t10 (.int .i64 0)) fun t11 =>
 gj t11 false (fun J => A0 PR (Instr.fieldAt 64 t4 3) J) fun t13 =>
 gj t11 false (fun J => A6 PR (Instr.loadAt 3 t13) J) fun t14 =>
 gj t11 false (fun J => J t0) fun t15 =>
 gj t11 false (fun J => A0 PR (B8 t15) J) fun t16 =>
 gj t11 false (fun J => A0 PR (Instr.fieldAt 210 t16 2) J) fun t17 =>
 gj t11 false (fun J => A6 PR (Instr.loadAt 208 t17) J) fun t18 =>
 gj t11 false (fun J => A0 PR (A8 .len #[208] 0 [t18]) J) fun t19 =>
 gj t11 false (fun J => A0 PR (binOp .geq 3 t14 t19) J) fun t20 =>
 A0 PR (do pure (if ← asBool t11 then (.bool true) else t20)) fun t21 =>
 C6 t21 (
 A0 PR (Instr.build 55 #[(0, (.int .i64 1))]) fun t22 =>
 C3 PR X (Instr.storeAt 55 t6 t22) <|
 A6 PR (F5 [.c 55 t6]) R) (
 J1)
theorem A6u : A9 PR 120 := A7 Tryz.func120 (by kernel_rfl) rfl
theorem A7x {X : Nat → Prop} {t0 t1 t2 : Value} {R : Value → WP} {w : World} (h : A06 X t0 t1 t2 R w) : Fn PR X 120 #[t0, t1, t2] w R := C8 (args := [t0, t1, t2]) mixed Tryz.func120 (by kernel_rfl) h
def A1s (X : Nat → Prop) (t0 t1 t2 : Value) (R : Value → WP) : WP :=
 B3 PR X (Instr.box 64 t1) fun t4 =>
 B3 PR X (Instr.alloc 55 true (.tuple #[])) fun t6 =>
 B3 PR X (Instr.alloc 55 true (.tuple #[])) fun t7 =>
 jn (n := 1) (fun t14 =>
 A6 PR (Instr.loadAt 55 t7) fun t30 =>
 C3 PR X (Instr.storeAt 55 t6 t30) <|
 A6 PR (F5 [.c 55 t6]) R) fun J1 =>
 A0 PR (B8 t0) fun t10 =>
 A0 PR (Instr.fieldAt 210 t10 2) fun t11 =>
 A6 PR (Instr.loadAt 208 t11) fun t12 =>
 A0 PR (A8 .len #[208] 0 [t12]) fun t13 =>
 lp (n := 1) (fun L2 t14_1 =>
 A0 PR (binOp .lss 3 t14_1 t13) fun t15 =>
 jn (n := 0) (
 jn (n := 0) (
 A0 PR (binOp .add 3 t14_1 (.int .i64 1)) fun t29 =>
 L2 t29) fun J3 =>
 drw <|
 A0 PR (Instr.fieldAt 55 t7 3) fun t17 =>
 A6 PR (Instr.loadAt 3 t17) fun t18 =>
 A0 PR (B8 t0) fun t20 =>
 A0 PR (Instr.fieldAt 210 t20 2) fun t21 =>
 A6 PR (Instr.loadAt 208 t21) fun t22 =>
 A0 PR (Instr.indexAt 208 t22 t14_1) fun t24 =>
 A0 PR (Instr.fieldAt 214 t24 0) fun t25 =>
 B5 PR X 170 [t25] fun t26 =>
 watch PR [(none, (Instr.loadAt 3 t17), t18)] <|
 A0 PR (binOp .add 3 t18 t26) fun t27 =>
 A0 PR (Instr.fieldAt 55 t7 3) fun t28 =>
 C3 PR X (Instr.storeAt 3 t28 t27) <|
 J3) fun J4 =>
 C6 t15 (
 J4) (
 J1 t14_1)) (.int .i64 0)
theorem A7l : A9 PR 121 := A7 Tryz.func121 (by kernel_rfl) rfl
theorem A8j {X : Nat → Prop} {t0 t1 t2 : Value} {R : Value → WP} {w : World} (h : A1s X t0 t1 t2 R w) : Fn PR X 121 #[t0, t1, t2] w R := C8 (args := [t0, t1, t2]) mixed Tryz.func121 (by kernel_rfl) h
def A31 (X : Nat → Prop) (t0 t1 t2 t3 : Value) (R : Value → WP) : WP :=
 A0 PR (binOp .lss 3 t0 t1) fun t9 =>
 gj t9 false (fun J => J t0) fun t11 =>
 gj t9 false (fun J => J t2) fun t12 =>
 gj t9 false (fun J => A0 PR (binOp .gtr 3 t11 t12) J) fun t13 =>
 A0 PR (do pure (if ← asBool t9 then (.bool true) else t13)) fun t14 =>
 C6 t14 (
 C3 PR X (Instr.storeAt 27 t3 (.int .i64 1)) <|
 R (.tuple #[])) (
 R (.tuple #[]))
theorem V4 : A9 PR 127 := A7 Tryz.func127 (by kernel_rfl) rfl
theorem B17 {X : Nat → Prop} {t0 t1 t2 t3 : Value} {R : Value → WP} {w : World} (h : A31 X t0 t1 t2 t3 R w) : Fn PR X 127 #[t0, t1, t2, t3] w R := C8 (args := [t0, t1, t2, t3]) mixed Tryz.func127 (by kernel_rfl) h
def A7Q (X : Nat → Prop) (t0 t1 : Value) (R : Value → WP) : WP :=
 jn (n := 1) (fun t4 =>
 B5 PR X 135 [t0] fun t8 =>
 A0 PR (binOp .shr 89 t8 (.int .u64 32)) fun t9 =>
 A0 PR (convert 3 89 t1) fun t11 =>
 A0 PR (binOp .rem 89 t9 t11) fun t12 =>
 A0 PR (convert 89 3 t12) fun t13 =>
 R t13) fun J1 =>
 A0 PR (binOp .lss 3 t1 (.int .i64 1)) fun t6 =>
 C6 t6 (
 R (.int .i64 0)) (
 J1 (.int .i64 0))
theorem A55 : A9 PR 167 := A7 Tryz.func167 (by kernel_rfl) rfl
theorem B5k {X : Nat → Prop} {t0 t1 : Value} {R : Value → WP} {w : World} (h : A7Q X t0 t1 R w) : Fn PR X 167 #[t0, t1] w R := C8 (args := [t0, t1]) mixed Tryz.func167 (by kernel_rfl) h
def A52 (X : Nat → Prop) (t0 t1 t2 t3 t4 t5 : Value) (R : Value → WP) : WP :=
 B3 PR X (Instr.alloc 55 true (.tuple #[])) fun t13 =>
 B5 PR X 229 [t0, t1, t2, t4] fun t25 =>
 A0 PR (Instr.extract t25 0) fun t26 =>
 A0 PR (Instr.extract t25 1) fun t27 =>
 jn (n := 2) (fun t12 t14 =>
 jn (n := 1) (fun t12_1 =>
 A0 PR (binOp .add 3 t4 t5) fun t56 =>
 B5 PR X 137 [t0, t2, t14, t56] fun t57 =>
 A0 PR (Instr.extract t57 0) fun t58 =>
 A0 PR (Instr.extract t57 1) fun t59 =>
 jn (n := 1) (fun t12_2 =>
 A0 PR (Op.unary .not t27) fun t68 =>
 A0 PR (Instr.build 55 #[(1, t14), (2, t68)]) fun t69 =>
 C3 PR X (Instr.storeAt 55 t13 t69) <|
 A6 PR (F5 [.v t58, .c 55 t13]) R) fun J1 =>
 A0 PR (binOp .neq 27 t59 (.int .i64 0)) fun t61 =>
 C6 t61 (
 A0 PR (Instr.build 55 #[(0, t59)]) fun t64 =>
 C3 PR X (Instr.storeAt 55 t13 t64) <|
 A6 PR (F5 [.v t0, .c 55 t13]) R) (
 J1 t12_1)) fun J2 =>
 C6 t3 (
 B5 PR X 136 [t0, t2] fun t44 =>
 A0 PR (Instr.extract t44 0) fun t45 =>
 A0 PR (Instr.extract t44 1) fun t46 =>
 A0 PR (Instr.build 55 #[(1, t14)]) fun t49 =>
 C3 PR X (Instr.storeAt 55 t13 t49) <|
 A6 PR (F5 [.v t45, .c 55 t13]) R) (
 J2 t12)) fun J3 =>
 C6 t27 (
 J3 (.slice none 0 0) t26) (
 A0 PR (A8 .len #[58] 0 [t1]) fun t36 =>
 A0 PR (binOp .eql 3 t36 (.int .i64 0)) fun t37 =>
 C6 t37 (
 A0 PR (Instr.build 55 #[(0, (.int .i64 11))]) fun t39 =>
 C3 PR X (Instr.storeAt 55 t13 t39) <|
 A6 PR (F5 [.v t0, .c 55 t13]) R) (
 B5 PR X 135 [t2] fun t30 =>
 B5 PR X 49 [t1, t30] fun t31 =>
 J3 (.slice none 0 0) t31))
theorem U3 : A9 PR 168 := A7 Tryz.func168 (by kernel_rfl) rfl
theorem B4W {X : Nat → Prop} {t0 t1 t2 t3 t4 t5 : Value} {R : Value → WP} {w : World} (h : A52 X t0 t1 t2 t3 t4 t5 R w) : Fn PR X 168 #[t0, t1, t2, t3, t4, t5] w R := C8 (args := [t0, t1, t2, t3, t4, t5]) mixed Tryz.func168 (by kernel_rfl) h
def A2Q (X : Nat → Prop) (t0 : Value) (R : Value → WP) : WP :=
 A0 PR (B8 t0) fun t4 =>
 A0 PR (Instr.fieldAt 212 t4 0) fun t5 =>
 A6 PR (Instr.loadAt 84 t5) fun t6 =>
 B5 PR X 186 [t6, (.int .i64 1)] fun t7 =>
 R t7
theorem A8J : A9 PR 170 := A7 Tryz.func170 (by kernel_rfl) rfl
theorem A9b {X : Nat → Prop} {t0 : Value} {R : Value → WP} {w : World} (h : A2Q X t0 R w) : Fn PR X 170 #[t0] w R := C8 (args := [t0]) mixed Tryz.func170 (by kernel_rfl) h
def A7j (X : Nat → Prop) (t0 t1 t2 t3 : Value) (R : Value → WP) : WP :=
 B5 PR X 133 [t0, t2] fun t13 =>
 jn (n := 2) (fun t8 t9 =>
 A0 PR (Instr.indexAt 84 t0 t13) fun t37 =>
 A0 PR (Instr.fieldAt 218 t37 2) fun t38 =>
 A6 PR (Instr.loadAt 3 t38) fun t39 =>
 R (.tuple #[t39, (.bool true)])) fun J1 =>
 A0 PR (binOp .lss 3 t13 (.int .i64 0)) fun t15 =>
 gj t15 false (fun J => J t0) fun t17 =>
 gj t15 false (fun J => J t13) fun t18 =>
 gj t15 false (fun J => A0 PR (Instr.indexAt 84 t17 t18) J) fun t19 =>
 gj t15 false (fun J => A0 PR (Instr.fieldAt 218 t19 3) J) fun t20 =>
 gj t15 false (fun J => A6 PR (Instr.loadAt 3 t20) J) fun t21 =>
 gj t15 false (fun J => J t3) fun t22 =>
 gj t15 false (fun J => A0 PR (binOp .lss 3 t21 t22) J) fun t23 =>
 A0 PR (do pure (if ← asBool t15 then (.bool true) else t23)) fun t24 =>
 gj t24 false (fun J => J t1) fun t26 =>
 gj t24 false (fun J => J t0) fun t27 =>
 gj t24 false (fun J => J t13) fun t28 =>
 gj t24 false (fun J => A0 PR (Instr.indexAt 84 t27 t28) J) fun t29 =>
 gj t24 false (fun J => A0 PR (Instr.fieldAt 218 t29 2) J) fun t30 =>
 gj t24 false (fun J => A6 PR (Instr.loadAt 3 t30) J) fun t31 =>
 gj t24 false (fun J => B5 PR X 237 [t26, t31] J) fun t32 =>
 gj t24 false (fun J => A0 PR (binOp .lss 3 t32 (.int .i64 0)) J) fun t33 =>
 A0 PR (do pure (if ← asBool t24 then (.bool true) else t33)) fun t34 =>
 C6 t34 (
 R (.tuple #[(.int .i64 0), (.bool false)])) (
 J1 (.int .i64 0) (.bool false))
theorem B4B : A9 PR 229 := A7 Tryz.func229 (by kernel_rfl) rfl
theorem B5E {X : Nat → Prop} {t0 t1 t2 t3 : Value} {R : Value → WP} {w : World} (h : A7j X t0 t1 t2 t3 R w) : Fn PR X 229 #[t0, t1, t2, t3] w R := C8 (args := [t0, t1, t2, t3]) mixed Tryz.func229 (by kernel_rfl) h
end Go.Proofs.YtjobgnabneddjaaGreat
