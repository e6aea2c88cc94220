/- The proof of a given statement, a part of it (Args Join ShR17 Few ArgsC ArgsQ ShL19WorkerTwo ShL19 ShWorker ShSweep ShFlows Flows Flows2 Sweep Wat ShModel). No condition but what each lemma says. -/
import Derived.WalkKit
import Derived.ProofKit
import Derived.OpenShut
import Derived.Carry
import Derived.Deep.Slices
import Derived.Test.YtjobgnabneddjaaGreatRows
import Derived.Test.YtjobgnabneddjaaGreatU12
set_option linter.unusedVariables false
set_option linter.unusedSimpArgs false
namespace Go.Proofs.YtjobgnabneddjaaGreat
open Go Go.ChangeShapes Go.WideShapes Go.ChangeAt Go.RowKit
theorem C5j {w w' : World} (h : C7 [] w w') (hk : Sk B8 w w') (may : MemPlace → Prop) : w.keptBut w' may := by
 refine ⟨hk.2.2.2.1, hk.2.2.2.2, fun i hi => ?_⟩
 have h1 : w.heap[i]? = some w.heap[i] := Array.getElem?_eq_getElem hi
 have h2 : w'.heap[i]? = some w.heap[i] := h.2 i _ (by simp) h1
 rw [h1, h2]
 cases w.heap[i] <;> simp
theorem C2W {f : FuncId} {args : Array Value} {w : World} (h : Fn PR B8 f args w (fun v w' => v = .bool true ∧ C7 [] w w')) :
  Calls PR f args w fun e w' => e = .returned (.bool true) ∧ (∀ may, w.keptBut w' may) ∧ C7 [] w w' :=
 Calls.mono h fun _ w' ⟨v, he, ⟨hv, hb⟩, hs⟩ => ⟨by rw [he, hv], C5j hb hs, hb⟩
theorem own : ownKnob PR.godebug = none := by kernel_rfl
theorem C6c : laidOutB PR = true := by kernel_rfl
theorem C0V {H : Type} {enc : TypeId × Value → H} {P : Program} {f : Func} {s : ChangeSpec} {apart fresh handsOn : Bool} {W W' : World} {args : Array Value} {v : Value} {ds gs : List (DataW H)} {before pa pv : List MemPlace}
  (hW : DataW.Whole enc P f.params.toList s.vars apart W args.toList ds gs before)
  (hres : ∀ (b : Nat) (sp : Nat → Bool) (hd : Bool), DataW.TrodAll enc P W' b sp hd f.resultTypes.toList (v.resultList f.resultTypes.size) (s.fn H (ds ++ gs)).results [])
  (hargs : ∀ sp : Nat → Bool, (∀ p ∈ before, sp p.block = true) → DataW.TrodAll enc P W' 0 sp true f.params.toList args.toList (s.fn H (ds ++ gs)).args pa)
  (hvars : ∀ sp : Nat → Bool, (∀ p ∈ before, sp p.block = true) → DataW.TrodVars enc P W' sp s.vars (s.fn H (ds ++ gs)).vars pv)
  (hk : ∀ may, W.keptBut W' may) : s.post enc P f apart fresh handsOn false W args v W' := by
 have hold : ∀ p ∈ before, (fun b => decide (b < W.heap.size)) p.block = true := fun p hp => by simpa using hW.lt p hp
 exact ⟨ds, gs, before, [], pa, pv, hW, hres _ _ _, hargs _ hold, hvars _ hold, hk _, fun h => by cases h⟩
theorem B6H {v x : Value} (h : v.cells.toList = [x]) (hv : plain v = true) : v = x := by
 cases v <;> first | (simp [Value.cells] at h; exact h) | (simp [plain] at hv)
section
variable {H : Type} {enc : TypeId × Value → H} {P : Program} {w : World} {base : Nat} {spare : Nat → Bool} {held : Bool}
theorem B8u {α : Type} {f : α → List Value} {k : Nat} (hk : ∀ x, (f x).length = k) (hkp : 0 < k) {Q : α → Prop} {t e : TypeId} {fuel : Nat} {cs : List Value} {x : DataW H × List MemPlace}
  (ht : P.underlying t = some (.slice e)) (hc : P.cellsOf e = k) (h : DataW.trod enc P w base spare held fuel t cs = some x)
  (he : ∀ n cs' y, DataW.trod enc P w base spare held n e cs' = some y → ∃ a, cs' = f a ∧ Q a) :
  ∃ (v : Value) (l : List α), cs = [v] ∧ G1 w v l.length (l.flatMap f) ∧ (∀ a ∈ l, Q a) ∧ l.length ≤ maxLen := by
 rcases Go.Deep.open_slice ht h with ⟨rfl, _⟩ | ⟨a, len, cap, m, n, D, Pl, rfl, hb, hl, hm, hmm, _, hx⟩
 ·exact ⟨_, [], rfl, Or.inl ⟨rfl, rfl, none, 0, rfl⟩, by simp, by simp⟩
 have hlm : len ≤ m := by rw [hmm]; split <;> omega
 have hch : ∀ i : Fin len, ∃ a' : α, Q a' ∧ w.cells? base (a.add (i.1 * k)) k = some (f a') := by
  intro i
  obtain ⟨cs', h1, h2⟩ := hx i.1 (by omega)
  obtain ⟨a', rfl, hq⟩ := he _ _ _ h2
  rw [hc] at h1
  exact ⟨a', hq, h1⟩
 let g : Fin len → α := fun i => Classical.choose (hch i)
 have hg : ∀ i, Q (g i) ∧ w.cells? base (a.add (i.1 * k)) k = some (f (g i)) := fun i => Classical.choose_spec (hch i)
 refine ⟨_, List.ofFn g, rfl, ?_, ?_, by simp; omega⟩
 ·by_cases h0 : len = 0
  ·subst h0; exact Or.inl ⟨by simp, by simp, _, _, rfl⟩
  obtain ⟨b, o, spot⟩ := a
  have h1 := (World.cells?_some (hg ⟨0, by omega⟩).2).2.2 0 hkp
  have hfl := hk (g ⟨0, by omega⟩)
  rw [List.getElem?_eq_getElem (by omega)] at h1
  have hspot : spot = none := by simpa [Addr.add] using World.cell?_spot h1
  subst hspot
  refine Or.inr ⟨b, o, cap, by simp, fun i hi => ?_⟩
  rw [P7 hk] at hi
  simp only [List.length_ofFn] at hi
  have hd : i / k * k + i % k = i := by rw [Nat.mul_comm]; exact Nat.div_add_mod i k
  have hj : i % k < k := Nat.mod_lt _ hkp
  have hi' : i / k < len := by rw [Nat.div_lt_iff_lt_mul hkp]; exact hi
  have h2 := (World.cells?_some (hg ⟨i / k, hi'⟩).2).2.2 (i % k) hj
  rw [← hd, d8 hk _ _ _ hj, List.getElem?_ofFn, dif_pos hi']
  simp only [Option.bind_some]
  rw [← h2, b9, b9]
  simp only [Nat.add_assoc]
 ·intro a' ha'
  rw [List.mem_ofFn] at ha'
  obtain ⟨i, rfl⟩ := ha'
  exact (hg i).1
theorem r8 {t : TypeId} {k : IntKind} {fuel : Nat} {cs : List Value} {x : DataW H × List MemPlace} (ht : P.underlying t = some (.int k)) (h : DataW.trod enc P w base spare held fuel t cs = some x) :
  ∃ a : Int, cs = [.int k a] ∧ (Lit.int k a).wf = true := by
 obtain ⟨n, h1, _, h2⟩ := DataW.trod_int ht h
 exact ⟨n, h1, h2⟩
theorem B3A {α : Type} {f : α → List Value} {t e : TypeId} {Q : List α → Prop} {r : Reach} {b0 : Nat} {v : Value} {d : DataW H} {ps : List MemPlace} (ht : P.underlying t = some (.slice e)) (hval : Value.okWide P w r b0 t v) (hd : DataW.Trod enc P w base spare held t v d ps)
  (h : ∀ fuel cs x, DataW.trod enc P w base spare held fuel t cs = some x → ∃ (v : Value) (l : List α), cs = [v] ∧ G1 w v l.length (l.flatMap f) ∧ Q l) : ∃ l : List α, G1 w v l.length (l.flatMap f) ∧ Q l := by
 obtain ⟨a, len, cap, rfl⟩ := okWide_slice ht hval
 obtain ⟨fuel, hf⟩ := hd
 obtain ⟨v', l, h1, h2⟩ := h _ _ _ hf
 have : Value.slice a len cap = v' := B6H h1 rfl
 subst this
 exact ⟨l, h2⟩
end
theorem B44 {H : Type} {enc : TypeId × Value → H} {P : Program} (hl : laidOutB P = true) {W W' : World} (hb : C7 [] W W') {sp : Nat → Bool} :
  ∀ {ts : List TypeId} {vs : List Value} {ds : List (DataW H)} {ps : List MemPlace}, (ts.all fun t => P.readableRec t && decide (t < P.types.size)) = true → DataW.TrodAll enc P W 0 (fun _ => true) true ts vs ds ps →
   (∀ p ∈ ps, p.block < W.heap.size) → (∀ p ∈ ps, sp p.block = true) → DataW.TrodAll enc P W' 0 sp true ts vs ds ps := by
 intro ts
 induction ts with
 | nil => intro vs ds ps _ h _ _; cases vs <;> cases ds <;> exact h
 | cons t ts ih =>
  intro vs ds ps ht h hlt hsp
  simp only [List.all_cons, Bool.and_eq_true, decide_eq_true_eq] at ht
  obtain ⟨v, vs', d, ds', p, q, rfl, rfl, rfl, h0, hr⟩ := trodAll_cons h
  refine ⟨p, q, WideElems.Trod_stays hl ht.1.1 ht.1.2 h0 (fun x hx => ?_) (fun x hx => hsp x (List.mem_append_left _ hx)),
   ih ht.2 hr (fun x hx => hlt x (List.mem_append_right _ hx)) (fun x hx => hsp x (List.mem_append_right _ hx)), rfl⟩
  have hlt' := hlt x (List.mem_append_left _ hx)
  have e1 : W.heap[x.block]? = some W.heap[x.block] := Array.getElem?_eq_getElem hlt'
  have e2 : W'.heap[x.block]? = some W.heap[x.block] := hb.2 _ _ (by simp) e1
  cases x with
  | cell b o => show W'.cell? _ = W.cell? _; unfold World.cell?; rw [show W'.heap[b]? = W.heap[b]? from e2.trans e1.symm]
  | map b => exact e2.trans e1.symm
set_option maxRecDepth 10000
section
variable {H : Type} {enc : TypeId × Value → H} {w : World} {base : Nat} {spare : Nat → Bool} {held : Bool} {fuel : Nat} {cs : List Value} {x : DataW H × List MemPlace}
theorem C5w (h : DataW.trod enc PR w base spare held fuel 155 cs = some x) : ∃ a : E6, cs = J0 a ∧ True := by
 obtain ⟨xs, n, _, rfl, hl, hxl, hf⟩ := DataW.trod_struct B0c.und h
 have hl4 : cs.length = 2 := hl.trans (by kernel_rfl)
 have hx4 : xs.length = 2 := hxl.trans (by kernel_rfl)
 match cs, hl4 with
 | [c0, c1], _ =>
  have f0 := hf 0 _ rfl
  have f1 := hf 1 _ rfl
  rw [List.getElem?_eq_getElem (by omega)] at f0 f1
  obtain ⟨a0, e0, _⟩ := r8 Tryz.underlying3 f0
  obtain ⟨a1, e1, _⟩ := r8 Tryz.underlying3 f1
  have e0 : [c0] = [.int .i64 a0] := e0
  have e1 : [c1] = [.int .i64 a1] := e1
  cases e0; cases e1
  exact ⟨(a0, a1), rfl, trivial⟩
theorem C3N (h : DataW.trod enc PR w base spare held fuel 58 cs = some x) : ∃ (v : Value) (l : List E6), cs = [v] ∧ G1 w v l.length (l.flatMap J0) ∧ l.length ≤ maxLen := by
 obtain ⟨v, l, h1, h2, _, h3⟩ := B8u (f := J0) (k := 2) (Q := fun _ => True) (fun _ => rfl) (by omega) Tryz.underlying58 (by kernel_rfl) h (fun n cs' y hy => C5w hy)
 exact ⟨v, l, h1, h2, h3⟩
theorem B6T {r : Reach} {b0 : Nat} {v : Value} {d : DataW H} {ps : List MemPlace} (hval : Value.okWide PR w r b0 58 v) (hd : DataW.Trod enc PR w base spare held 58 v d ps) : ∃ l : List E6, G1 w v l.length (l.flatMap J0) ∧ l.length ≤ maxLen :=
 B3A Tryz.underlying58 hval hd fun _ _ _ h => C3N h
end
end Go.Proofs.YtjobgnabneddjaaGreat
namespace Go.Proofs.YtjobgnabneddjaaGreat
open Go
set_option maxRecDepth 100000
theorem jf2 : mapsRowed Tryz.prog = true := by kernel_rfl
theorem jf6 : (Program.stops Tryz.prog == []) = true := by kernel_rfl
theorem jf8 : (Program.stopKnobs Tryz.prog == []) = true := by kernel_rfl
theorem D2C : Program.stopsHeard Tryz.prog = true := by kernel_rfl
theorem D2j : Program.mayEnter Tryz.prog = true := by kernel_rfl
end Go.Proofs.YtjobgnabneddjaaGreat
namespace Go.Proofs.YtjobgnabneddjaaGreat
open Go
def x6 (X : Nat → Prop) (t0 : Value) (R : Value → WP) : WP :=
 B2 PR X (Instr.box 23 t0) fun t1 =>
 A0 PR (Instr.fieldAt 23 t1 0) fun t3 =>
 A6 PR (Instr.loadAt 3 t3) fun t4 =>
 A0 PR (binOp .leq 3 t4 (.int .i64 6)) fun t5 =>
 gj t5 true (fun J => A0 PR (Instr.fieldAt 23 t1 1) J) fun t7 =>
 gj t5 true (fun J => A6 PR (Instr.loadAt 3 t7) J) fun t8 =>
 gj t5 true (fun J => A0 PR (binOp .leq 3 t8 (.int .i64 6)) J) fun t9 =>
 A0 PR (do pure (if ← asBool t5 then t9 else (.bool false))) fun t10 =>
 gj t10 true (fun J => A0 PR (Instr.fieldAt 23 t1 2) J) fun t12 =>
 gj t10 true (fun J => A6 PR (Instr.loadAt 3 t12) J) fun t13 =>
 gj t10 true (fun J => A0 PR (binOp .leq 3 t13 (.int .i64 12)) J) fun t14 =>
 A0 PR (do pure (if ← asBool t10 then t14 else (.bool false))) fun t15 =>
 R t15
theorem A3n : A9 PR 15 := A7 Tryz.func15 (by kernel_rfl) rfl
theorem A4W {X : Nat → Prop} {t0 : Value} {R : Value → WP} {w : World} (h : x6 X t0 R w) : Fn PR X 15 #[t0] w R := C3 (args := [t0]) mixed Tryz.func15 (by kernel_rfl) h
end Go.Proofs.YtjobgnabneddjaaGreat
namespace Go.Proofs.YtjobgnabneddjaaGreat
open Go
def A6z (c : CfgV) : Bool := decide (c.wk ≤ 6) && decide (c.sh ≤ 6) && decide (c.cp ≤ 12)
theorem C3j (w : World) (c : CfgV) : Fn PR B8 15 #[c.val] w (fun r w' => r = .bool (A6z c) ∧ C7 [] w w') := by
 refine Fn.pure (A4W (TW.go (κ := false) (S := []) ?_))
 unfold x6
 simp only [CfgV.val]
 by_cases c1 : c.wk ≤ 6
 ·by_cases c2 : c.sh ≤ 6
  ·(have zz:=trivial;repeat((first|clear zz|with_reducible first|refine A3 ?_|refine A5 fun _=>?_|refine A4 fun _=>?_);try simp(disch:=first|omega|assumption|((repeat(first|exact A1|exact uH|apply A2|apply uT));first|done|fail)|(simp;first|done|omega|fail))[c1, c2]))
   exact B0 (by simp [A6z, c1, c2])
  ·(have zz:=trivial;repeat((first|clear zz|with_reducible first|refine A3 ?_|refine A5 fun _=>?_|refine A4 fun _=>?_);try simp(disch:=first|omega|assumption|((repeat(first|exact A1|exact uH|apply A2|apply uT));first|done|fail)|(simp;first|done|omega|fail))[c1, c2]))
   exact B0 (by simp [A6z, c1, c2])
 ·(have zz:=trivial;repeat((first|clear zz|with_reducible first|refine A3 ?_|refine A5 fun _=>?_|refine A4 fun _=>?_);try simp(disch:=first|omega|assumption|((repeat(first|exact A1|exact uH|apply A2|apply uT));first|done|fail)|(simp;first|done|omega|fail))[c1]))
  exact B0 (by simp [A6z, c1])
end Go.Proofs.YtjobgnabneddjaaGreat
namespace Go.Proofs.YtjobgnabneddjaaGreat
open Go Go.ChangeShapes Go.WideShapes Go.ChangeAt Go.RowKit
set_option maxRecDepth 10000
section
variable {H : Type} {enc : TypeId × Value → H} {w : World} {base : Nat} {spare : Nat → Bool} {held : Bool} {fuel : Nat} {cs : List Value} {x : DataW H × List MemPlace}
theorem C29 (h : DataW.trod enc PR w base spare held fuel 23 cs = some x) : ∃ c : CfgV, cs = [.int .i64 c.wk, .int .i64 c.sh, .int .i64 c.cp, .int .i64 c.idle, .int .i64 c.sl] ∧ True := by
 obtain ⟨xs, n, _, rfl, hl, hxl, hf⟩ := DataW.trod_struct A36.und h
 have hl4 : cs.length = 5 := hl.trans (by kernel_rfl)
 have hx4 : xs.length = 5 := hxl.trans (by kernel_rfl)
 match cs, hl4 with
 | [c0, c1, c2, c3, c4], _ =>
  have f0 := hf 0 _ rfl
  have f1 := hf 1 _ rfl
  have f2 := hf 2 _ rfl
  have f3 := hf 3 _ rfl
  have f4 := hf 4 _ rfl
  rw [List.getElem?_eq_getElem (by omega)] at f0 f1 f2 f3 f4
  obtain ⟨a0, e0, _⟩ := r8 Tryz.underlying3 f0
  obtain ⟨a1, e1, _⟩ := r8 Tryz.underlying3 f1
  obtain ⟨a2, e2, _⟩ := r8 Tryz.underlying3 f2
  obtain ⟨a3, e3, _⟩ := r8 Tryz.underlying3 f3
  obtain ⟨a4, e4, _⟩ := r8 Tryz.underlying3 f4
  have e0 : [c0] = [.int .i64 a0] := e0
  have e1 : [c1] = [.int .i64 a1] := e1
  have e2 : [c2] = [.int .i64 a2] := e2
  have e3 : [c3] = [.int .i64 a3] := e3
  have e4 : [c4] = [.int .i64 a4] := e4
  cases e0; cases e1; cases e2; cases e3; cases e4
  exact ⟨⟨a0, a1, a2, a3, a4⟩, rfl, trivial⟩
theorem C6z {v : Value} {cs : Array Value} {l : List Value} (hv : v = .agg cs) (h : v.cells.toList = l) : v = .agg l.toArray := by
 subst hv
 have : cs.toList = l := h
 rw [← this]
theorem B64 {r : Reach} {b0 : Nat} {v : Value} {d : DataW H} {ps : List MemPlace} (hval : Value.okWide PR w r b0 23 v) (hd : DataW.Trod enc PR w base spare held 23 v d ps) : ∃ c : CfgV, v = c.val := by
 obtain ⟨cs, e, _⟩ := okWide_struct A36.und hval
 obtain ⟨fuel, hf⟩ := hd
 obtain ⟨c, h, _⟩ := C29 hf
 exact ⟨c, C6z e h⟩
end
end Go.Proofs.YtjobgnabneddjaaGreat
namespace Go.Proofs.YtjobgnabneddjaaGreat
open Go Go.ChangeShapes Go.WideShapes Go.ChangeAt Go.RowKit
set_option maxRecDepth 10000
theorem B4f {α β : Type} (g : α → β) : ∀ l : List α, l.flatMap (fun a => [g a]) = l.map g
 | [] => rfl
 | a :: l => by rw [List.flatMap_cons, List.map_cons, B4f g l]; rfl
section
variable {H : Type} {enc : TypeId × Value → H} {w : World} {base : Nat} {spare : Nat → Bool} {held : Bool} {fuel : Nat} {cs : List Value} {x : DataW H × List MemPlace}
theorem B9k {P : Program} {t : TypeId} (ht : P.underlying t = some .bool) (h : DataW.trod enc P w base spare held fuel t cs = some x) : ∃ b : Bool, cs = [.bool b] := by
 obtain ⟨b, h1, h2⟩ := DataW.trod_bool ht h
 exact ⟨b, h1⟩
theorem B4H {r : Reach} {b0 : Nat} {v : Value} {d : DataW H} {ps : List MemPlace} (hval : Value.okWide PR w r b0 107 v) (hd : DataW.Trod enc PR w base spare held 107 v d ps) : ∃ l : List Bool, G1 w v l.length (l.map Value.bool) ∧ l.length ≤ maxLen := by
 obtain ⟨l, h1, h2⟩ := B3A (f := fun a : Bool => [Value.bool a]) (Q := fun l => l.length ≤ maxLen) Tryz.underlying107 hval hd fun _ _ _ h => by
  obtain ⟨v, l, h1, h2, _, h3⟩ := B8u (f := fun a : Bool => [Value.bool a]) (k := 1) (Q := fun _ => True) (fun _ => rfl) (by omega) Tryz.underlying107 (by kernel_rfl) h (fun n cs' y hy => by
   obtain ⟨a, e⟩ := B9k Tryz.underlying4 hy
   exact ⟨a, e, trivial⟩)
  exact ⟨v, l, h1, h2, h3⟩
 rw [B4f] at h1
 exact ⟨l, h1, h2⟩
end
end Go.Proofs.YtjobgnabneddjaaGreat
namespace Go.Proofs.YtjobgnabneddjaaGreat
open Go
def j6 (X : Nat → Prop) (t0 t1 t2 t3 : Value) (R : Value → WP) : WP :=
 B2 PR X (Instr.box 23 t0) fun t4 =>
 B4 PR X 14 [] fun t24 =>
 jn (n := 1) (fun t8 =>
 A6 PR (Instr.loadAt 23 t4) fun t27 =>
 B4 PR X 15 [t27] fun t28 =>
 B4 PR X 21 [t1] fun t31 =>
 A0 PR (Instr.extract t31 0) fun t32 =>
 A0 PR (Instr.extract t31 1) fun t33 =>
 B2 PR X (Instr.alloc 47 true (.tuple #[])) fun t11 =>
 C0 PR X (Instr.storeAt 47 t11 t32) <|
 jn (n := 1) (fun t8_1 =>
 A6 PR (Instr.loadAt 23 t4) fun t76 =>
 B4 PR X 16 [t76] fun t77 =>
 A0 PR (Instr.extract t77 0) fun t78 =>
 A0 PR (Instr.extract t77 1) fun t79 =>
 jn (n := 1) (fun t8_2 =>
 B4 PR X 17 [(.int .i64 1), t1] fun t88 =>
 B4 PR X 17 [(.int .i64 2), t1] fun t90 =>
 jn (n := 1) (fun t8_3 =>
 A6 PR (Instr.loadAt 23 t4) fun t102 =>
 B4 PR X 42 [t102] fun t103 =>
 A0 PR (Instr.build 79 #[(0, (.int .i64 4)), (2, t2)]) fun t107 =>
 B4 PR X 44 [t78, t103, t107] fun t108 =>
 A0 PR (Instr.build 79 #[(0, (.int .i64 6))]) fun t111 =>
 B4 PR X 44 [t78, t103, t111] fun t112 =>
 jn (n := 1) (fun t18 =>
 jn (n := 1) (fun t19 =>
 jn (n := 1) (fun t20 =>
 jn (n := 1) (fun t21 =>
 B4 PR X 27 [t88] fun t151 =>
 B4 PR X 27 [t90] fun t153 =>
 B2 PR X (Instr.alloc 55 true (.tuple #[])) fun t22 =>
 B2 PR X (Instr.alloc 55 true (.tuple #[])) fun t23 =>
 C0 PR X (Instr.storeAt 55 t22 t151) <|
 C0 PR X (Instr.storeAt 55 t23 t153) <|
 gj t24 true (fun J => J t88) fun t156 =>
 gj t24 true (fun J => B4 PR X 22 [t156] J) fun t157 =>
 gj t24 true (fun J => A0 PR (binOp .eql 3 t157 (.int .i64 10)) J) fun t158 =>
 A0 PR (do pure (if ← asBool t24 then t158 else (.bool false))) fun t159 =>
 gj t159 true (fun J => J t90) fun t161 =>
 gj t159 true (fun J => B4 PR X 22 [t161] J) fun t162 =>
 gj t159 true (fun J => A0 PR (binOp .eql 3 t162 (.int .i64 10)) J) fun t163 =>
 A0 PR (do pure (if ← asBool t159 then t163 else (.bool false))) fun t164 =>
 gj t164 true (fun J => A0 PR (Instr.fieldAt 55 t22 0) J) fun t166 =>
 gj t164 true (fun J => A6 PR (Instr.loadAt 27 t166) J) fun t167 =>
 gj t164 true (fun J => A0 PR (binOp .eql 27 t167 (.int .i64 0)) J) fun t168 =>
 A0 PR (do pure (if ← asBool t164 then t168 else (.bool false))) fun t169 =>
 gj t169 true (fun J => A0 PR (Instr.fieldAt 55 t23 0) J) fun t171 =>
 gj t169 true (fun J => A6 PR (Instr.loadAt 27 t171) J) fun t172 =>
 gj t169 true (fun J => A0 PR (binOp .eql 27 t172 (.int .i64 0)) J) fun t173 =>
 A0 PR (do pure (if ← asBool t169 then t173 else (.bool false))) fun t174 =>
 gj t174 true (fun J => A0 PR (Instr.fieldAt 55 t22 1) J) fun t176 =>
 gj t174 true (fun J => A6 PR (Instr.loadAt 3 t176) J) fun t177 =>
 gj t174 true (fun J => A0 PR (Instr.fieldAt 55 t23 1) J) fun t178 =>
 gj t174 true (fun J => A6 PR (Instr.loadAt 3 t178) J) fun t179 =>
 gj t174 true (fun J => A0 PR (binOp .eql 3 t177 t179) J) fun t180 =>
 A0 PR (do pure (if ← asBool t174 then t180 else (.bool false))) fun t181 =>
 gj t181 true (fun J => A0 PR (Instr.fieldAt 55 t22 2) J) fun t183 =>
 gj t181 true (fun J => A6 PR (Instr.loadAt 4 t183) J) fun t184 =>
 gj t181 true (fun J => A0 PR (Instr.fieldAt 55 t23 2) J) fun t185 =>
 gj t181 true (fun J => A6 PR (Instr.loadAt 4 t185) J) fun t186 =>
 gj t181 true (fun J => A0 PR (binOp .neq 4 t184 t186) J) fun t187 =>
 A0 PR (do pure (if ← asBool t181 then t187 else (.bool false))) fun t188 =>
 gj t188 true (fun J => J t78) fun t190 =>
 gj t188 true (fun J => B4 PR X 24 [t190] J) fun t191 =>
 gj t188 true (fun J => A0 PR (A8 .len #[51] 0 [t191]) J) fun t192 =>
 gj t188 true (fun J => A0 PR (binOp .eql 3 t192 (.int .i64 1)) J) fun t193 =>
 A0 PR (do pure (if ← asBool t188 then t193 else (.bool false))) fun t194 =>
 R t194) fun J1 =>
 lp (n := 1) (fun L2 t21_1 =>
 jn (n := 0) (
 jn (n := 0) (
 A0 PR (binOp .add 3 t21_1 (.int .i64 1)) fun t146 =>
 L2 t146) fun J3 =>
 B4 PR X 20 [t88, t78] fun t149 =>
 J3) fun J4 =>
 A0 PR (binOp .lss 3 t21_1 (.int .i64 20)) fun t144 =>
 C4 t144 (
 J4) (
 J1 t21_1)) (.int .i64 0)) fun J5 =>
 lp (n := 1) (fun L6 t20_1 =>
 jn (n := 0) (
 jn (n := 0) (
 A0 PR (binOp .add 3 t20_1 (.int .i64 1)) fun t139 =>
 L6 t139) fun J7 =>
 B4 PR X 20 [t90, t78] fun t142 =>
 J7) fun J8 =>
 A0 PR (binOp .lss 3 t20_1 (.int .i64 20)) fun t137 =>
 C4 t137 (
 J8) (
 J5 t20_1)) (.int .i64 0)) fun J9 =>
 lp (n := 1) (fun L10 t19_1 =>
 jn (n := 0) (
 jn (n := 0) (
 A0 PR (binOp .add 3 t19_1 (.int .i64 1)) fun t132 =>
 L10 t132) fun J11 =>
 B4 PR X 20 [t88, t78] fun t135 =>
 J11) fun J12 =>
 A0 PR (binOp .lss 3 t19_1 (.int .i64 20)) fun t130 =>
 C4 t130 (
 J12) (
 J9 t19_1)) (.int .i64 0)) fun J13 =>
 lp (n := 1) (fun L14 t18_1 =>
 jn (n := 0) (
 jn (n := 0) (
 A0 PR (binOp .add 3 t18_1 (.int .i64 1)) fun t118 =>
 L14 t118) fun J15 =>
 A0 PR (Instr.indexAt 107 t3 t18_1) fun t121 =>
 A6 PR (Instr.loadAt 4 t121) fun t122 =>
 C4 t122 (
 B4 PR X 20 [t88, t78] fun t125 =>
 J15) (
 B4 PR X 20 [t90, t78] fun t128 =>
 J15)) fun J16 =>
 A0 PR (A8 .len #[107] 0 [t3]) fun t115 =>
 A0 PR (binOp .lss 3 t18_1 t115) fun t116 =>
 C4 t116 (
 J16) (
 J13 t18_1)) (.int .i64 0)) fun J17 =>
 B4 PR X 18 [t78] fun t92 =>
 A0 PR (Op.unary .not t92) fun t93 =>
 gj t93 false (fun J => J t88) fun t95 =>
 gj t93 false (fun J => A6 PR (H8 .eql 30 (.tmp 95) (.const (.pointer none)) t95 (.pointer none)) J) fun t96 =>
 A0 PR (do pure (if ← asBool t93 then (.bool true) else t96)) fun t97 =>
 gj t97 false (fun J => J t90) fun t99 =>
 gj t97 false (fun J => A6 PR (H8 .eql 30 (.tmp 99) (.const (.pointer none)) t99 (.pointer none)) J) fun t100 =>
 A0 PR (do pure (if ← asBool t97 then (.bool true) else t100)) fun t101 =>
 C4 t101 (
 R (.bool false)) (
 J17 t8_2)) fun J18 =>
 A0 PR (binOp .neq 27 t79 (.int .i64 0)) fun t81 =>
 C4 t81 (
 gj t24 true (fun J => J t78) fun t84 =>
 gj t24 true (fun J => A6 PR (H8 .eql 26 (.tmp 84) (.const (.pointer none)) t84 (.pointer none)) J) fun t85 =>
 A0 PR (do pure (if ← asBool t24 then t85 else (.bool false))) fun t86 =>
 R t86) (
 J18 t8_1)) fun J19 =>
 A0 PR (Op.unary .not t28) fun t35 =>
 gj t35 false (fun J => J t1) fun t37 =>
 gj t35 false (fun J => A0 PR (A8 .len #[9] 0 [t37]) J) fun t38 =>
 gj t35 false (fun J => A0 PR (binOp .gtr 3 t38 (.int .i64 100)) J) fun t39 =>
 A0 PR (do pure (if ← asBool t35 then (.bool true) else t39)) fun t40 =>
 gj t40 false (fun J => J t3) fun t42 =>
 gj t40 false (fun J => A0 PR (A8 .len #[107] 0 [t42]) J) fun t43 =>
 gj t40 false (fun J => A0 PR (binOp .gtr 3 t43 (.int .i64 60)) J) fun t44 =>
 A0 PR (do pure (if ← asBool t40 then (.bool true) else t44)) fun t45 =>
 gj t45 false (fun J => J t2) fun t47 =>
 gj t45 false (fun J => A0 PR (A8 .len #[58] 0 [t47]) J) fun t48 =>
 gj t45 false (fun J => A0 PR (binOp .eql 3 t48 (.int .i64 0)) J) fun t49 =>
 A0 PR (do pure (if ← asBool t45 then (.bool true) else t49)) fun t50 =>
 gj t50 false (fun J => J t2) fun t52 =>
 gj t50 false (fun J => A0 PR (A8 .len #[58] 0 [t52]) J) fun t53 =>
 gj t50 false (fun J => A0 PR (binOp .gtr 3 t53 (.int .i64 8)) J) fun t54 =>
 A0 PR (do pure (if ← asBool t50 then (.bool true) else t54)) fun t55 =>
 gj t55 false (fun J => J t2) fun t57 =>
 gj t55 false (fun J => B4 PR X 29 [t57] J) fun t58 =>
 gj t55 false (fun J => A0 PR (binOp .neq 27 t58 (.int .i64 0)) J) fun t59 =>
 A0 PR (do pure (if ← asBool t55 then (.bool true) else t59)) fun t60 =>
 gj t60 false (fun J => J t33) fun t62 =>
 gj t60 false (fun J => A0 PR (binOp .neq 27 t62 (.int .i64 0)) J) fun t63 =>
 A0 PR (do pure (if ← asBool t60 then (.bool true) else t63)) fun t64 =>
 gj t64 false (fun J => A6 PR (Instr.loadAt 47 t11) J) fun t66 =>
 gj t64 false (fun J => B4 PR X 58 [t66] J) fun t67 =>
 A0 PR (do pure (if ← asBool t64 then (.bool true) else t67)) fun t68 =>
 gj t68 false (fun J => A0 PR (Instr.fieldAt 23 t4 0) J) fun t70 =>
 gj t68 false (fun J => A6 PR (Instr.loadAt 3 t70) J) fun t71 =>
 gj t68 false (fun J => A0 PR (binOp .lss 3 t71 (.int .i64 2)) J) fun t72 =>
 A0 PR (do pure (if ← asBool t68 then (.bool true) else t72)) fun t73 =>
 C4 t73 (
 R t24) (
 J19 t8)) fun J20 =>
 A0 PR (Op.unary .not t24) fun t26 =>
 C4 t26 (
 R (.bool false)) (
 J20 (.bool false))
theorem A2U {X : Nat → Prop} {t0 t1 t2 t3 : Value} {R : Value → WP} {w : World} (h : j6 X t0 t1 t2 t3 R w) : Fn PR X 11 #[t0, t1, t2, t3] w R := C3 (args := [t0, t1, t2, t3]) mixed Tryz.func11 (by kernel_rfl) h
end Go.Proofs.YtjobgnabneddjaaGreat
namespace Go.Proofs.YtjobgnabneddjaaGreat
open Go
def x5 (X : Nat → Prop) (R : Value → WP) : WP :=
 A0 PR (Instr.build 23 #[(0, (.int .i64 1)), (1, (.int .i64 1)), (2, (.int .i64 1)), (3, (.int .i64 5)), (4, (.int .i64 2))]) fun t10 =>
 B4 PR X 16 [t10] fun t11 =>
 A0 PR (Instr.extract t11 0) fun t12 =>
 A0 PR (Instr.extract t11 1) fun t13 =>
 jn (n := 1) (fun t0 =>
 A0 PR (Instr.build 45 #[(0, (.int .i64 4)), (1, (.string (ByteArray.mk #[97, 98, 99, 100]))), (2, (.string (ByteArray.mk #[101, 102, 103, 104]))), (3, (.int .i64 1)), (4, (.int .i64 2)), (5, (.int .i64 17))]) fun t17 =>
 A0 PR (Instr.build 47 #[(0, t17)]) fun t18 =>
 B4 PR X 64 [t18] fun t19 =>
 A0 PR (Instr.extract t19 0) fun t20 =>
 A0 PR (Instr.extract t19 1) fun t21 =>
 B4 PR X 17 [(.int .i64 1), t20] fun t23 =>
 B4 PR X 17 [(.int .i64 1), (.string (ByteArray.mk #[]))] fun t24 =>
 jn (n := 1) (fun t0_1 =>
 jn (n := 1) (fun t7 =>
 B4 PR X 20 [t24, t12] fun t45 =>
 B2 PR X (Instr.alloc 42 true (.tuple #[])) fun t8 =>
 C0 PR X (Instr.storeAt 42 t8 t45) <|
 A0 PR (binOp .eql 3 t7 (.int .i64 10)) fun t47 =>
 gj t47 true (fun J => J t23) fun t49 =>
 gj t47 true (fun J => B4 PR X 27 [t49] J) fun t50 =>
 gj t47 true (fun J => A0 PR (Instr.build 55 #[(0, (.int .i64 11))]) J) fun t51 =>
 gj t47 true (fun J => A6 PR (H8 .eql 55 (.tmp 50) (.tmp 51) t50 t51) J) fun t52 =>
 A0 PR (do pure (if ← asBool t47 then t52 else (.bool false))) fun t53 =>
 gj t53 true (fun J => J t23) fun t55 =>
 gj t53 true (fun J => B4 PR X 22 [t55] J) fun t56 =>
 gj t53 true (fun J => A0 PR (binOp .eql 3 t56 (.int .i64 10)) J) fun t57 =>
 A0 PR (do pure (if ← asBool t53 then t57 else (.bool false))) fun t58 =>
 gj t58 true (fun J => A6 PR (Instr.loadAt 42 t8) J) fun t60 =>
 gj t58 true (fun J => A0 PR (Instr.build 42 #[(0, (.bool true)), (1, (.bool true))]) J) fun t61 =>
 gj t58 true (fun J => A6 PR (H8 .eql 42 (.tmp 60) (.tmp 61) t60 t61) J) fun t62 =>
 A0 PR (do pure (if ← asBool t58 then t62 else (.bool false))) fun t63 =>
 gj t63 true (fun J => J t24) fun t65 =>
 gj t63 true (fun J => B4 PR X 27 [t65] J) fun t66 =>
 gj t63 true (fun J => A0 PR (Instr.build 55 #[(0, (.int .i64 9))]) J) fun t67 =>
 gj t63 true (fun J => A6 PR (H8 .eql 55 (.tmp 66) (.tmp 67) t66 t67) J) fun t68 =>
 A0 PR (do pure (if ← asBool t63 then t68 else (.bool false))) fun t69 =>
 gj t69 true (fun J => J t24) fun t71 =>
 gj t69 true (fun J => J t12) fun t72 =>
 gj t69 true (fun J => B4 PR X 23 [t71, t72] J) fun t73 =>
 gj t69 true (fun J => A0 PR (Op.unary .not t73) J) fun t74 =>
 A0 PR (do pure (if ← asBool t69 then t74 else (.bool false))) fun t75 =>
 gj t75 true (fun J => J t24) fun t77 =>
 gj t75 true (fun J => B4 PR X 22 [t77] J) fun t78 =>
 gj t75 true (fun J => A0 PR (binOp .eql 3 t78 (.int .i64 10)) J) fun t79 =>
 A0 PR (do pure (if ← asBool t75 then t79 else (.bool false))) fun t80 =>
 R t80) fun J1 =>
 lp (n := 1) (fun L2 t7_1 =>
 jn (n := 0) (
 B4 PR X 20 [t23, t12] fun t40 =>
 A0 PR (binOp .add 3 t7_1 (.int .i64 1)) fun t42 =>
 L2 t42) fun J3 =>
 A0 PR (binOp .lss 3 t7_1 (.int .i64 20)) fun t32 =>
 gj t32 true (fun J => J t23) fun t34 =>
 gj t32 true (fun J => J t12) fun t35 =>
 gj t32 true (fun J => B4 PR X 23 [t34, t35] J) fun t36 =>
 A0 PR (do pure (if ← asBool t32 then t36 else (.bool false))) fun t37 =>
 C4 t37 (
 J3) (
 J1 t7_1)) (.int .i64 0)) fun J4 =>
 A6 PR (H8 .eql 30 (.tmp 25) (.const (.pointer none)) t23 (.pointer none)) fun t26 =>
 gj t26 false (fun J => J t24) fun t28 =>
 gj t26 false (fun J => A6 PR (H8 .eql 30 (.tmp 28) (.const (.pointer none)) t28 (.pointer none)) J) fun t29 =>
 A0 PR (do pure (if ← asBool t26 then (.bool true) else t29)) fun t30 =>
 C4 t30 (
 R (.bool false)) (
 J4 t0)) fun J5 =>
 A6 PR (H8 .eql 26 (.tmp 14) (.const (.pointer none)) t12 (.pointer none)) fun t15 =>
 C4 t15 (
 R (.bool false)) (
 J5 (.bool false))
theorem A30 : A9 PR 14 := A7 Tryz.func14 (by kernel_rfl) rfl
theorem A4g {X : Nat → Prop} {R : Value → WP} {w : World} (h : x5 X R w) : Fn PR X 14 #[] w R := C3 (args := []) mixed Tryz.func14 (by kernel_rfl) h
def x8 (X : Nat → Prop) (t0 : Value) (R : Value → WP) : WP :=
 A6 PR (H8 .neq 26 (.tmp 3) (.const (.pointer none)) t0 (.pointer none)) fun t4 =>
 gj t4 true (fun J => J t0) fun t6 =>
 gj t4 true (fun J => A0 PR (B6 t6) J) fun t7 =>
 gj t4 true (fun J => A0 PR (Instr.fieldAt 39 t7 1) J) fun t8 =>
 gj t4 true (fun J => A6 PR (Instr.loadAt 33 t8) J) fun t9 =>
 gj t4 true (fun J => A6 PR (H8 .neq 33 (.tmp 9) (.const (.pointer none)) t9 (.pointer none)) J) fun t10 =>
 A0 PR (do pure (if ← asBool t4 then t10 else (.bool false))) fun t11 =>
 gj t11 true (fun J => J t0) fun t13 =>
 gj t11 true (fun J => A0 PR (B6 t13) J) fun t14 =>
 gj t11 true (fun J => A0 PR (Instr.fieldAt 39 t14 2) J) fun t15 =>
 gj t11 true (fun J => A6 PR (Instr.loadAt 34 t15) J) fun t16 =>
 gj t11 true (fun J => A6 PR (H8 .neq 34 (.tmp 16) (.const (.pointer none)) t16 (.pointer none)) J) fun t17 =>
 A0 PR (do pure (if ← asBool t11 then t17 else (.bool false))) fun t18 =>
 gj t18 true (fun J => J t0) fun t20 =>
 gj t18 true (fun J => A0 PR (B6 t20) J) fun t21 =>
 gj t18 true (fun J => A0 PR (Instr.fieldAt 39 t21 3) J) fun t22 =>
 gj t18 true (fun J => A6 PR (Instr.loadAt 35 t22) J) fun t23 =>
 gj t18 true (fun J => A6 PR (H8 .neq 35 (.tmp 23) (.const (.pointer none)) t23 (.pointer none)) J) fun t24 =>
 A0 PR (do pure (if ← asBool t18 then t24 else (.bool false))) fun t25 =>
 R t25
theorem A33 : A9 PR 18 := A7 Tryz.func18 (by kernel_rfl) rfl
theorem A4j {X : Nat → Prop} {t0 : Value} {R : Value → WP} {w : World} (h : x8 X t0 R w) : Fn PR X 18 #[t0] w R := C3 (args := [t0]) mixed Tryz.func18 (by kernel_rfl) h
def s5 (X : Nat → Prop) (t0 t1 t2 : Value) (R : Value → WP) : WP :=
 B2 PR X (Instr.box 79 t2) fun t5 =>
 A0 PR (Instr.fieldAt 79 t5 0) fun t8 =>
 A6 PR (Instr.loadAt 3 t8) fun t9 =>
 A0 PR (binOp .eql 3 t9 (.int .i64 1)) fun t11 =>
 C4 t11 (
 A0 PR (B6 t0) fun t13 =>
 A0 PR (Instr.fieldAt 39 t13 1) fun t14 =>
 A6 PR (Instr.loadAt 33 t14) fun t15 =>
 B4 PR X 93 [t15, (.int .i64 0), (.int .i64 1)] fun t16 =>
 A0 PR (B6 t1) fun t19 =>
 A0 PR (Instr.fieldAt 106 t19 1) fun t20 =>
 A6 PR (Instr.loadAt 3 t20) fun t21 =>
 A0 PR (binOp .add 3 t21 (.int .i64 1)) fun t22 =>
 A0 PR (B6 t1) fun t23 =>
 A0 PR (Instr.fieldAt 106 t23 1) fun t24 =>
 C0 PR X (Instr.storeAt 3 t24 t22) <|
 R (.tuple #[])) (
 A0 PR (binOp .eql 3 t9 (.int .i64 2)) fun t26 =>
 C4 t26 (
 drw <|
 A0 PR (Instr.fieldAt 79 t5 1) fun t27 =>
 A6 PR (Instr.loadAt 3 t27) fun t28 =>
 A0 PR (binOp .geq 3 t28 (.int .i64 0)) fun t29 =>
 gj t29 true (fun J => A0 PR (Instr.fieldAt 79 t5 1) J) fun t31 =>
 gj t29 true (fun J => A6 PR (Instr.loadAt 3 t31) J) fun t32 =>
 gj t29 true (fun J => J t1) fun t33 =>
 gj t29 true (fun J => A0 PR (B6 t33) J) fun t34 =>
 gj t29 true (fun J => A0 PR (Instr.fieldAt 106 t34 0) J) fun t35 =>
 gj t29 true (fun J => A0 PR (Instr.fieldAt 23 t35 1) J) fun t36 =>
 gj t29 true (fun J => A6 PR (Instr.loadAt 3 t36) J) fun t37 =>
 gj t29 true (fun J => A0 PR (binOp .lss 3 t32 t37) J) fun t38 =>
 A0 PR (do pure (if ← asBool t29 then t38 else (.bool false))) fun t39 =>
 gj t39 true (fun J => J t1) fun t41 =>
 gj t39 true (fun J => A0 PR (B6 t41) J) fun t42 =>
 gj t39 true (fun J => A0 PR (Instr.fieldAt 106 t42 4) J) fun t43 =>
 gj t39 true (fun J => A6 PR (Instr.loadAt 37 t43) J) fun t44 =>
 gj t39 true (fun J => A0 PR (Instr.fieldAt 79 t5 1) J) fun t45 =>
 gj t39 true (fun J => A6 PR (Instr.loadAt 3 t45) J) fun t46 =>
 gj t39 true (fun J => A0 PR (Instr.indexAt 37 t44 t46) J) fun t47 =>
 gj t39 true (fun J => A6 PR (Instr.loadAt 3 t47) J) fun t48 =>
 gj t39 true (fun J => A0 PR (binOp .lss 3 t48 (.int .i64 0)) J) fun t49 =>
 A0 PR (do pure (if ← asBool t39 then t49 else (.bool false))) fun t50 =>
 C4 t50 (
 drw <|
 A0 PR (B6 t0) fun t52 =>
 A0 PR (Instr.fieldAt 39 t52 1) fun t53 =>
 A6 PR (Instr.loadAt 33 t53) fun t54 =>
 A0 PR (Instr.fieldAt 79 t5 1) fun t55 =>
 A6 PR (Instr.loadAt 3 t55) fun t56 =>
 B4 PR X 19 [t54, t56, (.int .i64 99)] fun t57 =>
 drw <|
 A0 PR (B6 t1) fun t59 =>
 A0 PR (Instr.fieldAt 106 t59 4) fun t60 =>
 A6 PR (Instr.loadAt 37 t60) fun t61 =>
 A0 PR (Instr.fieldAt 79 t5 1) fun t62 =>
 A6 PR (Instr.loadAt 3 t62) fun t63 =>
 A0 PR (Instr.indexAt 37 t61 t63) fun t64 =>
 C0 PR X (Instr.storeAt 3 t64 (.int .i64 99)) <|
 R (.tuple #[])) (
 R (.tuple #[]))) (
 A0 PR (binOp .eql 3 t9 (.int .i64 3)) fun t66 =>
 C4 t66 (
 drw <|
 A0 PR (Instr.fieldAt 79 t5 1) fun t67 =>
 A6 PR (Instr.loadAt 3 t67) fun t68 =>
 A0 PR (binOp .geq 3 t68 (.int .i64 0)) fun t69 =>
 gj t69 true (fun J => A0 PR (Instr.fieldAt 79 t5 1) J) fun t71 =>
 gj t69 true (fun J => A6 PR (Instr.loadAt 3 t71) J) fun t72 =>
 gj t69 true (fun J => J t1) fun t73 =>
 gj t69 true (fun J => A0 PR (B6 t73) J) fun t74 =>
 gj t69 true (fun J => A0 PR (Instr.fieldAt 106 t74 0) J) fun t75 =>
 gj t69 true (fun J => A0 PR (Instr.fieldAt 23 t75 1) J) fun t76 =>
 gj t69 true (fun J => A6 PR (Instr.loadAt 3 t76) J) fun t77 =>
 gj t69 true (fun J => A0 PR (binOp .lss 3 t72 t77) J) fun t78 =>
 A0 PR (do pure (if ← asBool t69 then t78 else (.bool false))) fun t79 =>
 gj t79 true (fun J => J t1) fun t81 =>
 gj t79 true (fun J => A0 PR (B6 t81) J) fun t82 =>
 gj t79 true (fun J => A0 PR (Instr.fieldAt 106 t82 4) J) fun t83 =>
 gj t79 true (fun J => A6 PR (Instr.loadAt 37 t83) J) fun t84 =>
 gj t79 true (fun J => A0 PR (Instr.fieldAt 79 t5 1) J) fun t85 =>
 gj t79 true (fun J => A6 PR (Instr.loadAt 3 t85) J) fun t86 =>
 gj t79 true (fun J => A0 PR (Instr.indexAt 37 t84 t86) J) fun t87 =>
 gj t79 true (fun J => A6 PR (Instr.loadAt 3 t87) J) fun t88 =>
 gj t79 true (fun J => A0 PR (binOp .eql 3 t88 (.int .i64 99)) J) fun t89 =>
 A0 PR (do pure (if ← asBool t79 then t89 else (.bool false))) fun t90 =>
 C4 t90 (
 drw <|
 A0 PR (B6 t0) fun t92 =>
 A0 PR (Instr.fieldAt 39 t92 1) fun t93 =>
 A6 PR (Instr.loadAt 33 t93) fun t94 =>
 A0 PR (Instr.fieldAt 79 t5 1) fun t95 =>
 A6 PR (Instr.loadAt 3 t95) fun t96 =>
 B4 PR X 25 [t94, t96, (.int .i64 99)] fun t97 =>
 drw <|
 A0 PR (B6 t1) fun t99 =>
 A0 PR (Instr.fieldAt 106 t99 4) fun t100 =>
 A6 PR (Instr.loadAt 37 t100) fun t101 =>
 A0 PR (Instr.fieldAt 79 t5 1) fun t102 =>
 A6 PR (Instr.loadAt 3 t102) fun t103 =>
 A0 PR (Instr.indexAt 37 t101 t103) fun t104 =>
 C0 PR X (Instr.storeAt 3 t104 (.int .i64 (-1))) <|
 R (.tuple #[])) (
 R (.tuple #[]))) (
 A0 PR (binOp .eql 3 t9 (.int .i64 4)) fun t106 =>
 C4 t106 (
 drw <|
 A0 PR (B6 t0) fun t108 =>
 A0 PR (Instr.fieldAt 39 t108 2) fun t109 =>
 A6 PR (Instr.loadAt 34 t109) fun t110 =>
 A0 PR (Instr.fieldAt 79 t5 1) fun t111 =>
 A6 PR (Instr.loadAt 3 t111) fun t112 =>
 B4 PR X 94 [t110, t112] fun t113 =>
 drw <|
 A0 PR (B6 t0) fun t115 =>
 A0 PR (Instr.fieldAt 39 t115 2) fun t116 =>
 A6 PR (Instr.loadAt 34 t116) fun t117 =>
 A0 PR (Instr.fieldAt 79 t5 1) fun t118 =>
 A6 PR (Instr.loadAt 3 t118) fun t119 =>
 A0 PR (Instr.fieldAt 79 t5 2) fun t120 =>
 A6 PR (Instr.loadAt 58 t120) fun t121 =>
 B4 PR X 95 [t117, t119, t121] fun t122 =>
 drw <|
 A0 PR (B6 t1) fun t125 =>
 A0 PR (Instr.fieldAt 106 t125 5) fun t126 =>
 A6 PR (Instr.loadAt 103 t126) fun t127 =>
 A0 PR (Instr.fieldAt 79 t5 1) fun t128 =>
 A6 PR (Instr.loadAt 3 t128) fun t129 =>
 B4 PR X 96 [t127, t129] fun t130 =>
 A0 PR (Instr.extract t130 0) fun t131 =>
 A0 PR (Instr.extract t130 1) fun t132 =>
 C4 t132 (
 A0 PR (Instr.fieldAt 79 t5 1) fun t137 =>
 A6 PR (Instr.loadAt 3 t137) fun t138 =>
 A0 PR (Instr.fieldAt 79 t5 2) fun t139 =>
 A6 PR (Instr.loadAt 58 t139) fun t140 =>
 B4 PR X 97 [t131, t138, t140] fun t141 =>
 A0 PR (Instr.extract t141 0) fun t142 =>
 A0 PR (Instr.extract t141 1) fun t143 =>
 A0 PR (B6 t1) fun t144 =>
 A0 PR (Instr.fieldAt 106 t144 5) fun t145 =>
 C0 PR X (Instr.storeAt 103 t145 t142) <|
 R (.tuple #[])) (
 R (.tuple #[]))) (
 A0 PR (binOp .eql 3 t9 (.int .i64 5)) fun t147 =>
 C4 t147 (
 drw <|
 A0 PR (B6 t0) fun t149 =>
 A0 PR (Instr.fieldAt 39 t149 2) fun t150 =>
 A6 PR (Instr.loadAt 34 t150) fun t151 =>
 A0 PR (Instr.fieldAt 79 t5 1) fun t152 =>
 A6 PR (Instr.loadAt 3 t152) fun t153 =>
 B4 PR X 98 [t151, t153] fun t154 =>
 drw <|
 A0 PR (B6 t1) fun t158 =>
 A0 PR (Instr.fieldAt 106 t158 5) fun t159 =>
 A6 PR (Instr.loadAt 103 t159) fun t160 =>
 A0 PR (Instr.fieldAt 79 t5 1) fun t161 =>
 A6 PR (Instr.loadAt 3 t161) fun t162 =>
 B4 PR X 99 [t160, t162] fun t163 =>
 A0 PR (Instr.extract t163 0) fun t164 =>
 A0 PR (Instr.extract t163 1) fun t165 =>
 A0 PR (B6 t1) fun t166 =>
 A0 PR (Instr.fieldAt 106 t166 5) fun t167 =>
 C0 PR X (Instr.storeAt 103 t167 t164) <|
 R (.tuple #[])) (
 A0 PR (binOp .eql 3 t9 (.int .i64 6)) fun t169 =>
 C4 t169 (
 drw <|
 A0 PR (Instr.fieldAt 79 t5 1) fun t170 =>
 A6 PR (Instr.loadAt 3 t170) fun t171 =>
 A0 PR (binOp .geq 3 t171 (.int .i64 (-1))) fun t172 =>
 gj t172 true (fun J => A0 PR (Instr.fieldAt 79 t5 1) J) fun t174 =>
 gj t172 true (fun J => A6 PR (Instr.loadAt 3 t174) J) fun t175 =>
 gj t172 true (fun J => J t1) fun t176 =>
 gj t172 true (fun J => A0 PR (B6 t176) J) fun t177 =>
 gj t172 true (fun J => A0 PR (Instr.fieldAt 106 t177 0) J) fun t178 =>
 gj t172 true (fun J => A0 PR (Instr.fieldAt 23 t178 4) J) fun t179 =>
 gj t172 true (fun J => A6 PR (Instr.loadAt 3 t179) J) fun t180 =>
 gj t172 true (fun J => A0 PR (binOp .lss 3 t175 t180) J) fun t181 =>
 A0 PR (do pure (if ← asBool t172 then t181 else (.bool false))) fun t182 =>
 C4 t182 (
 drw <|
 A0 PR (B6 t0) fun t184 =>
 A0 PR (Instr.fieldAt 39 t184 1) fun t185 =>
 A6 PR (Instr.loadAt 33 t185) fun t186 =>
 A0 PR (Instr.fieldAt 79 t5 1) fun t187 =>
 A6 PR (Instr.loadAt 3 t187) fun t188 =>
 A0 PR (binOp .add 3 t188 (.int .i64 1)) fun t189 =>
 B4 PR X 31 [t186, (.int .i64 1), t189] fun t190 =>
 A0 PR (Instr.fieldAt 79 t5 1) fun t192 =>
 A6 PR (Instr.loadAt 3 t192) fun t193 =>
 A0 PR (binOp .add 3 t193 (.int .i64 1)) fun t194 =>
 A0 PR (B6 t1) fun t195 =>
 A0 PR (Instr.fieldAt 106 t195 2) fun t196 =>
 C0 PR X (Instr.storeAt 3 t196 t194) <|
 R (.tuple #[])) (
 R (.tuple #[]))) (
 A0 PR (binOp .eql 3 t9 (.int .i64 7)) fun t198 =>
 C4 t198 (
 A0 PR (Instr.fieldAt 79 t5 1) fun t200 =>
 A6 PR (Instr.loadAt 3 t200) fun t201 =>
 B4 PR X 100 [t0, t201] fun t202 =>
 A0 PR (Instr.fieldAt 79 t5 1) fun t204 =>
 A6 PR (Instr.loadAt 3 t204) fun t205 =>
 B4 PR X 101 [t1, t205] fun t206 =>
 R (.tuple #[])) (
 R (.tuple #[]))))))))
theorem A3N : A9 PR 44 := A7 Tryz.func44 (by kernel_rfl) rfl
theorem A3g {X : Nat → Prop} {t0 t1 t2 : Value} {R : Value → WP} {w : World} (h : s5 X t0 t1 t2 R w) : Fn PR X 44 #[t0, t1, t2] w R := C3 (args := [t0, t1, t2]) mixed Tryz.func44 (by kernel_rfl) h
end Go.Proofs.YtjobgnabneddjaaGreat
namespace Go.Proofs.YtjobgnabneddjaaGreat
open Go
def A8P (X : Nat → Prop) (t0 t1 : Value) (R : Value → WP) : WP :=
 A0 PR (Instr.build 128 #[(0, t1)]) fun t6 =>
 A0 PR (Instr.build 130 #[(0, t6), (1, t0)]) fun t8 =>
 B2 PR X (Instr.box 130 t8) fun t9 =>
 R t9
theorem v8 : A9 PR 17 := A7 Tryz.func17 (by kernel_rfl) rfl
theorem B5W {X : Nat → Prop} {t0 t1 : Value} {R : Value → WP} {w : World} (h : A8P X t0 t1 R w) : Fn PR X 17 #[t0, t1] w R := C3 (args := [t0, t1]) mixed Tryz.func17 (by kernel_rfl) h
def A2k (X : Nat → Prop) (t0 t1 : Value) (R : Value → WP) : WP :=
 B2 PR X (Instr.alloc 42 true (.tuple #[])) fun t4 =>
 jn (n := 0) (
 A0 PR (Instr.build 144 #[(0, (.func (.func 76) #[] #[])), (1, (.func (.func 77) #[] #[])), (2, (.func (.func 78) #[] #[])), (3, (.func (.func 79) #[] #[])), (4, (.func (.func 80) #[] #[])), (5, (.func (.func 81) #[] #[])), (6, (.func (.func 82) #[] #[])), (7, (.func (.func 83) #[] #[])), (8, (.func (.func 84) #[] #[])), (9, (.func (.func 85) #[] #[]))]) fun t12 =>
 B2 PR X (Instr.alloc 144 true (.tuple #[])) fun t5 =>
 C0 PR X (Instr.storeAt 144 t5 t12) <|
 A0 PR (B6 t0) fun t14 =>
 A0 PR (Instr.fieldAt 130 t14 2) fun t15 =>
 A6 PR (Instr.loadAt 3 t15) fun t16 =>
 A0 PR (B6 t0) fun t18 =>
 A0 PR (Instr.fieldAt 130 t18 2) fun t19 =>
 A6 PR (Instr.loadAt 3 t19) fun t20 =>
 A0 PR (binOp .add 3 t20 (.int .i64 1)) fun t21 =>
 A0 PR (B6 t0) fun t22 =>
 A0 PR (Instr.fieldAt 130 t22 2) fun t23 =>
 C0 PR X (Instr.storeAt 3 t23 t21) <|
 A0 PR (Instr.indexAt 144 t5 t16) fun t25 =>
 A6 PR (Instr.loadAt 143 t25) fun t26 =>
 L5 PR X t26 [t0, t1] fun t29 =>
 C0 PR X (Instr.storeAt 42 t4 t29) <|
 A6 PR (F8 [.c 42 t4]) R) fun J1 =>
 B4 PR X 23 [t0, t1] fun t9 =>
 A0 PR (Op.unary .not t9) fun t10 =>
 C4 t10 (
 A0 PR (Instr.build 42 #[]) fun t11 =>
 C0 PR X (Instr.storeAt 42 t4 t11) <|
 A6 PR (F8 [.c 42 t4]) R) (
 J1)
theorem p6 : A9 PR 20 := A7 Tryz.func20 (by kernel_rfl) rfl
theorem A84 {X : Nat → Prop} {t0 t1 : Value} {R : Value → WP} {w : World} (h : A2k X t0 t1 R w) : Fn PR X 20 #[t0, t1] w R := C3 (args := [t0, t1]) mixed Tryz.func20 (by kernel_rfl) h
def A1m (X : Nat → Prop) (t0 : Value) (R : Value → WP) : WP :=
 A0 PR (B6 t0) fun t4 =>
 A0 PR (Instr.fieldAt 130 t4 2) fun t5 =>
 A6 PR (Instr.loadAt 3 t5) fun t6 =>
 R t6
theorem N2 : A9 PR 22 := A7 Tryz.func22 (by kernel_rfl) rfl
theorem A8b {X : Nat → Prop} {t0 : Value} {R : Value → WP} {w : World} (h : A1m X t0 R w) : Fn PR X 22 #[t0] w R := C3 (args := [t0]) mixed Tryz.func22 (by kernel_rfl) h
def A1a (X : Nat → Prop) (t0 t1 : Value) (R : Value → WP) : WP :=
 drw <|
 A0 PR (B6 t0) fun t6 =>
 A0 PR (Instr.fieldAt 130 t6 2) fun t7 =>
 A6 PR (Instr.loadAt 3 t7) fun t8 =>
 A0 PR (binOp .lss 3 t8 (.int .i64 10)) fun t9 =>
 gj t9 true (fun J => J t0) fun t11 =>
 gj t9 true (fun J => A0 PR (B6 t11) J) fun t12 =>
 gj t9 true (fun J => A0 PR (Instr.fieldAt 130 t12 2) J) fun t13 =>
 gj t9 true (fun J => A6 PR (Instr.loadAt 3 t13) J) fun t14 =>
 gj t9 true (fun J => A0 PR (binOp .neq 3 t14 (.int .i64 3)) J) fun t15 =>
 gj t9 true (fun J => J t15) fun t16 =>
 gj t16 false (fun J => J t1) fun t17 =>
 gj t16 false (fun J => A0 PR (B6 t17) J) fun t18 =>
 gj t16 false (fun J => A0 PR (Instr.fieldAt 39 t18 1) J) fun t19 =>
 gj t16 false (fun J => A6 PR (Instr.loadAt 33 t19) J) fun t20 =>
 gj t16 false (fun J => J t0) fun t21 =>
 gj t16 false (fun J => A0 PR (B6 t21) J) fun t22 =>
 gj t16 false (fun J => A0 PR (Instr.fieldAt 130 t22 0) J) fun t23 =>
 gj t16 false (fun J => A0 PR (Instr.fieldAt 128 t23 2) J) fun t24 =>
 gj t16 false (fun J => A6 PR (Instr.loadAt 3 t24) J) fun t25 =>
 gj t16 false (fun J => B4 PR X 37 [t20, t25] J) fun t26 =>
 gj t16 false (fun J => A0 PR (binOp .lss 3 t26 (.int .i64 0)) J) fun t27 =>
 gj t9 true (fun J => A0 PR (do pure (if ← asBool t16 then (.bool true) else t27)) J) fun t28 =>
 A0 PR (do pure (if ← asBool t9 then t28 else (.bool false))) fun t29 =>
 R t29
theorem Q3 : A9 PR 23 := A7 Tryz.func23 (by kernel_rfl) rfl
theorem A8y {X : Nat → Prop} {t0 t1 : Value} {R : Value → WP} {w : World} (h : A1a X t0 t1 R w) : Fn PR X 23 #[t0, t1] w R := C3 (args := [t0, t1]) mixed Tryz.func23 (by kernel_rfl) h
def A0v (X : Nat → Prop) (t0 : Value) (R : Value → WP) : WP :=
 B2 PR X (Instr.alloc 55 true (.tuple #[])) fun t2 =>
 A0 PR (B6 t0) fun t4 =>
 A0 PR (Instr.fieldAt 130 t4 7) fun t5 =>
 A6 PR (Instr.loadAt 55 t5) fun t6 =>
 C0 PR X (Instr.storeAt 55 t2 t6) <|
 A6 PR (F8 [.c 55 t2]) R
theorem M5 : A9 PR 27 := A7 Tryz.func27 (by kernel_rfl) rfl
theorem A7f {X : Nat → Prop} {t0 : Value} {R : Value → WP} {w : World} (h : A0v X t0 R w) : Fn PR X 27 #[t0] w R := C3 (args := [t0]) mixed Tryz.func27 (by kernel_rfl) h
def A1T (X : Nat → Prop) (t0 t1 : Value) (R : Value → WP) : WP :=
 B2 PR X (Instr.alloc 42 true (.tuple #[])) fun t4 =>
 jn (n := 0) (
 jn (n := 0) (
 A0 PR (B6 t1) fun t28 =>
 A0 PR (Instr.fieldAt 39 t28 1) fun t29 =>
 A6 PR (Instr.loadAt 33 t29) fun t30 =>
 B4 PR X 35 [t30, (.int .i64 0)] fun t31 =>
 A0 PR (B6 t0) fun t32 =>
 A0 PR (Instr.fieldAt 130 t32 3) fun t33 =>
 C0 PR X (Instr.storeAt 3 t33 t31) <|
 A0 PR (Instr.build 42 #[]) fun t34 =>
 C0 PR X (Instr.storeAt 42 t4 t34) <|
 A6 PR (F8 [.c 42 t4]) R) fun J1 =>
 drw <|
 A0 PR (B6 t0) fun t15 =>
 A0 PR (Instr.fieldAt 130 t15 0) fun t16 =>
 A0 PR (B6 t1) fun t18 =>
 A0 PR (Instr.fieldAt 39 t18 0) fun t19 =>
 A0 PR (Instr.fieldAt 23 t19 1) fun t20 =>
 A6 PR (Instr.loadAt 3 t20) fun t21 =>
 B4 PR X 131 [t16, t21] fun t22 =>
 A0 PR (Op.unary .not t22) fun t23 =>
 C4 t23 (
 B4 PR X 130 [t0, (.int .i64 9)] fun t25 =>
 C0 PR X (Instr.storeAt 42 t4 t25) <|
 A6 PR (F8 [.c 42 t4]) R) (
 J1)) fun J2 =>
 A0 PR (B6 t0) fun t7 =>
 A0 PR (Instr.fieldAt 130 t7 1) fun t8 =>
 A6 PR (Instr.loadAt 3 t8) fun t9 =>
 B4 PR X 57 [t1, t9] fun t10 =>
 A0 PR (binOp .lss 3 t10 (.int .i64 0)) fun t11 =>
 C4 t11 (
 B4 PR X 130 [t0, (.int .i64 1)] fun t13 =>
 C0 PR X (Instr.storeAt 42 t4 t13) <|
 A6 PR (F8 [.c 42 t4]) R) (
 J2)
theorem A61 : A9 PR 76 := A7 Tryz.func76 (by kernel_rfl) rfl
theorem A8s {X : Nat → Prop} {t0 t1 : Value} {R : Value → WP} {w : World} (h : A1T X t0 t1 R w) : Fn PR X 76 #[t0, t1] w R := C3 (args := [t0, t1]) mixed Tryz.func76 (by kernel_rfl) h
def A3C (X : Nat → Prop) (t0 t1 : Value) (R : Value → WP) : WP :=
 B2 PR X (Instr.alloc 42 true (.tuple #[])) fun t4 =>
 drw <|
 A0 PR (B6 t1) fun t6 =>
 A0 PR (Instr.fieldAt 39 t6 1) fun t7 =>
 A6 PR (Instr.loadAt 33 t7) fun t8 =>
 A0 PR (B6 t0) fun t11 =>
 A0 PR (Instr.fieldAt 130 t11 1) fun t12 =>
 A6 PR (Instr.loadAt 3 t12) fun t13 =>
 A0 PR (B6 t0) fun t16 =>
 A0 PR (Instr.fieldAt 130 t16 3) fun t17 =>
 A6 PR (Instr.loadAt 3 t17) fun t18 =>
 A0 PR (binOp .add 3 t18 (.int .i64 1)) fun t19 =>
 B4 PR X 57 [t1, t13] fun t14 =>
 watch PR [(none, (Instr.loadAt 3 t17), t18), (none, (Instr.loadAt 33 t7), t8)] <|
 B4 PR X 31 [t8, t14, t19] fun t20 =>
 A0 PR (Instr.build 42 #[]) fun t21 =>
 C0 PR X (Instr.storeAt 42 t4 t21) <|
 A6 PR (F8 [.c 42 t4]) R
theorem A9J : A9 PR 77 := A7 Tryz.func77 (by kernel_rfl) rfl
theorem B0x {X : Nat → Prop} {t0 t1 : Value} {R : Value → WP} {w : World} (h : A3C X t0 t1 R w) : Fn PR X 77 #[t0, t1] w R := C3 (args := [t0, t1]) mixed Tryz.func77 (by kernel_rfl) h
def A1f (X : Nat → Prop) (t0 t1 : Value) (R : Value → WP) : WP :=
 B2 PR X (Instr.alloc 42 true (.tuple #[])) fun t4 =>
 jn (n := 0) (
 A0 PR (Instr.build 42 #[]) fun t24 =>
 C0 PR X (Instr.storeAt 42 t4 t24) <|
 A6 PR (F8 [.c 42 t4]) R) fun J1 =>
 A0 PR (B6 t1) fun t7 =>
 A0 PR (Instr.fieldAt 39 t7 1) fun t8 =>
 A6 PR (Instr.loadAt 33 t8) fun t9 =>
 B4 PR X 35 [t9, (.int .i64 0)] fun t10 =>
 A0 PR (B6 t0) fun t13 =>
 A0 PR (Instr.fieldAt 130 t13 3) fun t14 =>
 A6 PR (Instr.loadAt 3 t14) fun t15 =>
 A0 PR (binOp .neq 3 t10 t15) fun t16 =>
 C4 t16 (
 A0 PR (B6 t0) fun t20 =>
 A0 PR (Instr.fieldAt 130 t20 3) fun t21 =>
 C0 PR X (Instr.storeAt 3 t21 t10) <|
 A0 PR (B6 t0) fun t22 =>
 A0 PR (Instr.fieldAt 130 t22 2) fun t23 =>
 C0 PR X (Instr.storeAt 3 t23 (.int .i64 1)) <|
 J1) (
 J1)
theorem A7z : A9 PR 78 := A7 Tryz.func78 (by kernel_rfl) rfl
theorem A8z {X : Nat → Prop} {t0 t1 : Value} {R : Value → WP} {w : World} (h : A1f X t0 t1 R w) : Fn PR X 78 #[t0, t1] w R := C3 (args := [t0, t1]) mixed Tryz.func78 (by kernel_rfl) h
def A2g (X : Nat → Prop) (t0 t1 : Value) (R : Value → WP) : WP :=
 B2 PR X (Instr.alloc 42 true (.tuple #[])) fun t4 =>
 drw <|
 A0 PR (B6 t1) fun t6 =>
 A0 PR (Instr.fieldAt 39 t6 1) fun t7 =>
 A6 PR (Instr.loadAt 33 t7) fun t8 =>
 A0 PR (B6 t0) fun t10 =>
 A0 PR (Instr.fieldAt 130 t10 0) fun t11 =>
 A0 PR (Instr.fieldAt 128 t11 2) fun t12 =>
 A6 PR (Instr.loadAt 3 t12) fun t13 =>
 A0 PR (B6 t0) fun t15 =>
 A0 PR (Instr.fieldAt 130 t15 1) fun t16 =>
 A6 PR (Instr.loadAt 3 t16) fun t17 =>
 B4 PR X 19 [t8, t13, t17] fun t18 =>
 A0 PR (Instr.build 42 #[]) fun t19 =>
 C0 PR X (Instr.storeAt 42 t4 t19) <|
 A6 PR (F8 [.c 42 t4]) R
theorem A8Z : A9 PR 79 := A7 Tryz.func79 (by kernel_rfl) rfl
theorem A9N {X : Nat → Prop} {t0 t1 : Value} {R : Value → WP} {w : World} (h : A2g X t0 t1 R w) : Fn PR X 79 #[t0, t1] w R := C3 (args := [t0, t1]) mixed Tryz.func79 (by kernel_rfl) h
def A0e (X : Nat → Prop) (t0 t1 : Value) (R : Value → WP) : WP :=
 B2 PR X (Instr.alloc 42 true (.tuple #[])) fun t4 =>
 drw <|
 A0 PR (B6 t1) fun t8 =>
 A0 PR (Instr.fieldAt 39 t8 1) fun t9 =>
 A6 PR (Instr.loadAt 33 t9) fun t10 =>
 A0 PR (B6 t1) fun t14 =>
 A0 PR (Instr.fieldAt 39 t14 6) fun t15 =>
 A6 PR (Instr.loadAt 3 t15) fun t16 =>
 B4 PR X 35 [t10, (.int .i64 1)] fun t11 =>
 watch PR [(none, (Instr.loadAt 3 t15), t16)] <|
 A0 PR (binOp .sub 3 t11 (.int .i64 1)) fun t12 =>
 A0 PR (B6 t0) fun t17 =>
 A0 PR (Instr.fieldAt 130 t17 4) fun t18 =>
 C0 PR X (Instr.storeAt 3 t18 t12) <|
 A0 PR (B6 t0) fun t19 =>
 A0 PR (Instr.fieldAt 130 t19 5) fun t20 =>
 C0 PR X (Instr.storeAt 3 t20 t16) <|
 A0 PR (Instr.build 42 #[(0, (.bool true))]) fun t21 =>
 C0 PR X (Instr.storeAt 42 t4 t21) <|
 A6 PR (F8 [.c 42 t4]) R
theorem A5f : A9 PR 80 := A7 Tryz.func80 (by kernel_rfl) rfl
theorem A6K {X : Nat → Prop} {t0 t1 : Value} {R : Value → WP} {w : World} (h : A0e X t0 t1 R w) : Fn PR X 80 #[t0, t1] w R := C3 (args := [t0, t1]) mixed Tryz.func80 (by kernel_rfl) h
def A2c (X : Nat → Prop) (t0 t1 : Value) (R : Value → WP) : WP :=
 B2 PR X (Instr.alloc 42 true (.tuple #[])) fun t4 =>
 drw <|
 A0 PR (B6 t1) fun t7 =>
 A0 PR (Instr.fieldAt 39 t7 4) fun t8 =>
 A6 PR (Instr.loadAt 36 t8) fun t9 =>
 A0 PR (B6 t0) fun t11 =>
 A0 PR (Instr.fieldAt 130 t11 0) fun t12 =>
 A0 PR (Instr.fieldAt 128 t12 2) fun t13 =>
 A6 PR (Instr.loadAt 3 t13) fun t14 =>
 A0 PR (Instr.indexAt 36 t9 t14) fun t15 =>
 A6 PR (Instr.loadAt 84 t15) fun t16 =>
 A0 PR (B6 t0) fun t17 =>
 A0 PR (Instr.fieldAt 130 t17 6) fun t18 =>
 C0 PR X (Instr.storeAt 84 t18 t16) <|
 A0 PR (Instr.build 42 #[]) fun t19 =>
 C0 PR X (Instr.storeAt 42 t4 t19) <|
 A6 PR (F8 [.c 42 t4]) R
theorem A8g : A9 PR 81 := A7 Tryz.func81 (by kernel_rfl) rfl
theorem A9S {X : Nat → Prop} {t0 t1 : Value} {R : Value → WP} {w : World} (h : A2c X t0 t1 R w) : Fn PR X 81 #[t0, t1] w R := C3 (args := [t0, t1]) mixed Tryz.func81 (by kernel_rfl) h
def A04 (X : Nat → Prop) (t0 t1 : Value) (R : Value → WP) : WP :=
 B2 PR X (Instr.box 30 t0) fun t2 =>
 B2 PR X (Instr.box 26 t1) fun t3 =>
 B2 PR X (Instr.alloc 42 true (.tuple #[])) fun t4 =>
 drw <|
 A6 PR (Instr.loadAt 26 t3) fun t14 =>
 A0 PR (B6 t14) fun t15 =>
 A0 PR (Instr.fieldAt 39 t15 2) fun t16 =>
 A6 PR (Instr.loadAt 34 t16) fun t17 =>
 A6 PR (Instr.loadAt 30 t2) fun t18 =>
 A0 PR (B6 t18) fun t19 =>
 A0 PR (Instr.fieldAt 130 t19 4) fun t20 =>
 A6 PR (Instr.loadAt 3 t20) fun t21 =>
 B4 PR X 50 [t17, t21] fun t22 =>
 A0 PR (Instr.extract t22 0) fun t23 =>
 A0 PR (Instr.extract t22 1) fun t24 =>
 A0 PR (Instr.makeFunc (.func 132) #[] #[t2, t3]) fun t25 =>
 L5 PR X t25 [] fun t28 =>
 A0 PR (Instr.extract t28 0) fun t29 =>
 A0 PR (Instr.extract t28 1) fun t30 =>
 jn (n := 1) (fun t8 =>
 A6 PR (Instr.loadAt 30 t2) fun t51 =>
 A0 PR (B6 t51) fun t52 =>
 A0 PR (Instr.fieldAt 130 t52 4) fun t53 =>
 A6 PR (Instr.loadAt 3 t53) fun t54 =>
 A0 PR (binOp .geq 3 t54 (.int .i64 0)) fun t55 =>
 gj t55 true (fun J => J t24) fun t57 =>
 gj t55 true (fun J => A0 PR (Op.unary .not t57) J) fun t58 =>
 A0 PR (do pure (if ← asBool t55 then t58 else (.bool false))) fun t59 =>
 A0 PR (Instr.build 42 #[(2, t59)]) fun t60 =>
 B2 PR X (Instr.alloc 42 true (.tuple #[])) fun t10 =>
 C0 PR X (Instr.storeAt 42 t10 t60) <|
 jn (n := 0) (
 A6 PR (Instr.loadAt 42 t10) fun t141 =>
 C0 PR X (Instr.storeAt 42 t4 t141) <|
 A6 PR (F8 [.c 42 t4]) R) fun J1 =>
 A0 PR (Op.unary .not t30) fun t105 =>
 gj t105 true (fun J => J t23) fun t107 =>
 gj t105 true (fun J => A0 PR (binOp .eql 3 t107 (.int .i64 0)) J) fun t108 =>
 A0 PR (do pure (if ← asBool t105 then t108 else (.bool false))) fun t109 =>
 C4 t109 (
 A6 PR (Instr.loadAt 30 t2) fun t110 =>
 A0 PR (Instr.build 55 #[(0, (.int .i64 11))]) fun t111 =>
 A0 PR (B6 t110) fun t112 =>
 A0 PR (Instr.fieldAt 130 t112 7) fun t113 =>
 C0 PR X (Instr.storeAt 55 t113 t111) <|
 J1) (
 A6 PR (Instr.loadAt 30 t2) fun t115 =>
 A0 PR (B6 t115) fun t116 =>
 A0 PR (Instr.fieldAt 130 t116 0) fun t117 =>
 A0 PR (Instr.fieldAt 128 t117 3) fun t118 =>
 A6 PR (Instr.loadAt 4 t118) fun t119 =>
 C4 t119 (
 drw <|
 A6 PR (Instr.loadAt 30 t2) fun t121 =>
 A6 PR (Instr.loadAt 30 t2) fun t122 =>
 A0 PR (B6 t122) fun t123 =>
 A0 PR (Instr.fieldAt 130 t123 6) fun t124 =>
 A6 PR (Instr.loadAt 84 t124) fun t125 =>
 A6 PR (Instr.loadAt 30 t2) fun t126 =>
 A0 PR (B6 t126) fun t127 =>
 A0 PR (Instr.fieldAt 130 t127 0) fun t128 =>
 A0 PR (Instr.fieldAt 128 t128 1) fun t129 =>
 A6 PR (Instr.loadAt 9 t129) fun t130 =>
 B4 PR X 136 [t125, t130] fun t131 =>
 watch PR [(none, (Instr.loadAt 30 t2), t121)] <|
 A0 PR (Instr.extract t131 0) fun t132 =>
 A0 PR (Instr.extract t131 1) fun t133 =>
 A0 PR (B6 t121) fun t134 =>
 A0 PR (Instr.fieldAt 130 t134 6) fun t135 =>
 C0 PR X (Instr.storeAt 84 t135 t132) <|
 A6 PR (Instr.loadAt 30 t2) fun t136 =>
 A0 PR (Instr.build 55 #[(1, t8)]) fun t138 =>
 A0 PR (B6 t136) fun t139 =>
 A0 PR (Instr.fieldAt 130 t139 7) fun t140 =>
 C0 PR X (Instr.storeAt 55 t140 t138) <|
 J1) (
 drw <|
 A6 PR (Instr.loadAt 30 t2) fun t62 =>
 A0 PR (B6 t62) fun t63 =>
 A0 PR (Instr.fieldAt 130 t63 6) fun t64 =>
 A6 PR (Instr.loadAt 84 t64) fun t65 =>
 A6 PR (Instr.loadAt 30 t2) fun t66 =>
 A0 PR (B6 t66) fun t67 =>
 A0 PR (Instr.fieldAt 130 t67 0) fun t68 =>
 A0 PR (Instr.fieldAt 128 t68 1) fun t69 =>
 A6 PR (Instr.loadAt 9 t69) fun t70 =>
 A6 PR (Instr.loadAt 30 t2) fun t72 =>
 A0 PR (B6 t72) fun t73 =>
 A0 PR (Instr.fieldAt 130 t73 5) fun t74 =>
 A6 PR (Instr.loadAt 3 t74) fun t75 =>
 A6 PR (Instr.loadAt 26 t3) fun t76 =>
 A0 PR (B6 t76) fun t77 =>
 A0 PR (Instr.fieldAt 39 t77 0) fun t78 =>
 A0 PR (Instr.fieldAt 23 t78 3) fun t79 =>
 A6 PR (Instr.loadAt 3 t79) fun t80 =>
 A0 PR (binOp .add 3 t75 t80) fun t81 =>
 B4 PR X 137 [t65, t70, t8, t81] fun t82 =>
 A0 PR (Instr.extract t82 0) fun t83 =>
 A0 PR (Instr.extract t82 1) fun t84 =>
 drw <|
 A6 PR (Instr.loadAt 30 t2) fun t85 =>
 A6 PR (Instr.loadAt 30 t2) fun t86 =>
 A0 PR (Op.unary .not t30) fun t90 =>
 A0 PR (Instr.build 55 #[(1, t8), (2, t90)]) fun t91 =>
 A0 PR (B6 t85) fun t92 =>
 A0 PR (Instr.fieldAt 130 t92 6) fun t93 =>
 C0 PR X (Instr.storeAt 84 t93 t83) <|
 watch PR [(none, (Instr.loadAt 30 t2), t86)] <|
 A0 PR (B6 t86) fun t94 =>
 A0 PR (Instr.fieldAt 130 t94 7) fun t95 =>
 C0 PR X (Instr.storeAt 55 t95 t91) <|
 A0 PR (binOp .neq 27 t84 (.int .i64 0)) fun t97 =>
 C4 t97 (
 A6 PR (Instr.loadAt 30 t2) fun t98 =>
 A0 PR (Instr.build 55 #[(0, t84)]) fun t100 =>
 A0 PR (B6 t98) fun t101 =>
 A0 PR (Instr.fieldAt 130 t101 7) fun t102 =>
 C0 PR X (Instr.storeAt 55 t102 t100) <|
 J1) (
 J1)))) fun J2 =>
 A0 PR (Op.unary .not t30) fun t32 =>
 C4 t32 (
 drw <|
 A6 PR (Instr.loadAt 26 t3) fun t34 =>
 A0 PR (B6 t34) fun t35 =>
 A0 PR (Instr.fieldAt 39 t35 2) fun t36 =>
 A6 PR (Instr.loadAt 34 t36) fun t37 =>
 A6 PR (Instr.loadAt 30 t2) fun t38 =>
 A0 PR (B6 t38) fun t39 =>
 A0 PR (Instr.fieldAt 130 t39 4) fun t40 =>
 A6 PR (Instr.loadAt 3 t40) fun t41 =>
 A6 PR (Instr.loadAt 30 t2) fun t42 =>
 A0 PR (B6 t42) fun t43 =>
 A0 PR (Instr.fieldAt 130 t43 0) fun t44 =>
 A0 PR (Instr.fieldAt 128 t44 1) fun t45 =>
 A6 PR (Instr.loadAt 9 t45) fun t46 =>
 B4 PR X 135 [t46] fun t47 =>
 watch PR [(none, (Instr.loadAt 3 t40), t41), (none, (Instr.loadAt 30 t2), t38), (none, (Instr.loadAt 34 t36), t37), (none, (Instr.loadAt 26 t3), t34)] <|
 B4 PR X 48 [t37, t41, t47] fun t48 =>
 A0 PR (Instr.extract t48 0) fun t49 =>
 A0 PR (Instr.extract t48 1) fun t50 =>
 J2 t49) (
 J2 t29)
theorem A6S : A9 PR 82 := A7 Tryz.func82 (by kernel_rfl) rfl
theorem A68 {X : Nat → Prop} {t0 t1 : Value} {R : Value → WP} {w : World} (h : A04 X t0 t1 R w) : Fn PR X 82 #[t0, t1] w R := C3 (args := [t0, t1]) mixed Tryz.func82 (by kernel_rfl) h
def A1d (X : Nat → Prop) (t0 t1 : Value) (R : Value → WP) : WP :=
 B2 PR X (Instr.alloc 42 true (.tuple #[])) fun t4 =>
 drw <|
 A0 PR (B6 t1) fun t6 =>
 A0 PR (Instr.fieldAt 39 t6 4) fun t7 =>
 A6 PR (Instr.loadAt 36 t7) fun t8 =>
 A0 PR (B6 t0) fun t10 =>
 A0 PR (Instr.fieldAt 130 t10 0) fun t11 =>
 A0 PR (Instr.fieldAt 128 t11 2) fun t12 =>
 A6 PR (Instr.loadAt 3 t12) fun t13 =>
 A0 PR (B6 t0) fun t15 =>
 A0 PR (Instr.fieldAt 130 t15 6) fun t16 =>
 A6 PR (Instr.loadAt 84 t16) fun t17 =>
 A0 PR (Instr.indexAt 36 t8 t13) fun t18 =>
 C0 PR X (Instr.storeAt 84 t18 t17) <|
 A0 PR (Instr.build 42 #[]) fun t19 =>
 C0 PR X (Instr.storeAt 42 t4 t19) <|
 A6 PR (F8 [.c 42 t4]) R
theorem A63 : A9 PR 83 := A7 Tryz.func83 (by kernel_rfl) rfl
theorem A8a {X : Nat → Prop} {t0 t1 : Value} {R : Value → WP} {w : World} (h : A1d X t0 t1 R w) : Fn PR X 83 #[t0, t1] w R := C3 (args := [t0, t1]) mixed Tryz.func83 (by kernel_rfl) h
def A1C (X : Nat → Prop) (t0 t1 : Value) (R : Value → WP) : WP :=
 B2 PR X (Instr.alloc 42 true (.tuple #[])) fun t4 =>
 drw <|
 A0 PR (B6 t1) fun t6 =>
 A0 PR (Instr.fieldAt 39 t6 1) fun t7 =>
 A6 PR (Instr.loadAt 33 t7) fun t8 =>
 A0 PR (B6 t0) fun t10 =>
 A0 PR (Instr.fieldAt 130 t10 0) fun t11 =>
 A0 PR (Instr.fieldAt 128 t11 2) fun t12 =>
 A6 PR (Instr.loadAt 3 t12) fun t13 =>
 A0 PR (B6 t0) fun t15 =>
 A0 PR (Instr.fieldAt 130 t15 1) fun t16 =>
 A6 PR (Instr.loadAt 3 t16) fun t17 =>
 B4 PR X 25 [t8, t13, t17] fun t18 =>
 A0 PR (Instr.build 42 #[]) fun t19 =>
 C0 PR X (Instr.storeAt 42 t4 t19) <|
 A6 PR (F8 [.c 42 t4]) R
theorem A6P : A9 PR 84 := A7 Tryz.func84 (by kernel_rfl) rfl
theorem A7w {X : Nat → Prop} {t0 t1 : Value} {R : Value → WP} {w : World} (h : A1C X t0 t1 R w) : Fn PR X 84 #[t0, t1] w R := C3 (args := [t0, t1]) mixed Tryz.func84 (by kernel_rfl) h
def A1k (X : Nat → Prop) (t0 t1 : Value) (R : Value → WP) : WP :=
 B2 PR X (Instr.alloc 42 true (.tuple #[])) fun t4 =>
 drw <|
 A0 PR (B6 t1) fun t6 =>
 A0 PR (Instr.fieldAt 39 t6 1) fun t7 =>
 A6 PR (Instr.loadAt 33 t7) fun t8 =>
 A0 PR (B6 t0) fun t11 =>
 A0 PR (Instr.fieldAt 130 t11 1) fun t12 =>
 A6 PR (Instr.loadAt 3 t12) fun t13 =>
 B4 PR X 57 [t1, t13] fun t14 =>
 watch PR [(none, (Instr.loadAt 33 t7), t8)] <|
 B4 PR X 31 [t8, t14, (.int .i64 0)] fun t15 =>
 A0 PR (Instr.build 42 #[(1, (.bool true))]) fun t16 =>
 C0 PR X (Instr.storeAt 42 t4 t16) <|
 A6 PR (F8 [.c 42 t4]) R
theorem A7d : A9 PR 85 := A7 Tryz.func85 (by kernel_rfl) rfl
theorem A8q {X : Nat → Prop} {t0 t1 : Value} {R : Value → WP} {w : World} (h : A1k X t0 t1 R w) : Fn PR X 85 #[t0, t1] w R := C3 (args := [t0, t1]) mixed Tryz.func85 (by kernel_rfl) h
def A0w (X : Nat → Prop) (t0 t1 : Value) (R : Value → WP) : WP :=
 B2 PR X (Instr.alloc 42 true (.tuple #[])) fun t4 =>
 A0 PR (Instr.build 55 #[(0, t1)]) fun t8 =>
 A0 PR (B6 t0) fun t9 =>
 A0 PR (Instr.fieldAt 130 t9 2) fun t10 =>
 C0 PR X (Instr.storeAt 3 t10 (.int .i64 10)) <|
 A0 PR (B6 t0) fun t11 =>
 A0 PR (Instr.fieldAt 130 t11 7) fun t12 =>
 C0 PR X (Instr.storeAt 55 t12 t8) <|
 A0 PR (Instr.build 42 #[(0, (.bool true)), (1, (.bool true))]) fun t13 =>
 C0 PR X (Instr.storeAt 42 t4 t13) <|
 A6 PR (F8 [.c 42 t4]) R
theorem A0b : A9 PR 130 := A7 Tryz.func130 (by kernel_rfl) rfl
theorem A7j {X : Nat → Prop} {t0 t1 : Value} {R : Value → WP} {w : World} (h : A0w X t0 t1 R w) : Fn PR X 130 #[t0, t1] w R := C3 (args := [t0, t1]) mixed Tryz.func130 (by kernel_rfl) h
def A1c (X : Nat → Prop) (t0 t1 : Value) (R : Value → WP) : WP :=
 A0 PR (B6 t0) fun t9 =>
 A0 PR (Instr.fieldAt 128 t9 0) fun t10 =>
 A6 PR (Instr.loadAt 9 t10) fun t11 =>
 B4 PR X 21 [t11] fun t12 =>
 A0 PR (Instr.extract t12 0) fun t13 =>
 A0 PR (Instr.extract t12 1) fun t14 =>
 B2 PR X (Instr.alloc 47 true (.tuple #[])) fun t5 =>
 C0 PR X (Instr.storeAt 47 t5 t13) <|
 jn (n := 1) (fun t4 =>
 A0 PR (Instr.fieldAt 47 t5 0) fun t19 =>
 A6 PR (Instr.loadAt 45 t19) fun t20 =>
 B4 PR X 166 [t20] fun t21 =>
 A0 PR (Instr.extract t21 0) fun t22 =>
 A0 PR (Instr.extract t21 1) fun t23 =>
 A0 PR (B6 t0) fun t24 =>
 A0 PR (Instr.fieldAt 128 t24 1) fun t25 =>
 C0 PR X (Instr.storeAt 9 t25 t22) <|
 drw <|
 A0 PR (B6 t0) fun t29 =>
 A0 PR (Instr.fieldAt 128 t29 1) fun t30 =>
 A6 PR (Instr.loadAt 9 t30) fun t31 =>
 A6 PR (Instr.loadAt 47 t5) fun t34 =>
 B4 PR X 167 [t31, t1] fun t33 =>
 watch PR [(none, (Instr.loadAt 47 t5), t34)] <|
 B4 PR X 58 [t34] fun t35 =>
 A0 PR (B6 t0) fun t36 =>
 A0 PR (Instr.fieldAt 128 t36 2) fun t37 =>
 C0 PR X (Instr.storeAt 3 t37 t33) <|
 A0 PR (B6 t0) fun t38 =>
 A0 PR (Instr.fieldAt 128 t38 3) fun t39 =>
 C0 PR X (Instr.storeAt 4 t39 t35) <|
 R (.bool true)) fun J1 =>
 A0 PR (binOp .neq 27 t14 (.int .i64 0)) fun t16 =>
 C4 t16 (
 R (.bool false)) (
 J1 (.bool false))
theorem A02 : A9 PR 131 := A7 Tryz.func131 (by kernel_rfl) rfl
theorem A80 {X : Nat → Prop} {t0 t1 : Value} {R : Value → WP} {w : World} (h : A1c X t0 t1 R w) : Fn PR X 131 #[t0, t1] w R := C3 (args := [t0, t1]) mixed Tryz.func131 (by kernel_rfl) h
def w9 (X : Nat → Prop) (t0 t1 : Value) (R : Value → WP) : WP :=
 drw <|
 A6 PR (Instr.loadAt 30 t0) fun t7 =>
 A0 PR (B6 t7) fun t8 =>
 A0 PR (Instr.fieldAt 130 t8 6) fun t9 =>
 A6 PR (Instr.loadAt 84 t9) fun t10 =>
 A6 PR (Instr.loadAt 30 t0) fun t11 =>
 A0 PR (B6 t11) fun t12 =>
 A0 PR (Instr.fieldAt 130 t12 0) fun t13 =>
 A0 PR (Instr.fieldAt 128 t13 1) fun t14 =>
 A6 PR (Instr.loadAt 9 t14) fun t15 =>
 B4 PR X 133 [t10, t15] fun t16 =>
 jn (n := 2) (fun t2 t3 =>
 drw <|
 A6 PR (Instr.loadAt 26 t1) fun t35 =>
 A0 PR (B6 t35) fun t36 =>
 A0 PR (Instr.fieldAt 39 t36 2) fun t37 =>
 A6 PR (Instr.loadAt 34 t37) fun t38 =>
 A6 PR (Instr.loadAt 30 t0) fun t39 =>
 A0 PR (B6 t39) fun t40 =>
 A0 PR (Instr.fieldAt 130 t40 4) fun t41 =>
 A6 PR (Instr.loadAt 3 t41) fun t42 =>
 A6 PR (Instr.loadAt 30 t0) fun t43 =>
 A0 PR (B6 t43) fun t44 =>
 A0 PR (Instr.fieldAt 130 t44 6) fun t45 =>
 A6 PR (Instr.loadAt 84 t45) fun t46 =>
 A0 PR (Instr.indexAt 84 t46 t16) fun t48 =>
 A0 PR (Instr.fieldAt 218 t48 2) fun t49 =>
 A6 PR (Instr.loadAt 3 t49) fun t50 =>
 B4 PR X 134 [t38, t42, t50] fun t51 =>
 A0 PR (Instr.extract t51 0) fun t52 =>
 A0 PR (Instr.extract t51 1) fun t53 =>
 A6 PR (Instr.loadAt 30 t0) fun t54 =>
 A0 PR (B6 t54) fun t55 =>
 A0 PR (Instr.fieldAt 130 t55 6) fun t56 =>
 A6 PR (Instr.loadAt 84 t56) fun t57 =>
 A0 PR (Instr.indexAt 84 t57 t16) fun t59 =>
 A0 PR (Instr.fieldAt 218 t59 2) fun t60 =>
 A6 PR (Instr.loadAt 3 t60) fun t61 =>
 R (.tuple #[t61, t52])) fun J1 =>
 drw <|
 A0 PR (binOp .lss 3 t16 (.int .i64 0)) fun t18 =>
 gj t18 false (fun J => A6 PR (Instr.loadAt 30 t0) J) fun t20 =>
 gj t18 false (fun J => A0 PR (B6 t20) J) fun t21 =>
 gj t18 false (fun J => A0 PR (Instr.fieldAt 130 t21 6) J) fun t22 =>
 gj t18 false (fun J => A6 PR (Instr.loadAt 84 t22) J) fun t23 =>
 gj t18 false (fun J => J t16) fun t24 =>
 gj t18 false (fun J => A0 PR (Instr.indexAt 84 t23 t24) J) fun t25 =>
 gj t18 false (fun J => A0 PR (Instr.fieldAt 218 t25 3) J) fun t26 =>
 gj t18 false (fun J => A6 PR (Instr.loadAt 3 t26) J) fun t27 =>
 gj t18 false (fun J => A6 PR (Instr.loadAt 30 t0) J) fun t28 =>
 gj t18 false (fun J => A0 PR (B6 t28) J) fun t29 =>
 gj t18 false (fun J => A0 PR (Instr.fieldAt 130 t29 5) J) fun t30 =>
 gj t18 false (fun J => A6 PR (Instr.loadAt 3 t30) J) fun t31 =>
 gj t18 false (fun J => A0 PR (binOp .lss 3 t27 t31) J) fun t32 =>
 A0 PR (do pure (if ← asBool t18 then (.bool true) else t32)) fun t33 =>
 C4 t33 (
 R (.tuple #[(.int .i64 0), (.bool false)])) (
 J1 (.int .i64 0) (.bool false))
theorem A3k : A9 PR 132 := A7 Tryz.func132 (by kernel_rfl) rfl
theorem A4Y {X : Nat → Prop} {t0 t1 : Value} {R : Value → WP} {w : World} (h : w9 X t0 t1 R w) : Fn PR X 132 #[t0, t1] w R := C3 (args := [t0, t1]) mixed Tryz.func132 (by kernel_rfl) h
end Go.Proofs.YtjobgnabneddjaaGreat
namespace Go.Proofs.YtjobgnabneddjaaGreat
open Go
end Go.Proofs.YtjobgnabneddjaaGreat
namespace Go.Proofs.YtjobgnabneddjaaGreat
open Go
def A9Z (X : Nat → Prop) (t0 : Value) (R : Value → WP) : WP :=
 A0 PR (A8 .min #[3, 3] 0 [t0, (.int .i64 64)]) fun t4 =>
 A0 PR (A8 .max #[3, 3] 0 [(.int .i64 0), t4]) fun t5 =>
 B2 PR X (Instr.makeSlice 84 t5 t5) fun t6 =>
 R t6
theorem A8A : A9 PR 73 := A7 Tryz.func73 (by kernel_rfl) rfl
theorem B6V {X : Nat → Prop} {t0 : Value} {R : Value → WP} {w : World} (h : A9Z X t0 R w) : Fn PR X 73 #[t0] w R := C3 (args := [t0]) mixed Tryz.func73 (by kernel_rfl) h
def A4r (X : Nat → Prop) (t0 t1 : Value) (R : Value → WP) : WP :=
 B2 PR X (Instr.box 9 t1) fun t3 =>
 A0 PR (Instr.makeFunc (.func 185) #[] #[t3]) fun t10 =>
 B4 PR X 184 [t0, t10] fun t11 =>
 A0 PR (Instr.extract t11 0) fun t12 =>
 A0 PR (Instr.extract t11 1) fun t13 =>
 jn (n := 1) (fun t6 =>
 R (.tuple #[t6, t13])) fun J1 =>
 gj t13 true (fun J => J t12) fun t16 =>
 gj t13 true (fun J => B4 PR X 186 [t16, (.int .i64 2)] J) fun t17 =>
 gj t13 true (fun J => A0 PR (binOp .mul 3 (.int .i64 2) t17) J) fun t18 =>
 gj t13 true (fun J => J t12) fun t19 =>
 gj t13 true (fun J => A0 PR (A8 .len #[84] 0 [t19]) J) fun t20 =>
 gj t13 true (fun J => A0 PR (binOp .gtr 3 t18 t20) J) fun t21 =>
 A0 PR (do pure (if ← asBool t13 then t21 else (.bool false))) fun t22 =>
 C4 t22 (
 B4 PR X 187 [t12] fun t24 =>
 J1 t24) (
 J1 t12)
theorem A4C : A9 PR 136 := A7 Tryz.func136 (by kernel_rfl) rfl
theorem B29 {X : Nat → Prop} {t0 t1 : Value} {R : Value → WP} {w : World} (h : A4r X t0 t1 R w) : Fn PR X 136 #[t0, t1] w R := C3 (args := [t0, t1]) mixed Tryz.func136 (by kernel_rfl) h
def A9e (X : Nat → Prop) (t0 t1 t2 t3 : Value) (R : Value → WP) : WP :=
 A0 PR (Instr.build 218 #[(0, (.int .i64 1)), (1, t1), (2, t2), (3, t3)]) fun t16 =>
 B2 PR X (Instr.alloc 218 true (.tuple #[])) fun t10 =>
 C0 PR X (Instr.storeAt 218 t10 t16) <|
 A0 PR (Instr.makeFunc (.func 188) #[] #[t10]) fun t19 =>
 B4 PR X 184 [t0, t19] fun t20 =>
 A0 PR (Instr.extract t20 0) fun t21 =>
 A0 PR (Instr.extract t20 1) fun t22 =>
 jn (n := 2) (fun t8 t9 =>
 R (.tuple #[t21, (.int .i64 0)])) fun J1 =>
 A0 PR (Op.unary .not t22) fun t24 =>
 C4 t24 (
 R (.tuple #[t21, (.int .i64 12)])) (
 J1 (.slice none 0 0) (.int .i64 0))
theorem A76 : A9 PR 137 := A7 Tryz.func137 (by kernel_rfl) rfl
theorem B6P {X : Nat → Prop} {t0 t1 t2 t3 : Value} {R : Value → WP} {w : World} (h : A9e X t0 t1 t2 t3 R w) : Fn PR X 137 #[t0, t1, t2, t3] w R := C3 (args := [t0, t1, t2, t3]) mixed Tryz.func137 (by kernel_rfl) h
def A8N (X : Nat → Prop) (t0 : Value) (R : Value → WP) : WP :=
 B2 PR X (Instr.alloc 51 true (.tuple #[])) fun t3 =>
 jn (n := 0) (
 A6 PR (Instr.loadAt 51 t3) fun t15 =>
 d9 (R t15)) fun J1 =>
 B4 PR X 200 [t0] fun t7 =>
 rng (N := 2) PR X (fun t8 t9 K2 =>
 B2 PR (fun _ => False) (Instr.alloc 218 true (.tuple #[])) fun t5 =>
 C0 PR (fun _ => False) (Instr.storeAt 218 t5 t9) <|
 bgn <|
 A6 PR (Instr.loadAt 51 t3) fun t10 =>
 A0 PR (Instr.fieldAt 218 t5 1) fun t11 =>
 A6 PR (Instr.loadAt 9 t11) fun t12 =>
 B2 PR (fun _ => False) (Instr.buildSlice 51 1 #[(0, t12)]) fun t13 =>
 B2 PR (fun _ => False) (A8 .append #[51, 51] 51 [t10, t13]) fun t14 =>
 C0 PR (fun _ => False) (Instr.storeAt 51 t3 t14) <|
 K2 none) t7 (fun j => match j with | none => (J1) | some (.exit i) => (match Nat.beq i 0 with | true => (J1) | false => (G2)) | some .ret => (d9 (R (.slice none 0 0))) | some _ => G2)
theorem B3z : A9 PR 147 := A7 Tryz.func147 (by kernel_rfl) rfl
theorem B5H {X : Nat → Prop} {t0 : Value} {R : Value → WP} {w : World} (h : A8N X t0 R w) : Fn PR X 147 #[t0] w R := C3 (args := [t0]) mixed Tryz.func147 (by kernel_rfl) h
def A3y (X : Nat → Prop) (t0 t1 : Value) (R : Value → WP) : WP :=
 B4 PR X 122 [t0] fun t8 =>
 jn (n := 2) (fun t4 t5 =>
 R (.tuple #[t8, (.bool true)])) fun J1 =>
 L5 PR X t1 [t8] fun t11 =>
 A0 PR (Op.unary .not t11) fun t12 =>
 C4 t12 (
 R (.tuple #[t0, (.bool false)])) (
 J1 (.slice none 0 0) (.bool false))
theorem A3D : A9 PR 184 := A7 Tryz.func184 (by kernel_rfl) rfl
theorem B1l {X : Nat → Prop} {t0 t1 : Value} {R : Value → WP} {w : World} (h : A3y X t0 t1 R w) : Fn PR X 184 #[t0, t1] w R := C3 (args := [t0, t1]) mixed Tryz.func184 (by kernel_rfl) h
def A2v (X : Nat → Prop) (t0 t1 : Value) (R : Value → WP) : WP :=
 A6 PR (Instr.loadAt 9 t1) fun t6 =>
 B4 PR X 133 [t0, t6] fun t7 =>
 jn (n := 1) (fun t3 =>
 A0 PR (Instr.build 218 #[(0, (.int .i64 2))]) fun t12 =>
 A0 PR (Instr.indexAt 324 t0 t7) fun t13 =>
 C0 PR X (Instr.storeAt 218 t13 t12) <|
 R (.bool true)) fun J1 =>
 A0 PR (binOp .lss 3 t7 (.int .i64 0)) fun t9 =>
 C4 t9 (
 R (.bool false)) (
 J1 (.bool false))
theorem A8e : A9 PR 185 := A7 Tryz.func185 (by kernel_rfl) rfl
theorem A9f {X : Nat → Prop} {t0 t1 : Value} {R : Value → WP} {w : World} (h : A2v X t0 t1 R w) : Fn PR X 185 #[t0, t1] w R := C3 (args := [t0, t1]) mixed Tryz.func185 (by kernel_rfl) h
def A8B (X : Nat → Prop) (t0 : Value) (R : Value → WP) : WP :=
 A0 PR (A8 .len #[84] 0 [t0]) fun t7 =>
 B4 PR X 73 [t7] fun t8 =>
 B2 PR X (Instr.alloc 324 true (.tuple #[])) fun t3 =>
 C0 PR X (Instr.storeAt 324 t3 t8) <|
 jn (n := 0) (
 A6 PR (Instr.loadAt 324 t3) fun t16 =>
 d9 (R t16)) fun J1 =>
 B4 PR X 200 [t0] fun t10 =>
 rng (N := 2) PR X (fun t11 t12 K2 =>
 B2 PR (fun _ => False) (Instr.alloc 218 true (.tuple #[])) fun t5 =>
 C0 PR (fun _ => False) (Instr.storeAt 218 t5 t12) <|
 bgn <|
 A6 PR (Instr.loadAt 324 t3) fun t13 =>
 A6 PR (Instr.loadAt 218 t5) fun t14 =>
 B4 PR (fun _ => False) 189 [t13, t14] fun t15 =>
 K2 none) t10 (fun j => match j with | none => (J1) | some (.exit i) => (match Nat.beq i 0 with | true => (J1) | false => (G2)) | some .ret => (d9 (R (.slice none 0 0))) | some _ => G2)
theorem B35 : A9 PR 187 := A7 Tryz.func187 (by kernel_rfl) rfl
theorem B45 {X : Nat → Prop} {t0 : Value} {R : Value → WP} {w : World} (h : A8B X t0 R w) : Fn PR X 187 #[t0] w R := C3 (args := [t0]) mixed Tryz.func187 (by kernel_rfl) h
def A5U (X : Nat → Prop) (t0 t1 : Value) (R : Value → WP) : WP :=
 A6 PR (Instr.loadAt 218 t1) fun t5 =>
 B4 PR X 189 [t0, t5] fun t6 =>
 R t6
theorem B1T : A9 PR 188 := A7 Tryz.func188 (by kernel_rfl) rfl
theorem B2q {X : Nat → Prop} {t0 t1 : Value} {R : Value → WP} {w : World} (h : A5U X t0 t1 R w) : Fn PR X 188 #[t0, t1] w R := C3 (args := [t0, t1]) mixed Tryz.func188 (by kernel_rfl) h
def A2e (X : Nat → Prop) (t0 t1 : Value) (R : Value → WP) : WP :=
 B2 PR X (Instr.box 218 t1) fun t3 =>
 A0 PR (Instr.fieldAt 218 t3 1) fun t7 =>
 A6 PR (Instr.loadAt 9 t7) fun t8 =>
 B4 PR X 133 [t0, t8] fun t9 =>
 jn (n := 1) (fun t5 =>
 jn (n := 1) (fun t4 =>
 A6 PR (Instr.loadAt 218 t3) fun t20 =>
 A0 PR (Instr.indexAt 324 t0 t5) fun t21 =>
 C0 PR X (Instr.storeAt 218 t21 t20) <|
 R (.bool true)) fun J1 =>
 A0 PR (binOp .lss 3 t5 (.int .i64 0)) fun t17 =>
 C4 t17 (
 R (.bool false)) (
 J1 (.bool false))) fun J2 =>
 A0 PR (binOp .lss 3 t9 (.int .i64 0)) fun t11 =>
 C4 t11 (
 A0 PR (Instr.fieldAt 218 t3 1) fun t13 =>
 A6 PR (Instr.loadAt 9 t13) fun t14 =>
 B4 PR X 242 [t0, t14] fun t15 =>
 J2 t15) (
 J2 t9)
theorem A1j : A9 PR 189 := A7 Tryz.func189 (by kernel_rfl) rfl
theorem A9g {X : Nat → Prop} {t0 t1 : Value} {R : Value → WP} {w : World} (h : A2e X t0 t1 R w) : Fn PR X 189 #[t0, t1] w R := C3 (args := [t0, t1]) mixed Tryz.func189 (by kernel_rfl) h
def A1Z (X : Nat → Prop) (t0 : Value) (R : Value → WP) : WP :=
 B2 PR X (Instr.box 324 t0) fun t1 =>
 A0 PR (Instr.makeFunc (.func 244) #[] #[t1]) fun t3 =>
 R t3
theorem A1J : A9 PR 200 := A7 Tryz.func200 (by kernel_rfl) rfl
theorem A8u {X : Nat → Prop} {t0 : Value} {R : Value → WP} {w : World} (h : A1Z X t0 R w) : Fn PR X 200 #[t0] w R := C3 (args := [t0]) mixed Tryz.func200 (by kernel_rfl) h
def z6 (X : Nat → Prop) (t0 t1 : Value) (R : Value → WP) : WP :=
 A6 PR (Instr.loadAt 324 t1) fun t5 =>
 A0 PR (A8 .len #[324] 0 [t5]) fun t6 =>
 lp (n := 1) (fun L1 t7 =>
 A0 PR (binOp .lss 3 t7 t6) fun t8 =>
 jn (n := 0) (
 jn (n := 0) (
 A0 PR (binOp .add 3 t7 (.int .i64 1)) fun t22 =>
 L1 t22) fun J2 =>
 A0 PR (Instr.indexAt 324 t5 t7) fun t10 =>
 A6 PR (Instr.loadAt 218 t10) fun t11 =>
 B2 PR X (Instr.alloc 218 true (.tuple #[])) fun t4 =>
 C0 PR X (Instr.storeAt 218 t4 t11) <|
 A0 PR (Instr.fieldAt 218 t4 0) fun t12 =>
 A6 PR (Instr.loadAt 3 t12) fun t13 =>
 A0 PR (binOp .eql 3 t13 (.int .i64 1)) fun t14 =>
 gj t14 true (fun J => J t0) fun t16 =>
 gj t14 true (fun J => J t7) fun t17 =>
 gj t14 true (fun J => A6 PR (Instr.loadAt 218 t4) J) fun t18 =>
 gj t14 true (fun J => L5 PR X t16 [t17, t18] J) fun t19 =>
 gj t14 true (fun J => A0 PR (Op.unary .not t19) J) fun t20 =>
 A0 PR (do pure (if ← asBool t14 then t20 else (.bool false))) fun t21 =>
 C4 t21 (
 R (.tuple #[])) (
 J2)) fun J3 =>
 C4 t8 (
 J3) (
 R (.tuple #[]))) (.int .i64 0)
theorem A4f : A9 PR 244 := A7 Tryz.func244 (by kernel_rfl) rfl
theorem A5b {X : Nat → Prop} {t0 t1 : Value} {R : Value → WP} {w : World} (h : z6 X t0 t1 R w) : Fn PR X 244 #[t0, t1] w R := C3 (args := [t0, t1]) mixed Tryz.func244 (by kernel_rfl) h
theorem A5c {X : Nat → Prop} {t0 t1 : Value} {K : Value → WP} {w : World} (h : Fn PR X 244 #[t0, t1] w K) : A00 PR X 244 [t0, t1] K w := ⟨A4f, h⟩
end Go.Proofs.YtjobgnabneddjaaGreat
namespace Go.Proofs.YtjobgnabneddjaaGreat
open Go
theorem C1L (l : List EnV) : (l.flatMap H0).all plain = true := by
 rw [List.all_eq_true]; intro v hv; rw [List.mem_flatMap] at hv
 obtain ⟨x, _, hx⟩ := hv
 simp only [H0, List.mem_cons, List.not_mem_nil, or_false] at hx
 rcases hx with rfl | rfl | rfl | rfl <;> rfl
theorem A91 {α : Type} {f : α → List Value} {k : Nat} (hk : ∀ x, (f x).length = k) (l : List α) (i : Nat) (y : α) (hi : i < l.length) : Y5 (l.flatMap f) (i * k) (f y) = (l.set i y).flatMap f := by
 have e1 := C2A hk l i
 have e2 := A97 hk l (i + 1)
 rw [Nat.add_mul, Nat.one_mul] at e2
 rw [Y5, hk, e1, e2, List.set_eq_take_append_cons_drop, if_pos hi, List.flatMap_append, List.flatMap_cons, List.append_assoc]
abbrev H9 (v : Value) (l : List EnV) : Res := .own 218 4 v l.length (l.flatMap H0)
def newE (n : Nat) : List EnV := List.replicate (min n 64) noE
theorem C5A (n : Nat) : (Builtin.zeroCells (Value.agg #[.int .i64 0, .string L9, .int .i64 0, .int .i64 0]).cells n).toList = (List.replicate n noE).flatMap H0 := by
 have h4 : (Value.agg #[.int .i64 0, .string L9, .int .i64 0, .int .i64 0]).cells.size = 4 := rfl
 have hz : (Builtin.zeroCells (Value.agg #[.int .i64 0, .string L9, .int .i64 0, .int .i64 0]).cells n).toList.length = n * 4 := by simp [size_zeroCells]
 have hr : ((List.replicate n noE).flatMap H0).length = n * 4 := by rw [P7 (k := 4) fun _ => rfl]; simp
 apply List.ext_getElem (by rw [hz, hr])
 intro i h1 h2
 rw [hz] at h1
 have hf := d8 (f := H0) (k := 4) (fun _ => rfl) (List.replicate n noE) (i / 4) (i % 4) (by omega)
 rw [show i / 4 * 4 + i % 4 = i by omega, List.getElem?_eq_getElem h2, List.getElem?_replicate_of_lt (by omega)] at hf
 have e : (Builtin.zeroCells (Value.agg #[.int .i64 0, .string L9, .int .i64 0, .int .i64 0]).cells n).toList[i]'(by rw [hz]; exact h1) = (Value.agg #[.int .i64 0, .string L9, .int .i64 0, .int .i64 0]).cells[i % 4]! := by
  simp [Builtin.zeroCells]
 rw [e]
 have h3 : i % 4 = 0 ∨ i % 4 = 1 ∨ i % 4 = 2 ∨ i % 4 = 3 := by omega
 rcases h3 with h3 | h3 | h3 | h3 <;> (rw [h3] at hf ⊢; simp [H0, noE] at hf ⊢; exact hf.symm)
theorem B02 (w : World) (n : Nat) (hn : n ≤ 1000000) : Fn PR B8 73 #[.int .i64 (n : Int)] w (Rn [] w (fun r u => u = r) fun r => [H9 r (newE n)]) := by
 refine B6V (TW.go (κ := false) (S := []) ?_)
 unfold A9Z
 have e : max 0 (min (n : Int) 64) = ((min n 64 : Nat) : Int) := by omega
 (have zz:=trivial;repeat((first|clear zz|with_reducible first|refine A3 ?_|refine A5 fun _=>?_|refine A4 fun _=>?_);try simp(disch:=first|omega|assumption|((repeat(first|exact A1|exact uH|apply A2|apply uT));first|done|fail)|(simp;first|done|omega|fail))[e]))
 refine y3 (by omega) (by omega) (by omega) (by omega) fun bs => ?_
 rw [Int.toNat_natCast]
 refine j1 _ rfl ?_
 simp only [H9, newE, List.length_replicate, ← C5A]
 exact List.Sublist.refl _
def K1 (l : List EnV) (x : EnV) : Option (List EnV) :=
 let at0 := E3 l x.key
 let at1 := if at0 < 0 then b8 l x.key else at0
 if at1 < 0 then none else some (l.set at1.toNat x)
theorem C2w {key : ByteArray} {n : Nat} : ∀ L : List (Nat × EnV), (∀ p ∈ L, p.1 < n) → 0 ≤ L0 key L → (L0 key L).toNat < n := by
 intro L
 induction L with
 | nil => intro _ h; simp [L0] at h
 | cons p L ih =>
  intro h h0
  simp only [L0] at h0 ⊢
  split
  ·rw [if_pos ‹_›] at h0; simp at h0
  ·rw [if_neg ‹_›] at h0
   split
   ·simpa using h p (by simp)
   ·rw [if_neg ‹_›] at h0; exact ih (fun q hq => h q (by simp [hq])) h0
theorem C39 {n : Nat} : ∀ L : List (Nat × EnV), (∀ p ∈ L, p.1 < n) → 0 ≤ P4 L → (P4 L).toNat < n := by
 intro L
 induction L with
 | nil => intro _ h; simp [P4] at h
 | cons p L ih =>
  intro h h0
  simp only [P4] at h0 ⊢
  split
  ·rw [if_pos ‹_›] at h0; exact ih (fun q hq => h q (by simp [hq])) h0
  ·simpa using h p (by simp)
theorem B8s (l : List EnV) (key : ByteArray) : ∀ p ∈ U2 l key, p.1 < l.length := by
 intro p hp
 obtain ⟨i, hi, rfl⟩ := List.mem_map.1 hp
 exact Nat.mod_lt _ (by simp at hi; omega)
theorem A2C {l : List EnV} {key : ByteArray} (h : 0 ≤ E3 l key) : (E3 l key).toNat < l.length := C2w _ (B8s l key) h
theorem B1E {l : List EnV} {key : ByteArray} (h : 0 ≤ b8 l key) : (b8 l key).toNat < l.length := by
 unfold b8 at h ⊢
 split
 ·rw [if_pos ‹_›] at h; simp at h
 ·rw [if_neg ‹_›] at h; exact C39 _ (B8s l key) h
theorem A62 {l m : List EnV} {x : EnV} (h : K1 l x = some m) : m.length = l.length := by
 unfold K1 at h
 simp only at h
 by_cases c : (if E3 l x.key < 0 then b8 l x.key else E3 l x.key) < 0
 ·rw [if_pos c] at h; cases h
 ·rw [if_neg c] at h; injection h with h; rw [← h]; simp
theorem B8x (w : World) (v : Value) (l : List EnV) (x : EnV) (hk : x.key.size < 2 ^ 60) (hn : l.length ≤ 1000000) (hw : LW false (B5 [H9 v l]) w [H9 v l] w) :
  Fn PR B8 189 #[v, .agg #[.int .i64 x.st, .string x.key, .int .i64 x.bk, .int .i64 x.dl]] w (Rn (B5 [H9 v l]) w (fun (_ : Unit) u => u = .bool (K1 l x).isSome) fun _ => [H9 v ((K1 l x).getD l)]) := by
 refine A9g (TW.goH (κ := false) (S := B5 [H9 v l]) ?_ hw)
 unfold A2e
 (have zz:=trivial;repeat((first|clear zz|with_reducible first|refine A3 ?_|refine A5 fun _=>?_|refine A4 fun _=>?_);try simp(disch:=first|omega|assumption|((repeat(first|exact A1|exact uH|apply A2|apply uT));first|done|fail)|(simp;first|done|omega|fail))[]))
 rename_i bx
 refine C1 v6 (fun w' hw' => A09 w' v l x.key hk hn (P6.own (by (repeat constructor)) w' hw')) ?_
 have p7 : ∀ r : Int, 0 ≤ r → r.toNat < l.length → K1 l x = some (l.set r.toNat x) → TW false (B5 [H9 v l]) w [.pt bx (.cells #[.int .i64 x.st, .string x.key, .int .i64 x.bk, .int .i64 x.dl] 218), H9 v l]
   (A0 PR (Instr.indexAt 324 v (.int .i64 r)) fun t21 => C0 PR B8 (Instr.storeAt 218 t21 (.agg #[.int .i64 x.st, .string x.key, .int .i64 x.bk, .int .i64 x.dl])) <|
    Rn (B5 [H9 v l]) w (fun (_ : Unit) u => u = .bool (K1 l x).isSome) (fun _ => [H9 v ((K1 l x).getD l)]) (.bool true)) := by
  intro r h0 hi hp
  obtain ⟨i, rfl⟩ : ∃ i : Nat, r = i := ⟨r.toNat, by omega⟩
  rw [Int.toNat_natCast] at hi hp
  refine s9 (e := 218) (k := 4) (v := v) (q := l.length) (xs := l.flatMap H0) (by (repeat constructor)) (by omega) ?_
  rintro g c rfl
  (have zz:=trivial;repeat((first|clear zz|with_reducible first|refine A3 ?_|refine A5 fun _=>?_|refine A4 fun _=>?_);try simp(disch:=first|omega|assumption|((repeat(first|exact A1|exact uH|apply A2|apply uT));first|done|fail)|(simp;first|done|omega|fail))[hi]))
  refine U0 (by (repeat constructor)) (by simp) (by rw [A0n]; omega) (by simp) ?_
  refine B1 () (by simp [hp]) ?_
  have := A91 (f := H0) (k := 4) (fun _ => rfl) l i x hi
  simp only [hp, Option.getD_some, H9, List.length_set, ← this]
  (repeat' constructor)
 by_cases c1 : E3 l x.key < 0
 ·(have zz:=trivial;repeat((first|clear zz|with_reducible first|refine A3 ?_|refine A5 fun _=>?_|refine A4 fun _=>?_);try simp(disch:=first|omega|assumption|((repeat(first|exact A1|exact uH|apply A2|apply uT));first|done|fail)|(simp;first|done|omega|fail))[c1]))
  refine C1 B3g (fun w' hw' => B7V w' v l x.key hk hn (P6.own (by (repeat constructor)) w' hw')) ?_
  by_cases c2 : b8 l x.key < 0
  ·have hp : K1 l x = none := by simp [K1, c1, c2]
   (have zz:=trivial;repeat((first|clear zz|with_reducible first|refine A3 ?_|refine A5 fun _=>?_|refine A4 fun _=>?_);try simp(disch:=first|omega|assumption|((repeat(first|exact A1|exact uH|apply A2|apply uT));first|done|fail)|(simp;first|done|omega|fail))[c2]))
   exact B1 () (by simp [hp]) (by simp only [hp, Option.getD_none]; (repeat' constructor))
  ·have hp : K1 l x = some (l.set (b8 l x.key).toNat x) := by simp [K1, c1, c2]
   have := p7 _ (by omega) (B1E (by omega)) hp
   simp(disch:=first|omega|assumption|((repeat(first|exact A1|exact uH|apply A2|apply uT));first|done|fail)|(simp;first|done|omega|fail))[c2]
   exact this
 ·have hp : K1 l x = some (l.set (E3 l x.key).toNat x) := by simp [K1, c1]
  have := p7 _ (by omega) (A2C (by omega)) hp
  simp(disch:=first|omega|assumption|((repeat(first|exact A1|exact uH|apply A2|apply uT));first|done|fail)|(simp;first|done|omega|fail))[c1]
  exact this
def Q4 : Nat → List EnV → List (Nat × EnV)
 | _, [] => []
 | i, x :: r => if x.st = 1 then (i, x) :: Q4 (i + 1) r else Q4 (i + 1) r
def H3 (l : List EnV) : List (Nat × EnV) := Q4 0 l
theorem B4S (i : Nat) (l m : List EnV) : Q4 i (l ++ m) = Q4 i l ++ Q4 (i + l.length) m := by
 induction l generalizing i with
 | nil => simp [Q4]
 | cons x l ih =>
  simp only [List.cons_append, Q4, ih, List.length_cons]
  split
  ·simp only [List.cons_append]; congr 3; omega
  ·congr 2; omega
theorem B6e {l : List EnV} {i : Nat} {x : EnV} (hx : l[i]? = some x) : H3 (l.take (i + 1)) = H3 (l.take i) ++ (if x.st = 1 then [(i, x)] else []) := by
 obtain ⟨hi, _⟩ := List.getElem?_eq_some_iff.1 hx
 rw [List.take_add_one, hx, H3, B4S, Option.toList_some, List.length_take, Nat.zero_add, Nat.min_eq_left (by omega)]
 simp only [Q4, H3]
theorem C0n {l : List EnV} {i : Nat} {x : EnV} (hx : l[i]? = some x) (h : x.st = 1) : (H3 l)[(H3 (l.take i)).length]? = some (i, x) := by
 have e : l = l.take (i + 1) ++ l.drop (i + 1) := (List.take_append_drop _ _).symm
 conv => lhs; arg 1; rw [e]
 rw [H3, B4S, ← H3, B6e hx, if_pos h, List.append_assoc, List.getElem?_append_right (by omega)]
 simp
abbrev C4e (b : Nat) : Value := .func (.func 244) #[] #[.pointer (some ⟨b, 0, none⟩)]
theorem B8p (w : World) (v : Value) (hv : ∃ a n c, v = .slice a n c) : Fn PR B8 200 #[v] w (Rn [] w (fun b u => u = C4e b) fun b => [.pt b (.cells #[v] 324)]) := by
 obtain ⟨a, n, c, rfl⟩ := hv
 refine A8u (TW.go (κ := false) (S := []) ?_)
 unfold A1Z
 (have zz:=trivial;repeat((first|clear zz|with_reducible first|refine A3 ?_|refine A5 fun _=>?_|refine A4 fun _=>?_);try simp(disch:=first|omega|assumption|((repeat(first|exact A1|exact uH|apply A2|apply uT));first|done|fail)|(simp;first|done|omega|fail))[]))
 rename_i b
 exact j1 b rfl (by simp)
theorem B8Y (b : Nat) (v : Value) (l : List EnV) (hn : l.length ≤ 1000000) : A5A (C4e b) [.pt b (.cells #[v] 324)] (RqS v l.length (l.flatMap H0)) ((H3 l).map A5m) := by
 refine ⟨_, _, _, rfl, fun y J E hJ hE stJ stE hy w0 h0 => ?_⟩
 obtain ⟨a, c, hv, hr⟩ := (hJ _ _ _ h0).2
 subst hv
 refine A5c (A5b (TW.at (κ := true) ?_ (hJ _ _ _ h0).1))
 unfold z6
 (have zz:=trivial;repeat((first|clear zz|with_reducible first|refine A3 ?_|refine A5 fun _=>?_|refine A4 fun _=>?_);try simp(disch:=first|omega|assumption|((repeat(first|exact A1|exact uH|apply A2|apply uT));first|done|fail)|(simp;first|done|omega|fail))[]))
 refine A2z l.length (fun i => (H3 (l.take i)).length) (fun _ => _) hJ stJ (by simpa [H3, Q4] using h0) fun i a' hi hJi hRi L hL => ?_
 by_cases hlt : i < l.length
 ·obtain ⟨_, _, hv, hr⟩ := hRi
  obtain ⟨b', o, hb, hrow, hnb⟩ := hr (by omega)
  cases hv
  subst hb
  obtain ⟨x, hx⟩ : ∃ x, l[i]? = some x := ⟨_, List.getElem?_eq_getElem hlt⟩
  have h1 := hrow.at (f := H0) (k := 4) (fun _ => rfl) hx
  rw [H0] at h1
  have hat := B6e hx
  by_cases c1 : x.st = 1
  ·have hg := C0n hx c1
   rw [if_pos c1] at hat
   obtain ⟨hgi, hg'⟩ := List.getElem?_eq_some_iff.1 hg
   have hlen : (H3 (l.take (i + 1))).length = (H3 (l.take i)).length + 1 := by rw [hat]; simp
   rw [hlen] at hL
   (have zz:=trivial;repeat((first|clear zz|with_reducible first|refine A3 ?_|refine A5 fun _=>?_|refine A4 fun _=>?_);try simp(disch:=first|omega|assumption|((repeat(first|exact A1|exact uH|apply A2|apply uT));first|done|fail)|(simp;first|done|omega|fail))[hlt, h1, c1]))
   refine A7b hJ hE stJ hy hJi (by simpa using hgi) (by rw [List.getElem_map, hg', A5m, c1]) (fun w3 h => ?_) (fun w3 h => ?_)
   ·(have zz:=trivial;repeat((first|clear zz|with_reducible first|refine A3 ?_|refine A5 fun _=>?_|refine A4 fun _=>?_);try simp(disch:=first|omega|assumption|((repeat(first|exact A1|exact uH|apply A2|apply uT));first|done|fail)|(simp;first|done|omega|fail))[]))
    exact fun w' hw' => hL hlt w' (stJ _ _ _ _ _ h (hw'.sub (by simp)))
   ·(have zz:=trivial;repeat((first|clear zz|with_reducible first|refine A3 ?_|refine A5 fun _=>?_|refine A4 fun _=>?_);try simp(disch:=first|omega|assumption|((repeat(first|exact A1|exact uH|apply A2|apply uT));first|done|fail)|(simp;first|done|omega|fail))[]))
    exact A4K stE h
  ·rw [if_neg c1, List.append_nil] at hat
   rw [hat] at hL
   (have zz:=trivial;repeat((first|clear zz|with_reducible first|refine A3 ?_|refine A5 fun _=>?_|refine A4 fun _=>?_);try simp(disch:=first|omega|assumption|((repeat(first|exact A1|exact uH|apply A2|apply uT));first|done|fail)|(simp;first|done|omega|fail))[hlt, h1, c1]))
   exact fun w' hw' => hL hlt w' (stJ _ _ _ _ _ hJi (hw'.sub (by simp)))
 ·obtain rfl : i = l.length := by omega
  rw [List.take_length] at hJi
  (have zz:=trivial;repeat((first|clear zz|with_reducible first|refine A3 ?_|refine A5 fun _=>?_|refine A4 fun _=>?_);try simp(disch:=first|omega|assumption|((repeat(first|exact A1|exact uH|apply A2|apply uT));first|done|fail)|(simp;first|done|omega|fail))[]))
  exact A4B stJ (by simpa using hJi)
end Go.Proofs.YtjobgnabneddjaaGreat
namespace Go.Proofs.YtjobgnabneddjaaGreat
open Go
theorem B97 {w : World} {b : Nat} {T : TypeId} {l : List Value} (h : bl w b = some (.cells l.toArray T (0, 0))) : k8 w b 0 l.length = some l := A6H fun i hi => by
 rw [E5 h]; simp
theorem B2c (w : World) (v : Value) (l : List EnV) (f : FuncId) (cap : List Value) (o : Option (List EnV)) (ho : ∀ m, o = some m → m.length = l.length) (hn : l.length ≤ 1000000) (hv : G1 w v l.length (l.flatMap H0)) (he : A9 PR f)
  (hf : ∀ w' r, KS false [] w w' → (∀ b ∈ B5 [H9 r l], sz w ≤ b) → LW false (B5 [H9 r l]) w' [H9 r l] w' → Fn PR B8 f (r :: cap).toArray w' (Rn (B5 [H9 r l]) w' (fun (_ : Unit) u => u = .bool o.isSome) fun _ => [H9 r (o.getD l)])) :
  Fn PR B8 184 #[v, .func (.func f) #[] cap.toArray] w (Rn [] w (fun r u => u = .tuple #[if o.isSome then r else v, .bool o.isSome]) fun r => [H9 r (o.getD l)]) := by
 refine B1l (TW.go (κ := false) (S := []) ?_)
 unfold A3y
 refine H2 q7 (fun w' hw' => C14 w' v l.length (l.flatMap H0) hn (A0n l) (C1L l) (hv.ks hw'.ks (by simp))) ?_
 rintro _ r rfl
 (have zz:=trivial;repeat((first|clear zz|with_reducible first|refine A3 ?_|refine A5 fun _=>?_|refine A4 fun _=>?_);try simp(disch:=first|omega|assumption|((repeat(first|exact A1|exact uH|apply A2|apply uT));first|done|fail)|(simp;first|done|omega|fail))[]))
 refine C6 (Hc := [H9 r l]) he (fun w' hw hs => hf w' r hw.ks (fun b hb => by
  obtain ⟨s, hs1, hb1⟩ := N9.1 hb
  rcases (hw.own s (List.mem_append_left _ hs1) b hb1).1 with h | h
  ·simp at h
  ·exact h) hs) (by (repeat' constructor)) ?_
 rintro _ _ rfl
 cases o with
 | none =>
  (have zz:=trivial;repeat((first|clear zz|with_reducible first|refine A3 ?_|refine A5 fun _=>?_|refine A4 fun _=>?_);try simp(disch:=first|omega|assumption|((repeat(first|exact A1|exact uH|apply A2|apply uT));first|done|fail)|(simp;first|done|omega|fail))[]))
  exact B1 r rfl (by (repeat' constructor))
 | some m =>
  (have zz:=trivial;repeat((first|clear zz|with_reducible first|refine A3 ?_|refine A5 fun _=>?_|refine A4 fun _=>?_);try simp(disch:=first|omega|assumption|((repeat(first|exact A1|exact uH|apply A2|apply uT));first|done|fail)|(simp;first|done|omega|fail))[]))
  exact B1 r rfl (by (repeat' constructor))
theorem C3q (w : World) (v : Value) (l : List EnV) (x : EnV) (b : Nat) (hk : x.key.size < 2 ^ 60) (hn : l.length ≤ 1000000) (hx : k8 w b 0 4 = some (H0 x)) (hb : b ∉ B5 [H9 v l]) (hw : LW false (B5 [H9 v l]) w [H9 v l] w) :
  Fn PR B8 188 #[v, .pointer (some ⟨b, 0, none⟩)] w (Rn (B5 [H9 v l]) w (fun (_ : Unit) u => u = .bool (K1 l x).isSome) fun _ => [H9 v ((K1 l x).getD l)]) := by
 refine B2q (TW.goH (κ := false) (S := B5 [H9 v l]) ?_ hw)
 unfold A5U
 rw [H0] at hx
 (have zz:=trivial;repeat((first|clear zz|with_reducible first|refine A3 ?_|refine A5 fun _=>?_|refine A4 fun _=>?_);try simp(disch:=first|omega|assumption|((repeat(first|exact A1|exact uH|apply A2|apply uT));first|done|fail)|(simp;first|done|omega|fail))[hx]))
 refine C6 (Hc := [H9 v l]) A1j (fun w' hw hs => B8x w' v l x hk hn hs) (by (repeat' constructor)) ?_
 rintro _ _ rfl
 exact B1 () rfl (by (repeat' constructor))
theorem B07 (w : World) (v : Value) (l : List EnV) (key : ByteArray) (bk dl : Int) (hk : key.size < 2 ^ 60) (hn : l.length ≤ 1000000) (hv : G1 w v l.length (l.flatMap H0)) :
  Fn PR B8 137 #[v, .string key, .int .i64 bk, .int .i64 dl] w (Rn [] w (fun r u => u = .tuple #[if (K1 l ⟨1, key, bk, dl⟩).isSome then r else v, .int .i64 (if (K1 l ⟨1, key, bk, dl⟩).isSome then 0 else 12)]) fun r => [H9 r ((K1 l ⟨1, key, bk, dl⟩).getD l)]) := by
 refine B6P (TW.go (κ := false) (S := []) ?_)
 unfold A9e
 (have zz:=trivial;repeat((first|clear zz|with_reducible first|refine A3 ?_|refine A5 fun _=>?_|refine A4 fun _=>?_);try simp(disch:=first|omega|assumption|((repeat(first|exact A1|exact uH|apply A2|apply uT));first|done|fail)|(simp;first|done|omega|fail))[]))
 rename_i b
 refine H2 A3D (fun w' hw' => B2c w' v l 188 [.pointer (some ⟨b, 0, none⟩)] (K1 l ⟨1, key, bk, dl⟩) (fun m h => A62 h) hn (hv.ks hw'.ks (by simp)) B1T
  fun w2 r h hf hr => ?_) ?_
 ·have hp := hw'.pt (b := b) (by (repeat constructor))
  have hb : b < sz w' := H7 hp
  refine C3q w2 r l ⟨1, key, bk, dl⟩ b hk hn ?_ (fun hc => by have := hf b hc; omega) hr
  have hp2 := h.2.1 b _ (by simp) rfl hp
  exact B97 hp2
 ·rintro r _ rfl
  cases h : K1 l ⟨1, key, bk, dl⟩ with
  | none =>
   (have zz:=trivial;repeat((first|clear zz|with_reducible first|refine A3 ?_|refine A5 fun _=>?_|refine A4 fun _=>?_);try simp(disch:=first|omega|assumption|((repeat(first|exact A1|exact uH|apply A2|apply uT));first|done|fail)|(simp;first|done|omega|fail))[]))
   exact B1 r (by simp) (by (repeat' constructor))
  | some m =>
   (have zz:=trivial;repeat((first|clear zz|with_reducible first|refine A3 ?_|refine A5 fun _=>?_|refine A4 fun _=>?_);try simp(disch:=first|omega|assumption|((repeat(first|exact A1|exact uH|apply A2|apply uT));first|done|fail)|(simp;first|done|omega|fail))[]))
   exact B1 r (by simp) (by (repeat' constructor))
def l8 : EnV := ⟨2, L9, 0, 0⟩
def Q6 (l : List EnV) : Prop := ∀ x ∈ l, x.key.size < 2 ^ 60
def Y2 (acc : List EnV) (x : EnV) : List EnV := (K1 acc x).getD acc
theorem C3H (acc : List EnV) (x : EnV) : (Y2 acc x).length = acc.length := by
 unfold Y2
 cases h : K1 acc x with
 | none => rfl
 | some m => exact A62 h
def u7 (l : List EnV) : List EnV := (H3 l).foldl (fun acc p => Y2 acc p.2) (newE l.length)
theorem B7B (L : List (Nat × EnV)) (a : List EnV) : (L.foldl (fun acc p => Y2 acc p.2) a).length = a.length := by
 induction L generalizing a with
 | nil => rfl
 | cons p L ih => rw [List.foldl_cons, ih, C3H]
theorem A3x (n : Nat) : (newE n).length = min n 64 := by simp [newE]
theorem B4Q {i : Nat} {l : List EnV} : ∀ p ∈ Q4 i l, p.2 ∈ l ∧ p.2.st = 1 := by
 induction l generalizing i with
 | nil => intro p hp; cases hp
 | cons x l ih =>
  intro p hp
  simp only [Q4] at hp
  split at hp
  ·rcases List.mem_cons.1 hp with rfl | hp
   ·exact ⟨by simp, ‹_›⟩
   ·obtain ⟨h1, h2⟩ := ih p hp; exact ⟨by simp [h1], h2⟩
  ·obtain ⟨h1, h2⟩ := ih p hp; exact ⟨by simp [h1], h2⟩
theorem A38 {κ : Bool} {S : List Nat} {w0 : World} {H : List Res} {K0 : WP} {e : TypeId} {k : Nat} {v : Value} {q : Nat} {xs : List Value} (hm : Res.own e k v q xs ∈ H) (h : v.cells = #[v] → v.cells.size = 1 → v.cells.toList.all plain = true → TW κ S w0 H K0) : TW κ S w0 H K0 := fun w hw => by
 obtain ⟨a, c, rfl⟩ := P3.form (hw.hold _ hm); exact h rfl rfl rfl w hw
theorem T6 {κ : Bool} {S : List Nat} {w0 : World} {H : List Res} {K0 : WP} {e : TypeId} {k : Nat} {v : Value} {q : Nat} {xs : List Value} (hm : Res.own e k v q xs ∈ H) (h : ∀ a c, v = .slice a q c → TW κ S w0 H K0) : TW κ S w0 H K0 := fun w hw => by
 obtain ⟨a, c, rfl⟩ := P3.form (hw.hold _ hm); exact h a c rfl w hw
theorem C6N (w : World) (v : Value) (l : List EnV) (hks : Q6 l) (hn : l.length ≤ 1000000) (hv : G1 w v l.length (l.flatMap H0)) :
  Fn PR B8 187 #[v] w (Rn [] w (fun r u => u = r) fun r => [H9 r (u7 l)]) := by
 refine B45 (TW.go (κ := false) (S := []) ?_)
 unfold A8B
 obtain ⟨a, c, rfl, _⟩ := hv.form
 (have zz:=trivial;repeat((first|clear zz|with_reducible first|refine A3 ?_|refine A5 fun _=>?_|refine A4 fun _=>?_);try simp(disch:=first|omega|assumption|((repeat(first|exact A1|exact uH|apply A2|apply uT));first|done|fail)|(simp;first|done|omega|fail))[]))
 refine H2 A8A (fun w' _ => B02 w' l.length hn) ?_
 rintro _ r rfl
 refine A38 (e := 218) (k := 4) (v := r) (q := (newE l.length).length) (xs := (newE l.length).flatMap H0) (by (repeat constructor)) fun hr1 hr2 hr3 => ?_
 (have zz:=trivial;repeat((first|clear zz|with_reducible first|refine A3 ?_|refine A5 fun _=>?_|refine A4 fun _=>?_);try simp(disch:=first|omega|assumption|((repeat(first|exact A1|exact uH|apply A2|apply uT));first|done|fail)|(simp;first|done|omega|fail))[hr1]))
 rename_i bt
 refine H2 A1J (fun w' _ => B8p w' (.slice a l.length c) ⟨_, _, _, rfl⟩) ?_
 rintro b _ rfl
 refine A2E (B8Y b (.slice a l.length c) l hn) (A7K _) (fun i (acc : List EnV) => acc = ((H3 l).take i).foldl (fun acc p => Y2 acc p.2) (newE l.length)) (fun _ acc => [.pt bt (.cells #[r] 324), H9 r acc])
  (fun c (y : Unit) => False) (fun y => []) (newE l.length) (by simp) ?_ ?_ ?_ ?_ (by simp)
 ·intro i _ F w1 _ hw
  exact RqS.of hv (fun h => by rw [A0n]; omega) hw
 ·rintro i hi acc F hψ K' hK _
  have hi' : i < (H3 l).length := by simpa using hi
  have hm : (H3 l)[i] ∈ H3 l := List.getElem_mem hi'
  have hst : ((H3 l).take (i + 1)).foldl (fun acc p => Y2 acc p.2) (newE l.length) = Y2 acc (H3 l)[i].2 := by
   rw [List.take_add_one, List.getElem?_eq_getElem hi', Option.toList_some, List.foldl_append, ← hψ]; rfl
  have hlen : acc.length ≤ 64 := by rw [hψ, B7B, A3x]; omega
  simp only [List.getElem_map]
  generalize (H3 l)[i] = p at *
  have hkp := hks p.2 (B4Q p hm).1
  simp only [A5m, VF.app]
  (have zz:=trivial;repeat((first|clear zz|with_reducible first|refine A3 ?_|refine A5 fun _=>?_|refine A4 fun _=>?_);try simp(disch:=first|omega|assumption|((repeat(first|exact A1|exact uH|apply A2|apply uT));first|done|fail)|(simp;first|done|omega|fail))[]))
  refine C6 (Hc := [H9 r acc]) A1j (fun w' hw hs => B8x w' r acc p.2 hkp (by omega) hs) (by (repeat' constructor)) ?_
  rintro _ _ rfl
  refine TW.sub (TW.perm (hK (Y2 acc p.2) hst.symm) ?_) (H' := H9 r (Y2 acc p.2) :: .pt bt (.cells #[r] 324) :: F) ?_
  ·exact List.Perm.swap ..
  ·simp only [Y2]; ((try simp only [List.cons_append, List.nil_append, List.append_assoc]); (repeat (first | exact List.Sublist.refl _ | exact List.nil_sublist _ | with_reducible apply List.Sublist.cons_cons | apply List.Sublist.cons)); first | done | fail)
 ·intro acc hψ
  simp only [List.length_map, List.take_length] at hψ
  subst hψ
  (have zz:=trivial;repeat((first|clear zz|with_reducible first|refine A3 ?_|refine A5 fun _=>?_|refine A4 fun _=>?_);try simp(disch:=first|omega|assumption|((repeat(first|exact A1|exact uH|apply A2|apply uT));first|done|fail)|(simp;first|done|omega|fail))[]))
  exact B1 r rfl (by simp only [u7]; (repeat' constructor))
 ·rintro _ _ h; exact h.elim
def Y1 (l : List EnV) (key : ByteArray) : Option (List EnV) := if E3 l key < 0 then none else some (l.set (E3 l key).toNat l8)
theorem B6U {l m : List EnV} {key : ByteArray} (h : Y1 l key = some m) : m.length = l.length := by
 unfold Y1 at h
 by_cases c : E3 l key < 0
 ·rw [if_pos c] at h; cases h
 ·rw [if_neg c] at h; injection h with h; rw [← h]; simp
def Q0 (u : List EnV) : List EnV := if u.length < 2 * A4P u 2 then u7 u else u
def W3 (l : List EnV) (key : ByteArray) : List EnV := match Y1 l key with | some u => Q0 u | none => l
theorem B8M (w : World) (v : Value) (l : List EnV) (key : ByteArray) (b : Nat) (hk : key.size < 2 ^ 60) (hn : l.length ≤ 1000000) (hx : w.cell? ⟨b, 0, none⟩ = some (.string key)) (hb : b ∉ B5 [H9 v l]) (hw : LW false (B5 [H9 v l]) w [H9 v l] w) :
  Fn PR B8 185 #[v, .pointer (some ⟨b, 0, none⟩)] w (Rn (B5 [H9 v l]) w (fun (_ : Unit) u => u = .bool (Y1 l key).isSome) fun _ => [H9 v ((Y1 l key).getD l)]) := by
 refine A9f (TW.goH (κ := false) (S := B5 [H9 v l]) ?_ hw)
 unfold A2v
 (have zz:=trivial;repeat((first|clear zz|with_reducible first|refine A3 ?_|refine A5 fun _=>?_|refine A4 fun _=>?_);try simp(disch:=first|omega|assumption|((repeat(first|exact A1|exact uH|apply A2|apply uT));first|done|fail)|(simp;first|done|omega|fail))[hx]))
 refine C1 v6 (fun w' hw' => A09 w' v l key hk hn (P6.own (by (repeat constructor)) w' hw')) ?_
 by_cases c1 : E3 l key < 0
 ·have hd : Y1 l key = none := if_pos c1
  (have zz:=trivial;repeat((first|clear zz|with_reducible first|refine A3 ?_|refine A5 fun _=>?_|refine A4 fun _=>?_);try simp(disch:=first|omega|assumption|((repeat(first|exact A1|exact uH|apply A2|apply uT));first|done|fail)|(simp;first|done|omega|fail))[c1]))
  exact B1 () (by simp [hd]) (by simp only [hd, Option.getD_none]; (repeat' constructor))
 ·have hd : Y1 l key = some (l.set (E3 l key).toNat l8) := if_neg c1
  have hlt := A2C (l := l) (key := key) (by omega)
  have h0 : 0 ≤ E3 l key := by omega
  obtain ⟨i, hi⟩ : ∃ i : Nat, E3 l key = i := ⟨(E3 l key).toNat, by omega⟩
  rw [hi] at hd hlt c1 ⊢
  rw [Int.toNat_natCast] at hd hlt
  refine s9 (e := 218) (k := 4) (v := v) (q := l.length) (xs := l.flatMap H0) (by (repeat constructor)) (by omega) ?_
  rintro g c rfl
  (have zz:=trivial;repeat((first|clear zz|with_reducible first|refine A3 ?_|refine A5 fun _=>?_|refine A4 fun _=>?_);try simp(disch:=first|omega|assumption|((repeat(first|exact A1|exact uH|apply A2|apply uT));first|done|fail)|(simp;first|done|omega|fail))[c1, hlt]))
  refine U0 (by (repeat constructor)) (by simp) (by rw [A0n]; omega) (by simp) ?_
  refine B1 () (by simp [hd]) ?_
  have := A91 (f := H0) (k := 4) (fun _ => rfl) l i l8 hlt
  simp only [hd, Option.getD_some, H9, List.length_set, ← this]
  (repeat' constructor)
theorem A6n (w : World) (v : Value) (l : List EnV) (key : ByteArray) (hk : key.size < 2 ^ 60) (hks : Q6 l) (hn : l.length ≤ 1000000) (hv : G1 w v l.length (l.flatMap H0)) :
  Fn PR B8 136 #[v, .string key] w (Rn [] w (fun r u => u = .tuple #[if (Y1 l key).isSome then r else v, .bool (Y1 l key).isSome]) fun r => [H9 r (W3 l key)]) := by
 refine B29 (TW.go (κ := false) (S := []) ?_)
 unfold A4r
 (have zz:=trivial;repeat((first|clear zz|with_reducible first|refine A3 ?_|refine A5 fun _=>?_|refine A4 fun _=>?_);try simp(disch:=first|omega|assumption|((repeat(first|exact A1|exact uH|apply A2|apply uT));first|done|fail)|(simp;first|done|omega|fail))[]))
 rename_i b
 refine H2 A3D (fun w' hw' => B2c w' v l 185 [.pointer (some ⟨b, 0, none⟩)] (Y1 l key) (fun m h => B6U h) hn (hv.ks hw'.ks (by simp)) A8e
  fun w2 r h hf hr => ?_) ?_
 ·have hp := hw'.pt (b := b) (by (repeat constructor))
  have hb : b < sz w' := H7 hp
  exact B8M w2 r l key b hk hn (h.cell (by simp) (hw'.cell1 (by (repeat constructor)))) (fun hc => by have := hf b hc; omega) hr
 ·rintro r _ rfl
  cases h : Y1 l key with
  | none =>
   have e : W3 l key = l := by simp [W3, h]
   (have zz:=trivial;repeat((first|clear zz|with_reducible first|refine A3 ?_|refine A5 fun _=>?_|refine A4 fun _=>?_);try simp(disch:=first|omega|assumption|((repeat(first|exact A1|exact uH|apply A2|apply uT));first|done|fail)|(simp;first|done|omega|fail))[]))
   exact B1 r (by simp) (by rw [e]; (repeat' constructor))
  | some m =>
   have e : W3 l key = Q0 m := by simp [W3, h]
   have hml := B6U h
   have hmk : Q6 m := by
    unfold Y1 at h
    by_cases c : E3 l key < 0
    ·rw [if_pos c] at h; cases h
    ·rw [if_neg c] at h; injection h with h; rw [← h]
     intro x hx
     rcases List.mem_or_eq_of_mem_set hx with hx | rfl
     ·exact hks x hx
     ·simp [l8]
   simp only [Option.isSome_some, if_true, Option.getD_some]
   refine T6 (e := 218) (k := 4) (v := r) (q := m.length) (xs := m.flatMap H0) (by (repeat constructor)) ?_
   rintro ra rc rfl
   (have zz:=trivial;repeat((first|clear zz|with_reducible first|refine A3 ?_|refine A5 fun _=>?_|refine A4 fun _=>?_);try simp(disch:=first|omega|assumption|((repeat(first|exact A1|exact uH|apply A2|apply uT));first|done|fail)|(simp;first|done|omega|fail))[]))
   refine C1 B2B (fun w' hw' => C3D w' _ m 2 (by omega) (P6.own (by (repeat constructor)) w' hw')) ?_
   have hcl : A4P m 2 ≤ m.length := List.countP_le_length
   by_cases c1 : m.length < 2 * A4P m 2
   ·have c1' : (m.length : Int) < 2 * (A4P m 2 : Nat) := by omega
    have e2 : W3 l key = u7 m := by rw [e, Q0, if_pos c1]
    (have zz:=trivial;repeat((first|clear zz|with_reducible first|refine A3 ?_|refine A5 fun _=>?_|refine A4 fun _=>?_);try simp(disch:=first|omega|assumption|((repeat(first|exact A1|exact uH|apply A2|apply uT));first|done|fail)|(simp;first|done|omega|fail))[c1']))
    refine H2 B35 (fun w' hw' => C6N w' _ m hmk (by omega) (P6.own (by (repeat constructor)) w' hw')) ?_
    rintro _ r rfl
    exact B1 r rfl (by rw [e2]; (repeat' constructor))
   ·have c1' : ¬ (m.length : Int) < 2 * (A4P m 2 : Nat) := by omega
    have e2 : W3 l key = m := by rw [e, Q0, if_neg c1]
    (have zz:=trivial;repeat((first|clear zz|with_reducible first|refine A3 ?_|refine A5 fun _=>?_|refine A4 fun _=>?_);try simp(disch:=first|omega|assumption|((repeat(first|exact A1|exact uH|apply A2|apply uT));first|done|fail)|(simp;first|done|omega|fail))[c1']))
    exact B1 (.slice ra m.length rc) rfl (by rw [e2]; (repeat' constructor))
def M8 (l : List EnV) : List ByteArray := (H3 l).map (·.2.key)
theorem C6E (w : World) (v : Value) (l : List EnV) (hn : l.length ≤ 1000000) (hv : G1 w v l.length (l.flatMap H0)) :
  Fn PR B8 147 #[v] w (Rn [] w (fun r u => u = r) fun r => [.own 9 1 r (M8 l).length ((M8 l).map Value.string)]) := by
 refine B5H (TW.go (κ := false) (S := []) ?_)
 unfold A8N
 obtain ⟨a, c, rfl, _⟩ := hv.form
 (have zz:=trivial;repeat((first|clear zz|with_reducible first|refine A3 ?_|refine A5 fun _=>?_|refine A4 fun _=>?_);try simp(disch:=first|omega|assumption|((repeat(first|exact A1|exact uH|apply A2|apply uT));first|done|fail)|(simp;first|done|omega|fail))[]))
 rename_i bt
 refine H2 A1J (fun w' _ => B8p w' (.slice a l.length c) ⟨_, _, _, rfl⟩) ?_
 rintro b _ rfl
 refine k9 9 1 ?_
 have hll : (H3 l).length ≤ l.length := by
  have : ∀ (m : List EnV) (i : Nat), (Q4 i m).length ≤ m.length := by
   intro m
   induction m with
   | nil => intro i; simp [Q4]
   | cons x m ih => intro i; have := ih (i + 1); simp only [Q4]; split <;> simp <;> omega
  exact this l 0
 refine TW.eqH (H' := [.own 9 1 (.slice none 0 0) 0 [], .pt b (.cells #[.slice a l.length c] 324), .pt bt (.cells #[.slice none 0 0] 51)]) (by simp) ?_
 refine TW.perm ?_ (H' := [.pt b (.cells #[.slice a l.length c] 324), .own 9 1 (.slice none 0 0) 0 [], .pt bt (.cells #[.slice none 0 0] 51)]) (List.Perm.swap ..)
 refine A2E (B8Y b (.slice a l.length c) l hn) (A7K _) (fun i (x : Option Addr × Nat) => True) (fun i x => [.own 9 1 (.slice x.1 i x.2) i (((H3 l).map fun p => Value.string p.2.key).take i), .pt bt (.cells #[.slice x.1 i x.2] 51)])
  (fun c (y : Unit) => False) (fun y => []) (none, 0) trivial ?_ ?_ ?_ ?_ (by simp)
 ·intro i _ F w1 _ hw
  exact RqS.of hv (fun h => by rw [A0n]; omega) hw
 ·rintro i hi ⟨xa, xc⟩ F _ K' hK _
  have hi' : i < (H3 l).length := by simpa using hi
  have hst : ((H3 l).map fun p => Value.string p.2.key).take (i + 1) = ((H3 l).map fun p => Value.string p.2.key).take i ++ [Value.string (H3 l)[i].2.key] := by
   rw [List.take_add_one, List.getElem?_map, List.getElem?_eq_getElem hi']; rfl
  simp only [hst] at hK
  simp only [List.getElem_map]
  generalize (H3 l)[i] = p at *
  simp only [A5m, VF.app]
  (have zz:=trivial;repeat((first|clear zz|with_reducible first|refine A3 ?_|refine A5 fun _=>?_|refine A4 fun _=>?_|refine D6 fun _=>?_|refine D3 (hK:=fun _=>?_)|refine D7 (hK:=fun _=>?_)|refine D8 (hK:=fun _=>?_)|refine D5 (hK:=fun _=>?_)|refine D4 (hK:=fun _=>?_));try simp(disch:=first|omega|assumption|((repeat(first|exact A1|exact uH|apply A2|apply uT));first|done|fail)|(simp;first|done|omega|fail))[]))
  refine u5 (e := 9) (k := 1) (q := i) (r := 1) (xs := ((H3 l).map fun p => Value.string p.2.key).take i) (news := [Value.string p.2.key]) (by (repeat constructor)) (P6.own (by (repeat constructor))) (by decide) (by simp) (by simp) (by simp only [maxLen]; omega) (by omega) fun a' c' => ?_
  (have zz:=trivial;repeat((first|clear zz|with_reducible first|refine A3 ?_|refine A5 fun _=>?_|refine A4 fun _=>?_);try simp(disch:=first|omega|assumption|((repeat(first|exact A1|exact uH|apply A2|apply uT));first|done|fail)|(simp;first|done|omega|fail))[]))
  refine TW.sub (TW.perm (hK (a', c') trivial) ?_) (H' := .own 9 1 (.slice a' (i + 1) c') (i + 1) (((H3 l).map fun p => Value.string p.2.key).take i ++ [Value.string p.2.key]) :: .pt bt (.cells #[.slice a' (i + 1) c'] 51) :: F) ?_
  ·exact List.Perm.refl _
  ·((try simp only [List.cons_append, List.nil_append, List.append_assoc]); (repeat (first | exact List.Sublist.refl _ | exact List.nil_sublist _ | with_reducible apply List.Sublist.cons_cons | apply List.Sublist.cons)); first | done | fail)
 ·rintro ⟨xa, xc⟩ _
  (have zz:=trivial;repeat((first|clear zz|with_reducible first|refine A3 ?_|refine A5 fun _=>?_|refine A4 fun _=>?_);try simp(disch:=first|omega|assumption|((repeat(first|exact A1|exact uH|apply A2|apply uT));first|done|fail)|(simp;first|done|omega|fail))[]))
  refine B1 (.slice xa (H3 l).length xc) rfl ?_
  rw [List.take_of_length_le (by simp)]
  simp only [M8, List.length_map, List.map_map]
  exact Sels.cons Sel.here Sels.nil
 ·rintro _ _ h; exact h.elim
def S5 (l : List EnV) : Bool := (H3 l).all fun p => decide (E3 l p.2.key = p.1)
end Go.Proofs.YtjobgnabneddjaaGreat
namespace Go.Proofs.YtjobgnabneddjaaGreat
open Go
def C7L (x : EnV) (now : Int) : Bool := decide (x.st = 1) && decide (x.dl < now)
def C6S (f n m : Nat) : List Nat := (List.range n).map fun i => (f + i) % m
def C9D (now : Int) (s : List EnV × Nat) (j : Nat) : List EnV × Nat := if C7L (s.1.getD j noE) now then (s.1.set j l8, s.2 + 1) else s
def C6d (l : List EnV) (f n : Nat) (now : Int) : List EnV × Nat := (C6S f n l.length).foldl (C9D now) (l, 0)
def B9G (l : List EnV) (f : Int) : Nat := if f < 0 ∨ (l.length : Int) ≤ f then 0 else f.toNat
def C5H (l : List EnV) (n : Int) : Nat := min n.toNat l.length
def C63 (l : List EnV) (f n now : Int) : List EnV × Nat × Nat :=
 let s := C6d l (B9G l f) (C5H l n) now
 (if 0 < s.2 then Q0 s.1 else s.1, if 0 < l.length then (B9G l f + C5H l n) % l.length else B9G l f, s.2)
end Go.Proofs.YtjobgnabneddjaaGreat
namespace Go.Proofs.YtjobgnabneddjaaGreat
open Go
theorem A4E {κ : Bool} {S : List Nat} {w0 : World} {H : List Res} {K0 : WP} {t : TypeId} {n : Nat} {z : Value} [h : TG t n z] {b o : Nat} {c : Array Value} {T : TypeId} {f : Nat × Nat} {xs : Array Value} {l : List Rd} (hm : Res.pt b (.cells c T f) ∈ H) (hl : W1 c.toList o n = some xs.toList) :
  TW κ S w0 H (watch PR ((none, Instr.loadAt t (.pointer (some ⟨b, o, none⟩)), .agg xs) :: l) K0) = TW κ S w0 H (watch PR l K0) := by
 obtain ⟨_, _, h, hd⟩ := h.ti
 refine B3v fun w hw => ?_
 have hr := A10 hl (N1.bl (hw.pt hm))
 have h2 := A12 hr
 have := A5C h hd h2.1 h2.2
 simpa using this
theorem N1.sub {w : World} {b o : Nat} {l : List Value} (h : N1 w b o l) (j n : Nat) (hn : j + n ≤ l.length) : k8 w b (o + j) n = some ((l.drop j).take n) := by
 have hl : ((l.drop j).take n).length = n := by simp; omega
 have h1 : N1 w b (o + j) ((l.drop j).take n) := fun q hq => by
  rw [hl] at hq
  rw [Nat.add_assoc, h (j + q) (by omega), List.getElem?_take_of_lt hq, List.getElem?_drop]
 have := A6H h1
 rwa [hl] at this
end Go.Proofs.YtjobgnabneddjaaGreat
namespace Go.Proofs.YtjobgnabneddjaaGreat
open Go
def A6a (X : Nat → Prop) (t0 : Value) (R : Value → WP) : WP :=
 B2 PR X (Instr.box 23 t0) fun t1 =>
 B2 PR X (Instr.alloc 27 true (.tuple #[])) fun t3 =>
 C0 PR X (Instr.storeAt 27 t3 (.int .i64 0)) <|
 A0 PR (Instr.makeFunc (.func 127) #[] #[t3]) fun t5 =>
 A0 PR (Instr.fieldAt 23 t1 0) fun t7 =>
 A6 PR (Instr.loadAt 3 t7) fun t8 =>
 L5 PR X t5 [t8, (.int .i64 1), (.int .i64 64)] fun t9 =>
 A0 PR (Instr.fieldAt 23 t1 1) fun t11 =>
 A6 PR (Instr.loadAt 3 t11) fun t12 =>
 L5 PR X t5 [t12, (.int .i64 1), (.int .i64 16)] fun t13 =>
 A0 PR (Instr.fieldAt 23 t1 2) fun t15 =>
 A6 PR (Instr.loadAt 3 t15) fun t16 =>
 L5 PR X t5 [t16, (.int .i64 1), (.int .i64 64)] fun t17 =>
 A0 PR (Instr.fieldAt 23 t1 3) fun t19 =>
 A6 PR (Instr.loadAt 3 t19) fun t20 =>
 L5 PR X t5 [t20, (.int .i64 0), (.int .i64 1000000)] fun t21 =>
 A0 PR (Instr.fieldAt 23 t1 4) fun t23 =>
 A6 PR (Instr.loadAt 3 t23) fun t24 =>
 L5 PR X t5 [t24, (.int .i64 2), (.int .i64 8)] fun t25 =>
 A6 PR (Instr.loadAt 27 t3) fun t26 =>
 R t26
theorem B15 : A9 PR 65 := A7 Tryz.func65 (by kernel_rfl) rfl
theorem B3k {X : Nat → Prop} {t0 : Value} {R : Value → WP} {w : World} (h : A6a X t0 R w) : Fn PR X 65 #[t0] w R := C3 (args := [t0]) mixed Tryz.func65 (by kernel_rfl) h
def A26 (X : Nat → Prop) (t0 t1 t2 t3 : Value) (R : Value → WP) : WP :=
 A0 PR (binOp .lss 3 t0 t1) fun t9 =>
 gj t9 false (fun J => J t0) fun t11 =>
 gj t9 false (fun J => J t2) fun t12 =>
 gj t9 false (fun J => A0 PR (binOp .gtr 3 t11 t12) J) fun t13 =>
 A0 PR (do pure (if ← asBool t9 then (.bool true) else t13)) fun t14 =>
 C4 t14 (
 C0 PR X (Instr.storeAt 27 t3 (.int .i64 1)) <|
 R (.tuple #[])) (
 R (.tuple #[]))
theorem T0 : A9 PR 127 := A7 Tryz.func127 (by kernel_rfl) rfl
theorem B0k {X : Nat → Prop} {t0 t1 t2 t3 : Value} {R : Value → WP} {w : World} (h : A26 X t0 t1 t2 t3 R w) : Fn PR X 127 #[t0, t1, t2, t3] w R := C3 (args := [t0, t1, t2, t3]) mixed Tryz.func127 (by kernel_rfl) h
def A6Z (X : Nat → Prop) (t0 t1 : Value) (R : Value → WP) : WP :=
 jn (n := 1) (fun t4 =>
 B4 PR X 135 [t0] fun t8 =>
 A0 PR (binOp .shr 89 t8 (.int .u64 32)) fun t9 =>
 A0 PR (convert 3 89 t1) fun t11 =>
 A0 PR (binOp .rem 89 t9 t11) fun t12 =>
 A0 PR (convert 89 3 t12) fun t13 =>
 R t13) fun J1 =>
 A0 PR (binOp .lss 3 t1 (.int .i64 1)) fun t6 =>
 C4 t6 (
 R (.int .i64 0)) (
 J1 (.int .i64 0))
theorem B3M : A9 PR 167 := A7 Tryz.func167 (by kernel_rfl) rfl
theorem B4B {X : Nat → Prop} {t0 t1 : Value} {R : Value → WP} {w : World} (h : A6Z X t0 t1 R w) : Fn PR X 167 #[t0, t1] w R := C3 (args := [t0, t1]) mixed Tryz.func167 (by kernel_rfl) h
end Go.Proofs.YtjobgnabneddjaaGreat
