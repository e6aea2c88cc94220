/- The proof of a given statement, a part of it (Atm Ws Cells Cells2 ShEpoch Ep Ep2 ShSlots Slo Slo2 Wor Wor2 Wor3 Rw18 Rw16 ShControl Con Con2 Con3 Con4 Con5 Con6 Con7 ShL20 Upd Upd2 RunG Job Hap Hap2 Few19 ArgsA ShL19WorkerPinned ShWorker Jw Jw1 Jw2 UpdR BusL CurL Jw3). No condition but what each lemma says. -/
import Derived.Conc.AtomicLaws2
import Derived.Test.YtjobgnabneddjaaGreatP15
set_option linter.unusedVariables false
set_option linter.unusedSimpArgs false
namespace Go.Proofs.YtjobgnabneddjaaGreat
open Go
theorem B6Z {w : World} {b o : Nat} {c : Array Value} {T : TypeId} (v : Value) (hb : bl w b = some (.cells c T (0, 0))) : w.setCell ⟨b, o, none⟩ v = World.putb w b (.cells (c.setIfInBounds o v) T (0, 0)) := by
 unfold World.setCell World.putb
 congr 1
 apply Array.ext_getElem?
 intro r
 rw [Array.getElem?_modify]
 by_cases hr : b = r
 ·subst hr
  have : w.heap[b]? = some (.cells c T (0, 0)) := hb
  rw [Array.getElem?_setIfInBounds_self_of_lt (show b < w.heap.size from H2 hb)]
  simp [this]
 ·rw [Array.getElem?_setIfInBounds_ne hr]; simp [hr]
theorem C15 {w : World} {b o : Nat} {c : Array Value} {T : TypeId} (hb : bl w b = some (.cells c T (0, 0))) : w.frozen? ⟨b, o, none⟩ = false := by
 have : w.heap[b]? = some (.cells c T (0, 0)) := hb
 simp [World.frozen?, this]
theorem B7W {w : World} {b o : Nat} {c : Array Value} {T : TypeId} {x d : Int} (hb : bl w b = some (.cells c T (0, 0))) (ho : c[o]? = some (.int .i64 x)) :
  (callFunc 234 #[.pointer (some ⟨b, o, none⟩), .int .i64 d]).run PR w = .ok (.value (.int .i64 (IntKind.i64.wrap (x + d)))) (World.putb w b (.cells (c.setIfInBounds o (.int .i64 (IntKind.i64.wrap (x + d)))) T (0, 0))) := by
 have h1 : Extern.findNext Tryz.f234 = none := by kernel_rfl
 have h2 : Extern.find Tryz.f234 = some (Extern.Atomic.update (Op.intArith .add) .i64 true) := by kernel_rfl
 have h3 : (Tryz.f234.name == "runtime.NumGoroutine") = false := by kernel_rfl
 have h4 : Tryz.f234.body.isNone = true := by kernel_rfl
 have h5 : PR.funcs[234]? = some Tryz.f234 := Tryz.func234
 have hc : w.cell? ⟨b, o, none⟩ = some (.int .i64 x) := by rw [E1 hb]; exact ho
 have hf := C15 (o := o) hb
 simp only [callFunc, Sem.run_bind, run_program, Result.andThen_ok, h5, h3, h4, Bool.false_eq_true, if_false, if_true, h1, h2]
 have := Conc.run_add_entry (P := PR) (ad := ⟨b, o, none⟩) (k := .i64) (v := x) (d := d) hc hf
 rw [B6Z _ hb] at this
 have hm : (mark (Mark.extern 234)).run PR w = .ok () w := rfl
 rw [hm, Result.andThen_ok, this]
 rfl
theorem C0j {κ : Bool} {X : Nat → Prop} {S : List Nat} {w0 : World} {H H' : List Res} {K : Value → WP} {b o : Nat} {c : Array Value} {T : TypeId} {x d : Int} (ho : c[o]? = some (.int .i64 x))
  (hu : Up (.pt b (.cells c T (0, 0))) (.pt b (.cells (c.setIfInBounds o (.int .i64 (IntKind.i64.wrap (x + d)))) T (0, 0))) H H')
  (hK : TW κ S w0 H' (K (.int .i64 (IntKind.i64.wrap (x + d))))) : TW κ S w0 H (B4 PR X 234 [.pointer (some ⟨b, o, none⟩), .int .i64 d] K) := fun w hw => by
 have hm : Res.pt b (.cells c T (0, 0)) ∈ H := by obtain ⟨A, B, rfl, _⟩ := hu.parts; simp
 have hb := hw.pt hm
 refine Or.inr ⟨_, _, B7W hb ho, Sk.putb _ hb, hK _ (hw.up hu ⟨KS.putb hb (by simp [Res.foot]), ?_, ?_, by simp⟩)⟩
 ·simp only [List.mem_singleton, forall_eq, Res.holds]; exact ⟨Q3 (H2 hb), rfl⟩
 ·simp only [List.mem_singleton, forall_eq, Res.foot]; exact ⟨Or.inl (by simp), by have := H2 hb; simpa using this⟩
end Go.Proofs.YtjobgnabneddjaaGreat
namespace Go.Proofs.YtjobgnabneddjaaGreat
open Go
inductive SlV where
 | no
 | bld
 | rdy (p : List F7)
structure WS where
 c : CfgV
 cells : List Int
 own : List Int
 sl : List SlV
 keep : List (Int × Int)
 tabs : List (List EnV)
 places : List Nat
 now : Int
def D9 (l : List Int) (i : Int) : Int := if 0 ≤ i ∧ i < l.length then l.getD i.toNat 0 else 0
def K3 (l : List Int) (i v : Int) : List Int := if 0 ≤ i ∧ i < l.length then l.set i.toNat v else l
def z8 (l : List Int) (i : Int) : Int := if 0 ≤ i ∧ i < l.length then l.getD i.toNat 0 else -1
def A11 (l : List Int) (i a b : Int) : List Int := if 0 ≤ i ∧ i < l.length ∧ l.getD i.toNat 0 = a then l.set i.toNat b else l
def j5 (l : List Int) (i who : Int) : List Int := if 0 ≤ who then A11 l i (-1) who else l
def Q5 (l : List Int) (i who : Int) : List Int := if 0 ≤ who then A11 l i who (-1) else l
def A06 (l : List SlV) (i : Int) (x : SlV) : List SlV := if 0 ≤ i ∧ i < l.length then l.set i.toNat x else l
def H8 (l : List SlV) (i : Int) : SlV := if 0 ≤ i ∧ i < l.length then l.getD i.toNat .no else .no
def A23 (l : List SlV) (i : Int) (p : List F7) : List SlV :=
 match H8 l i with
 | .bld => if M3 p = 0 then A06 l i (.rdy p) else l
 | _ => l
def A6g (l : List SlV) (i : Int) : Int × Bool :=
 match H8 l i with
 | .rdy p => (p.length, true)
 | _ => (0, false)
def A4Q (l : List SlV) (i : Int) (h : Nat) : Int × Bool :=
 match H8 l i with
 | .rdy p => (B2J p h, true)
 | _ => (0, false)
def B62 (l : List SlV) (i id : Int) : Bool × Bool :=
 match H8 l i with
 | .rdy p => (decide (0 ≤ Q2 p id), true)
 | _ => (false, false)
def stK (l : List (Int × Int)) (i : Int) : Int := if 0 ≤ i ∧ i < l.length then (l.getD i.toNat (0, 0)).1 else -1
def U3 (l : List (Int × Int)) : Int := if l.findIdx (· = (0, 0)) < l.length then (l.findIdx (· = (0, 0)) : Nat) else -1
def B60 (pins : List Int) (e : Int) : Bool := pins.all fun p => p = 0 || e < p
def l0 (pins : List Int) (s : Int × Int) : Bool := decide (s.1 = 2) && B60 pins s.2
def B9d (l : List (Int × Int)) (pins : List Int) : Int := if l.findIdx (l0 pins) < l.length then (l.findIdx (l0 pins) : Nat) else -1
def B14 (l : List (Int × Int)) (i a : Int) (s : Int × Int) : List (Int × Int) := if stK l i = a ∧ 0 ≤ i then l.set i.toNat s else l
def C8l (l : List (Int × Int)) (i : Int) : List (Int × Int) := B14 l i 2 (0, 0)
def B6U (l : List (Int × Int)) (i e : Int) : List (Int × Int) := B14 l i 1 (2, e)
def A0u (l : List (Int × Int)) : List (Int × Int) := if U3 l < 0 then l else l.set (U3 l).toNat (1, (l.getD (U3 l).toNat (0, 0)).2)
def F8 (c : CfgV) (who : Int) : Int := if who < 1 ∨ c.wk < who then -1 else 1 + who
abbrev A10 := Bool × Bool × Bool
structure JB where
 who : Int
 st : Int
 ans : AnsV
structure JU where
 b : JB
 pool : List F7
 pins : List Int
 slot : Int
 old : Int
def noA : AnsV := ⟨0, 0, false, 0⟩
def JB.refuse (b : JB) (e : Int) : JB := { b with st := -1, ans := ⟨e, 0, false, 0⟩ }
def B69 (j : JU) : Int := if j.b.who = 0 then M3 j.pool else 1
def C5m (j : JU) (x : WS) : JU × WS × A10 :=
 if 0 ≤ B9d x.keep j.pins then (j, { x with sl := A06 x.sl (B9d x.keep j.pins) .no, keep := C8l x.keep (B9d x.keep j.pins) }, false, false, false)
 else if U3 x.keep < 0 then ({ j with b := j.b.refuse 13, slot := U3 x.keep }, x, true, true, false)
 else ({ j with slot := U3 x.keep, b := { j.b with st := j.b.st + 1 } }, { x with sl := A06 x.sl (U3 x.keep) .bld, keep := A0u x.keep }, false, false, false)
def A5f (j : JU) : JU := { j with b := { j.b with st := j.b.st + 1 } }
def C6b (j : JU) (x : WS) : JU × WS × A10 :=
 let e := IntKind.i64.wrap (D9 x.cells 0 + 1)
 ({ j with b := { j.b with st := -1 } }, { x with cells := K3 x.cells 0 e, keep := if 0 < j.old then B6U x.keep (j.old - 1) e else x.keep }, false, true, false)
def B8Q (j : JU) (x : WS) : JU × WS × A10 :=
 if j.b.st = 0 ∧ B69 j ≠ 0 then ({ j with b := j.b.refuse (B69 j) }, x, true, true, false)
 else if j.b.st = 0 ∨ j.b.st - x.c.wk < 0 then ({ A5f j with pins := j.pins ++ [D9 x.cells (F8 x.c (j.b.st + 1))] }, x, false, false, false)
 else if j.b.st - x.c.wk = 0 then C5m j x
 else if j.b.st - x.c.wk = 1 then (A5f j, { x with sl := A23 x.sl j.slot j.pool }, false, false, false)
 else if j.b.st - x.c.wk = 2 then ({ A5f j with old := D9 x.cells 1 }, x, false, false, false)
 else if j.b.st - x.c.wk = 3 then (A5f j, { x with cells := K3 x.cells 1 (j.slot + 1) }, true, false, false)
 else C6b (A5f j) x
structure JE where
 b : JB
 shard : Int
 place : Nat
 table : List EnV
def C6P (x : WS) (i : Int) : Bool := decide (0 ≤ i) && decide (i < x.tabs.length)
def C7C (x : WS) (i : Int) : List EnV := x.tabs.getD i.toNat []
def C6g (x : WS) (i : Int) : Nat := x.places.getD i.toNat 0
def JE.up (j : JE) : JE := { j with b := { j.b with st := j.b.st + 1 } }
def B72 (j : JE) (x : WS) : JE × WS × A10 :=
 if C6P x j.shard = false then ({ j with b := j.b.refuse 1 }, x, true, true, false)
 else if j.b.st = 0 then (j.up, { x with own := j5 x.own j.shard j.b.who }, false, false, false)
 else if j.b.st = 1 then
  let s := C66 (C7C x j.shard) (C6g x j.shard) 4 x.now
  ({ j with b := { j.b with st := j.b.st + 1, ans := { j.b.ans with count := (s.2.2 : Nat) } }, table := s.1, place := s.2.1 }, x, true, false, false)
 else if j.b.st = 2 then (j.up, { x with tabs := x.tabs.set j.shard.toNat j.table, places := x.places.set j.shard.toNat j.place }, false, false, false)
 else ({ j with b := { j.b with st := -1 } }, { x with own := Q5 x.own j.shard j.b.who }, false, true, false)
def B8F (b : JB) (x : WS) : JB × WS × A10 :=
 let n : Int := x.tabs.length
 let i := b.st % n
 if b.st < n then ({ b with st := b.st + 1 }, { x with own := j5 x.own i b.who }, decide (i = n - 1), false, false)
 else if b.st < 2 * n then ({ b with st := b.st + 1, ans := { b.ans with count := IntKind.i64.wrap (b.ans.count + (A3a (C7C x i) 1 : Nat)) } }, x, false, false, false)
 else if i = n - 1 then ({ b with st := -1 }, { x with own := Q5 x.own i b.who }, false, true, false)
 else ({ b with st := b.st + 1 }, { x with own := Q5 x.own i b.who }, false, false, false)
inductive JV where
 | upd (j : JU)
 | exp (j : JE)
 | sta (b : JB)
 | non (b : JB)
def JV.b : JV → JB
 | .upd j => j.b
 | .exp j => j.b
 | .sta b => b
 | .non b => b
def JV.waits (j : JV) (x : WS) : Bool :=
 match j with
 | .upd _ => false
 | .exp j => decide (j.b.st = 0) && !decide (z8 x.own j.shard < 0)
 | .sta b => decide (b.st < x.tabs.length) && !decide (z8 x.own b.st < 0)
 | .non _ => false
def JV.ready (j : JV) (x : WS) : Bool := !decide (j.b.st = -1) && !j.waits x
def JV.step0 (j : JV) (x : WS) : JV × WS × A10 :=
 match j with
 | .upd j => (.upd (B8Q j x).1, (B8Q j x).2)
 | .exp j => (.exp (B72 j x).1, (B72 j x).2)
 | .sta b => (.sta (B8F b x).1, (B8F b x).2)
 | .non b => (.non (b.refuse 1), x, true, true, false)
def JV.step (j : JV) (x : WS) : JV × WS × A10 := if j.ready x then j.step0 x else (j, x, false, false, false)
structure RunV where
 j : JV
 x : WS
 n : Nat
 tk : Nat
 bad : Nat
def RunV.next (r : RunV) : RunV := ⟨(r.j.step0 r.x).1, (r.j.step0 r.x).2.1, r.n + 1, r.tk + (r.j.step0 r.x).2.2.1.toNat, r.bad + (r.j.step0 r.x).2.2.2.2.toNat⟩
def B1E : Nat → RunV → RunV
 | 0, r => r
 | f + 1, r => if r.j.ready r.x then B1E f r.next else r
end Go.Proofs.YtjobgnabneddjaaGreat
namespace Go.Proofs.YtjobgnabneddjaaGreat
open Go
def E7 (l : List Int) : List Value := l.map fun n => .int .i64 n
@[simp] theorem C3M (l : List Int) : (E7 l).length = l.length := by unfold E7; rw [List.length_map]
theorem A0T {l : List Int} {i : Nat} (h : i < l.length) : (E7 l)[i]? = some (.int .i64 (l.getD i 0)) := by
 unfold E7; rw [List.getElem?_map, List.getElem?_eq_getElem h, List.getD_eq_getElem?_getD, List.getElem?_eq_getElem h]; rfl
theorem A1n {l : List Int} {i : Nat} (h : i < l.length) (v : Int) : W6 (E7 l) i [.int .i64 v] = E7 (l.set i v) := by
 unfold W6 E7
 rw [List.map_set, List.set_eq_take_append_cons_drop, if_pos (by simpa using h)]
 simp
def D0 (b : Nat) (n : Int) (cv ov : Value) (cs os : List Int) : List Res := [.pt b (.cells #[.int .i64 n, cv, ov] 141), .own 3 1 cv cs.length (E7 cs), .own 3 1 ov os.length (E7 os)]
theorem C2F (w : World) (b : Nat) (n : Int) (cv ov : Value) (hw : LW false [b] w [.pt b (.cells #[.int .i64 n, cv, ov] 141)] w) :
  Fn PR B8 178 #[.pointer (some ⟨b, 0, none⟩), .int .i64 1] w (Rn [b] w (fun (_ : Unit) u => u = .int .i64 (IntKind.i64.wrap (n + 1))) fun _ => [.pt b (.cells #[.int .i64 (IntKind.i64.wrap (n + 1)), cv, ov] 141)]) := by
 refine A32 (TW.goH (κ := false) (S := [b]) ?_ hw)
 unfold r4
 (have zz:=trivial;repeat((first|clear zz|with_reducible first|refine A3 ?_|refine A5 fun _=>?_|refine A4 fun _=>?_);try simp(disch:=first|omega|assumption|((repeat(first|exact A1|exact uH|apply A2|apply uT));first|done|fail)|(simp;first|done|omega|fail))[]))
 refine C0j (x := n) (c := #[.int .i64 n, cv, ov]) (o := 0) rfl Up.here ?_
 exact B1 () rfl (by (repeat' constructor))
theorem C1a (w : World) (b : Nat) (n : Int) (cv ov : Value) (hw : LW false [b] w [.pt b (.cells #[.int .i64 n, cv, ov] 141)] w) :
  Fn PR B8 129 #[.pointer (some ⟨b, 0, none⟩)] w (Rn [b] w (fun (n : Int) u => u = .tuple #[]) fun n => [.pt b (.cells #[.int .i64 n, cv, ov] 141)]) := by
 refine A5G (TW.goH (κ := false) (S := [b]) ?_ hw)
 unfold w8
 (have zz:=trivial;repeat((first|clear zz|with_reducible first|refine A3 ?_|refine A5 fun _=>?_|refine A4 fun _=>?_);try simp(disch:=first|omega|assumption|((repeat(first|exact A1|exact uH|apply A2|apply uT));first|done|fail)|(simp;first|done|omega|fail))[]))
 refine C7 (Hc := [.pt b (.cells #[.int .i64 n, cv, ov] 141)]) A3B (fun w' _ hs => C2F w' b n cv ov hs) (by (repeat' constructor)) ?_
 rintro _ v rfl
 exact B1 (IntKind.i64.wrap (n + 1)) rfl (by (repeat' constructor))
def A20 (v : Value) (l : List Int) (i : Int) (u : Value) : Prop := if 0 ≤ i ∧ i < l.length then ∃ g c, v = .slice (some ⟨g, 0, none⟩) l.length c ∧ u = .pointer (some ⟨g, i.toNat, none⟩) else u = .pointer none
theorem A56 (w : World) (b : Nat) (n : Int) (cv ov : Value) (v : Value) (l : List Int) (i : Int) (hl : l.length ≤ 1024) (hv : N2 w 3 1 v l.length (E7 l)) (hw : LW false [b] w [.pt b (.cells #[.int .i64 n, cv, ov] 141)] w) :
  Fn PR B8 74 #[.pointer (some ⟨b, 0, none⟩), v, .int .i64 i] w (Rn [b] w (fun (n : Int) u => A20 v l i u) fun n => [.pt b (.cells #[.int .i64 n, cv, ov] 141)]) := by
 refine A8E (TW.goH (κ := false) (S := [b]) ?_ hw)
 unfold A1P
 obtain ⟨a, c, rfl⟩ := hv.form
 by_cases c1 : i < 0
 ·(have zz:=trivial;repeat((first|clear zz|with_reducible first|refine A3 ?_|refine A5 fun _=>?_|refine A4 fun _=>?_);try simp(disch:=first|omega|assumption|((repeat(first|exact A1|exact uH|apply A2|apply uT));first|done|fail)|(simp;first|done|omega|fail))[c1]))
  exact B1 n (by unfold A20; rw [if_neg (by omega)]) (by (repeat' constructor))
 by_cases c2 : (l.length : Int) ≤ i
 ·(have zz:=trivial;repeat((first|clear zz|with_reducible first|refine A3 ?_|refine A5 fun _=>?_|refine A4 fun _=>?_);try simp(disch:=first|omega|assumption|((repeat(first|exact A1|exact uH|apply A2|apply uT));first|done|fail)|(simp;first|done|omega|fail))[c1, c2]))
  exact B1 n (by unfold A20; rw [if_neg (by omega)]) (by (repeat' constructor))
 obtain ⟨j, rfl⟩ : ∃ j : Nat, i = j := ⟨i.toNat, by omega⟩
 have hj : j < l.length := by omega
 have hj2 : ¬ l.length ≤ j := by omega
 rcases hv.2 with ⟨h, e⟩ | ⟨g, cap, cur, e, h2⟩
 ·omega
 cases e
 (have zz:=trivial;repeat((first|clear zz|with_reducible first|refine A3 ?_|refine A5 fun _=>?_|refine A4 fun _=>?_);try simp(disch:=first|omega|assumption|((repeat(first|exact A1|exact uH|apply A2|apply uT));first|done|fail)|(simp;first|done|omega|fail))[c1, c2, hj, hj2]))
 refine C7 (Hc := [.pt b (.cells #[.int .i64 n, cv, ov] 141)]) A4M (fun w' _ hs => C1a w' b n cv ov hs) (by (repeat' constructor)) ?_
 rintro m v rfl
 (have zz:=trivial;repeat((first|clear zz|with_reducible first|refine A3 ?_|refine A5 fun _=>?_|refine A4 fun _=>?_);try simp(disch:=first|omega|assumption|((repeat(first|exact A1|exact uH|apply A2|apply uT));first|done|fail)|(simp;first|done|omega|fail))[c1, c2, hj, hj2]))
 exact B1 m (by unfold A20; rw [if_pos (by omega)]; exact ⟨_, _, rfl, by simp⟩) (by (repeat' constructor))
theorem A3s (w : World) (b : Nat) (n : Int) (cv ov : Value) (cs os : List Int) (i : Int) (hl : cs.length ≤ 1024) (hw : LW false (B6 (D0 b n cv ov cs os)) w (D0 b n cv ov cs os) w) :
  Fn PR B8 35 #[.pointer (some ⟨b, 0, none⟩), .int .i64 i] w (Rn (B6 (D0 b n cv ov cs os)) w (fun (n : Int) u => u = .int .i64 (D9 cs i)) fun n => D0 b n cv ov cs os) := by
 refine A8H (TW.goH (κ := false) (S := B6 (D0 b n cv ov cs os)) ?_ hw)
 unfold A1Y
 refine P6 (e := 3) (k := 1) (v := cv) (q := cs.length) (xs := E7 cs) (by simp only [D0]; (repeat constructor)) fun ca cc e => ?_
 subst e
 simp only [D0]
 (have zz:=trivial;repeat((first|clear zz|with_reducible first|refine A3 ?_|refine A5 fun _=>?_|refine A4 fun _=>?_);try simp(disch:=first|omega|assumption|((repeat(first|exact A1|exact uH|apply A2|apply uT));first|done|fail)|(simp;first|done|omega|fail))[]))
 refine C7 (Hc := [.pt b (.cells #[.int .i64 n, .slice ca cs.length cc, ov] 141)]) P9 (fun w' hw' hs => A56 w' b n (.slice ca cs.length cc) ov (.slice ca cs.length cc) cs i hl (hw'.hold (.own 3 1 (.slice ca cs.length cc) cs.length (E7 cs)) ?_) hs) (by (repeat' constructor)) ?_
 ·(repeat constructor)
 intro m u hu
 unfold A20 at hu
 by_cases c1 : 0 ≤ i ∧ i < cs.length
 ·rw [if_pos c1] at hu
  obtain ⟨g, c, e, rfl⟩ := hu
  cases e
  obtain ⟨j, rfl⟩ : ∃ j : Nat, i = j := ⟨i.toNat, by omega⟩
  have hj : j < cs.length := by omega
  have hg := A0T hj
  (have zz:=trivial;repeat((first|clear zz|with_reducible first|refine A3 ?_|refine A5 fun _=>?_|refine A4 fun _=>?_);try simp(disch:=first|omega|assumption|((repeat(first|exact A1|exact uH|apply A2|apply uT));first|done|fail)|(simp;first|done|omega|fail))[hg]))
  exact B1 m (by unfold D9; rw [if_pos c1, Int.toNat_natCast]; exact (List.getElem?_eq_some_iff.1 hg).2) (by (repeat' constructor))
 ·rw [if_neg c1] at hu
  subst hu
  (have zz:=trivial;repeat((first|clear zz|with_reducible first|refine A3 ?_|refine A5 fun _=>?_|refine A4 fun _=>?_);try simp(disch:=first|omega|assumption|((repeat(first|exact A1|exact uH|apply A2|apply uT));first|done|fail)|(simp;first|done|omega|fail))[]))
  exact B1 m (by unfold D9; rw [if_neg c1]) (by (repeat' constructor))
theorem A9H (w : World) (b : Nat) (n : Int) (cv ov : Value) (cs os : List Int) (i v : Int) (hl : cs.length ≤ 1024) (hw : LW false (B6 (D0 b n cv ov cs os)) w (D0 b n cv ov cs os) w) :
  Fn PR B8 31 #[.pointer (some ⟨b, 0, none⟩), .int .i64 i, .int .i64 v] w (Rn (B6 (D0 b n cv ov cs os)) w (fun (n : Int) u => u = .tuple #[]) fun n => D0 b n cv ov (K3 cs i v) os) := by
 refine A7C (TW.goH (κ := false) (S := B6 (D0 b n cv ov cs os)) ?_ hw)
 unfold A00
 refine P6 (e := 3) (k := 1) (v := cv) (q := cs.length) (xs := E7 cs) (by simp only [D0]; (repeat constructor)) fun ca cc e => ?_
 subst e
 simp only [D0]
 (have zz:=trivial;repeat((first|clear zz|with_reducible first|refine A3 ?_|refine A5 fun _=>?_|refine A4 fun _=>?_);try simp(disch:=first|omega|assumption|((repeat(first|exact A1|exact uH|apply A2|apply uT));first|done|fail)|(simp;first|done|omega|fail))[]))
 refine C7 (Hc := [.pt b (.cells #[.int .i64 n, .slice ca cs.length cc, ov] 141)]) P9 (fun w' hw' hs => A56 w' b n (.slice ca cs.length cc) ov (.slice ca cs.length cc) cs i hl (hw'.hold (.own 3 1 (.slice ca cs.length cc) cs.length (E7 cs)) ?_) hs) (by (repeat' constructor)) ?_
 ·(repeat constructor)
 intro m u hu
 unfold A20 at hu
 by_cases c1 : 0 ≤ i ∧ i < cs.length
 ·rw [if_pos c1] at hu
  obtain ⟨g, c, e, rfl⟩ := hu
  cases e
  obtain ⟨j, rfl⟩ : ∃ j : Nat, i = j := ⟨i.toNat, by omega⟩
  have hj : j < cs.length := by omega
  (have zz:=trivial;repeat((first|clear zz|with_reducible first|refine A3 ?_|refine A5 fun _=>?_|refine A4 fun _=>?_);try simp(disch:=first|omega|assumption|((repeat(first|exact A1|exact uH|apply A2|apply uT));first|done|fail)|(simp;first|done|omega|fail))[]))
  refine T5 (by (repeat constructor)) (by simp) (by simp; omega) (by simp) ?_
  refine B1 m rfl ?_
  have e : W6 (E7 cs) ((j : Nat) : Int).toNat [.int .i64 v] = E7 (K3 cs j v) := by unfold K3; rw [if_pos c1, Int.toNat_natCast, A1n hj]
  have el : (K3 cs j v).length = cs.length := by unfold K3; rw [if_pos c1, List.length_set]
  rw [el, ← e]
  simp
  (repeat' constructor)
 ·rw [if_neg c1] at hu
  subst hu
  (have zz:=trivial;repeat((first|clear zz|with_reducible first|refine A3 ?_|refine A5 fun _=>?_|refine A4 fun _=>?_);try simp(disch:=first|omega|assumption|((repeat(first|exact A1|exact uH|apply A2|apply uT));first|done|fail)|(simp;first|done|omega|fail))[]))
  exact B1 m rfl (by unfold K3; rw [if_neg c1]; (repeat' constructor))
theorem C4y (w : World) (b : Nat) (n : Int) (cv ov : Value) (cs os : List Int) (i d : Int) (hl : cs.length ≤ 1024) (hi : 0 ≤ i ∧ i < cs.length) (hw : LW false (B6 (D0 b n cv ov cs os)) w (D0 b n cv ov cs os) w) :
  Fn PR B8 93 #[.pointer (some ⟨b, 0, none⟩), .int .i64 i, .int .i64 d] w (Rn (B6 (D0 b n cv ov cs os)) w (fun (n : Int) u => u = .int .i64 (IntKind.i64.wrap (D9 cs i + d))) fun n => D0 b n cv ov (K3 cs i (IntKind.i64.wrap (D9 cs i + d))) os) := by
 refine A9g (TW.goH (κ := false) (S := B6 (D0 b n cv ov cs os)) ?_ hw)
 unfold A2S
 refine P6 (e := 3) (k := 1) (v := cv) (q := cs.length) (xs := E7 cs) (by simp only [D0]; (repeat constructor)) fun ca cc e => ?_
 subst e
 simp only [D0]
 (have zz:=trivial;repeat((first|clear zz|with_reducible first|refine A3 ?_|refine A5 fun _=>?_|refine A4 fun _=>?_);try simp(disch:=first|omega|assumption|((repeat(first|exact A1|exact uH|apply A2|apply uT));first|done|fail)|(simp;first|done|omega|fail))[]))
 refine C7 (Hc := [.pt b (.cells #[.int .i64 n, .slice ca cs.length cc, ov] 141)]) P9 (fun w' hw' hs => A56 w' b n (.slice ca cs.length cc) ov (.slice ca cs.length cc) cs i hl (hw'.hold (.own 3 1 (.slice ca cs.length cc) cs.length (E7 cs)) ?_) hs) (by (repeat' constructor)) ?_
 ·(repeat constructor)
 intro m u hu
 unfold A20 at hu
 rw [if_pos hi] at hu
 obtain ⟨g, c, e, rfl⟩ := hu
 cases e
 obtain ⟨j, rfl⟩ : ∃ j : Nat, i = j := ⟨i.toNat, by omega⟩
 have hj : j < cs.length := by omega
 have hg := A0T hj
 have hld : D9 cs j = cs.getD j 0 := by unfold D9; rw [if_pos hi, Int.toNat_natCast]
 rw [hld]
 obtain ⟨z, hz⟩ : ∃ z, z = cs.getD j 0 := ⟨_, rfl⟩
 rw [← hz] at hg ⊢
 have hgg := (List.getElem?_eq_some_iff.1 hg).2
 (have zz:=trivial;repeat((first|clear zz|with_reducible first|refine A3 ?_|refine A5 fun _=>?_|refine A4 fun _=>?_);try simp(disch:=first|omega|assumption|((repeat(first|exact A1|exact uH|apply A2|apply uT));first|done|fail)|(simp;first|done|omega|fail))[hg, hgg]))
 refine T5 (by (repeat constructor)) (by simp) (by simp; omega) (by simp) ?_
 have e : ∀ v : Int, W6 (E7 cs) j (Value.int .i64 v).cells.toList = E7 (K3 cs j v) := fun v => by unfold K3; rw [if_pos hi, Int.toNat_natCast, ← A1n hj]; rfl
 have el : ∀ v : Int, (K3 cs j v).length = cs.length := fun v => by unfold K3; rw [if_pos hi, List.length_set]
 have hr : ∀ v : Int, (E7 (K3 cs j v))[j]? = some (.int .i64 v) := fun v => by
  rw [A0T (by rw [el]; exact hj)]; unfold K3; rw [if_pos hi, Int.toNat_natCast, List.getD_eq_getElem?_getD, List.getElem?_set_self hj]; rfl
 have hrr : ∀ v : Int, ∀ h, (E7 (K3 cs j v))[j]'h = .int .i64 v := fun v h => (List.getElem?_eq_some_iff.1 (hr v)).2
 simp only [Int.toNat_natCast, e]
 (have zz:=trivial;repeat((first|clear zz|with_reducible first|refine A3 ?_|refine A5 fun _=>?_|refine A4 fun _=>?_);try simp(disch:=first|omega|assumption|((repeat(first|exact A1|exact uH|apply A2|apply uT));first|done|fail)|(simp;first|done|omega|fail))[el, e, hr, hrr]))
 exact B1 m rfl (by (repeat' constructor))
theorem B6r (w : World) (v u : Value) (l : List Int) (i x y : Int) (hu : A20 v l i u) (hw : LW false (B6 [.own 3 1 v l.length (E7 l)]) w [.own 3 1 v l.length (E7 l)] w) :
  Fn PR B8 75 #[u, .int .i64 x, .int .i64 y] w (Rn (B6 [.own 3 1 v l.length (E7 l)]) w (fun (_ : Unit) r => r = .bool (decide (0 ≤ i ∧ i < l.length ∧ l.getD i.toNat 0 = x))) fun _ => [.own 3 1 v (A11 l i x y).length (E7 (A11 l i x y))]) := by
 refine B46 (TW.goH (κ := false) (S := B6 [.own 3 1 v l.length (E7 l)]) ?_ hw)
 unfold A7s
 unfold A20 at hu
 by_cases c1 : 0 ≤ i ∧ i < l.length
 ·rw [if_pos c1] at hu
  obtain ⟨g, c, rfl, rfl⟩ := hu
  obtain ⟨j, rfl⟩ : ∃ j : Nat, i = j := ⟨i.toNat, by omega⟩
  have hj : j < l.length := by omega
  have hg := A0T hj
  unfold A11
  simp only [Int.toNat_natCast]
  by_cases c2 : l.getD j 0 = x
  ·rw [if_pos ⟨c1.1, c1.2, c2⟩, decide_eq_true ⟨c1.1, c1.2, c2⟩]
   obtain ⟨z, hz⟩ : ∃ z, z = l.getD j 0 := ⟨_, rfl⟩
   rw [← hz] at hg c2
   have hgg := (List.getElem?_eq_some_iff.1 hg).2
   subst c2
   (have zz:=trivial;repeat((first|clear zz|with_reducible first|refine A3 ?_|refine A5 fun _=>?_|refine A4 fun _=>?_);try simp(disch:=first|omega|assumption|((repeat(first|exact A1|exact uH|apply A2|apply uT));first|done|fail)|(simp;first|done|omega|fail))[hg, hgg]))
   refine T5 (by (repeat constructor)) (by simp) (by simp; omega) (by simp) ?_
   refine B1 () rfl ?_
   have e : W6 (E7 l) j (Value.int .i64 y).cells.toList = E7 (l.set j y) := by rw [← A1n hj]; rfl
   rw [List.length_set, ← e]
   (repeat' constructor)
  ·rw [if_neg (fun h => c2 h.2.2), decide_eq_false (fun h => c2 h.2.2)]
   obtain ⟨z, hz⟩ : ∃ z, z = l.getD j 0 := ⟨_, rfl⟩
   rw [← hz] at hg c2
   have hgg := (List.getElem?_eq_some_iff.1 hg).2
   (have zz:=trivial;repeat((first|clear zz|with_reducible first|refine A3 ?_|refine A5 fun _=>?_|refine A4 fun _=>?_);try simp(disch:=first|omega|assumption|((repeat(first|exact A1|exact uH|apply A2|apply uT));first|done|fail)|(simp;first|done|omega|fail))[hg, hgg, c2]))
   exact B1 () rfl (by (repeat' constructor))
 ·rw [if_neg c1] at hu
  subst hu
  unfold A11
  rw [if_neg (fun h => c1 ⟨h.1, h.2.1⟩), decide_eq_false (fun h => c1 ⟨h.1, h.2.1⟩)]
  (have zz:=trivial;repeat((first|clear zz|with_reducible first|refine A3 ?_|refine A5 fun _=>?_|refine A4 fun _=>?_);try simp(disch:=first|omega|assumption|((repeat(first|exact A1|exact uH|apply A2|apply uT));first|done|fail)|(simp;first|done|omega|fail))[]))
  exact B1 () rfl (by (repeat' constructor))
def A3x (u : Value) : Prop := ∃ r : Bool, u = .bool r
theorem W7 (r : Bool) : A3x (.bool r) := ⟨r, rfl⟩
theorem B5v (w : World) (b : Nat) (n : Int) (cv ov : Value) (cs os : List Int) (i who : Int) (hl : os.length ≤ 1024) (hw : LW false (B6 (D0 b n cv ov cs os)) w (D0 b n cv ov cs os) w) :
  Fn PR B8 19 #[.pointer (some ⟨b, 0, none⟩), .int .i64 i, .int .i64 who] w (Rn (B6 (D0 b n cv ov cs os)) w (fun (n : Int) u => A3x u) fun n => D0 b n cv ov cs (j5 os i who)) := by
 refine A8Z (TW.goH (κ := false) (S := B6 (D0 b n cv ov cs os)) ?_ hw)
 unfold A1H
 refine P6 (e := 3) (k := 1) (v := ov) (q := os.length) (xs := E7 os) (by simp only [D0]; (repeat constructor)) fun ca cc e => ?_
 subst e
 simp only [D0]
 (have zz:=trivial;repeat((first|clear zz|with_reducible first|refine A3 ?_|refine A5 fun _=>?_|refine A4 fun _=>?_);try simp(disch:=first|omega|assumption|((repeat(first|exact A1|exact uH|apply A2|apply uT));first|done|fail)|(simp;first|done|omega|fail))[]))
 refine C7 (Hc := [.pt b (.cells #[.int .i64 n, cv, .slice ca os.length cc] 141)]) P9 (fun w' hw' hs => A56 w' b n cv (.slice ca os.length cc) (.slice ca os.length cc) os i hl (hw'.hold (.own 3 1 (.slice ca os.length cc) os.length (E7 os)) ?_) hs) (by (repeat' constructor)) ?_
 ·(repeat constructor)
 intro m u hu
 unfold j5
 by_cases c1 : 0 ≤ who
 ·rw [if_pos c1]
  (have zz:=trivial;repeat((first|clear zz|with_reducible first|refine A3 ?_|refine A5 fun _=>?_|refine A4 fun _=>?_);try simp(disch:=first|omega|assumption|((repeat(first|exact A1|exact uH|apply A2|apply uT));first|done|fail)|(simp;first|done|omega|fail))[c1]))
  refine C7 (Hc := [.own 3 1 (.slice ca os.length cc) os.length (E7 os)]) A6U (fun w' _ hs => B6r w' _ u os i (-1) who hu hs) (by (repeat' constructor)) ?_
  rintro _ r rfl
  (have zz:=trivial;repeat((first|clear zz|with_reducible first|refine A3 ?_|refine A5 fun _=>?_|refine A4 fun _=>?_);try simp(disch:=first|omega|assumption|((repeat(first|exact A1|exact uH|apply A2|apply uT));first|done|fail)|(simp;first|done|omega|fail))[]))
  exact B1 m (W7 _) (by (repeat' constructor))
 ·rw [if_neg c1]
  (have zz:=trivial;repeat((first|clear zz|with_reducible first|refine A3 ?_|refine A5 fun _=>?_|refine A4 fun _=>?_);try simp(disch:=first|omega|assumption|((repeat(first|exact A1|exact uH|apply A2|apply uT));first|done|fail)|(simp;first|done|omega|fail))[c1]))
  exact B1 m (W7 _) (by (repeat' constructor))
theorem B23 (w : World) (b : Nat) (n : Int) (cv ov : Value) (cs os : List Int) (i who : Int) (hl : os.length ≤ 1024) (hw : LW false (B6 (D0 b n cv ov cs os)) w (D0 b n cv ov cs os) w) :
  Fn PR B8 25 #[.pointer (some ⟨b, 0, none⟩), .int .i64 i, .int .i64 who] w (Rn (B6 (D0 b n cv ov cs os)) w (fun (n : Int) u => A3x u) fun n => D0 b n cv ov cs (Q5 os i who)) := by
 refine A5q (TW.goH (κ := false) (S := B6 (D0 b n cv ov cs os)) ?_ hw)
 unfold A0d
 refine P6 (e := 3) (k := 1) (v := ov) (q := os.length) (xs := E7 os) (by simp only [D0]; (repeat constructor)) fun ca cc e => ?_
 subst e
 simp only [D0]
 (have zz:=trivial;repeat((first|clear zz|with_reducible first|refine A3 ?_|refine A5 fun _=>?_|refine A4 fun _=>?_);try simp(disch:=first|omega|assumption|((repeat(first|exact A1|exact uH|apply A2|apply uT));first|done|fail)|(simp;first|done|omega|fail))[]))
 refine C7 (Hc := [.pt b (.cells #[.int .i64 n, cv, .slice ca os.length cc] 141)]) P9 (fun w' hw' hs => A56 w' b n cv (.slice ca os.length cc) (.slice ca os.length cc) os i hl (hw'.hold (.own 3 1 (.slice ca os.length cc) os.length (E7 os)) ?_) hs) (by (repeat' constructor)) ?_
 ·(repeat constructor)
 intro m u hu
 unfold Q5
 by_cases c1 : 0 ≤ who
 ·rw [if_pos c1]
  (have zz:=trivial;repeat((first|clear zz|with_reducible first|refine A3 ?_|refine A5 fun _=>?_|refine A4 fun _=>?_);try simp(disch:=first|omega|assumption|((repeat(first|exact A1|exact uH|apply A2|apply uT));first|done|fail)|(simp;first|done|omega|fail))[c1]))
  refine C7 (Hc := [.own 3 1 (.slice ca os.length cc) os.length (E7 os)]) A6U (fun w' _ hs => B6r w' _ u os i who (-1) hu hs) (by (repeat' constructor)) ?_
  rintro _ r rfl
  (have zz:=trivial;repeat((first|clear zz|with_reducible first|refine A3 ?_|refine A5 fun _=>?_|refine A4 fun _=>?_);try simp(disch:=first|omega|assumption|((repeat(first|exact A1|exact uH|apply A2|apply uT));first|done|fail)|(simp;first|done|omega|fail))[]))
  exact B1 m (W7 _) (by (repeat' constructor))
 ·rw [if_neg c1]
  (have zz:=trivial;repeat((first|clear zz|with_reducible first|refine A3 ?_|refine A5 fun _=>?_|refine A4 fun _=>?_);try simp(disch:=first|omega|assumption|((repeat(first|exact A1|exact uH|apply A2|apply uT));first|done|fail)|(simp;first|done|omega|fail))[c1]))
  exact B1 m (W7 _) (by (repeat' constructor))
theorem A9u (w : World) (b : Nat) (n : Int) (cv ov : Value) (os : List Int) (i : Int) (hb : bl w b = some (.cells #[.int .i64 n, cv, ov] 141 (0, 0))) (hv : G1 w ov os.length (E7 os)) :
  Fn PR B8 37 #[.pointer (some ⟨b, 0, none⟩), .int .i64 i] w (fun u w' => u = .int .i64 (z8 os i) ∧ C9 [] w w') := by
 refine Fn.pure (A6p (TW.go (κ := false) (S := []) ?_))
 unfold A0k
 obtain ⟨a, c, rfl, hr⟩ := hv.form
 have h2 : w.cell? ⟨b, 2, none⟩ = some (.slice a os.length c) := by rw [E1 hb]; rfl
 by_cases c1 : i < 0
 ·(have zz:=trivial;repeat((first|clear zz|with_reducible first|refine A3 ?_|refine A5 fun _=>?_|refine A4 fun _=>?_);try simp(disch:=first|omega|assumption|((repeat(first|exact A1|exact uH|apply A2|apply uT));first|done|fail)|(simp;first|done|omega|fail))[c1, h2]))
  exact B0 (by unfold z8; rw [if_neg (by omega)])
 by_cases c2 : (os.length : Int) ≤ i
 ·(have zz:=trivial;repeat((first|clear zz|with_reducible first|refine A3 ?_|refine A5 fun _=>?_|refine A4 fun _=>?_);try simp(disch:=first|omega|assumption|((repeat(first|exact A1|exact uH|apply A2|apply uT));first|done|fail)|(simp;first|done|omega|fail))[c1, c2, h2]))
  exact B0 (by unfold z8; rw [if_neg (by omega)])
 obtain ⟨j, rfl⟩ : ∃ j : Nat, i = j := ⟨i.toNat, by omega⟩
 have hj : j < os.length := by omega
 have hj2 : ¬ os.length ≤ j := by omega
 obtain ⟨g, o, rfl, hrow⟩ := hr (by omega)
 have hx : w.cell? ⟨g, o + j, none⟩ = some (.int .i64 (os.getD j 0)) := hrow.get (A0T hj)
 obtain ⟨z, hz⟩ : ∃ z, z = os.getD j 0 := ⟨_, rfl⟩
 rw [← hz] at hx
 (have zz:=trivial;repeat((first|clear zz|with_reducible first|refine A3 ?_|refine A5 fun _=>?_|refine A4 fun _=>?_);try simp(disch:=first|omega|assumption|((repeat(first|exact A1|exact uH|apply A2|apply uT));first|done|fail)|(simp;first|done|omega|fail))[c1, c2, hj, hj2, h2, hx]))
 exact B0 (by unfold z8; rw [if_pos (by omega), Int.toNat_natCast, hz])
end Go.Proofs.YtjobgnabneddjaaGreat
namespace Go.Proofs.YtjobgnabneddjaaGreat
open Go
theorem B0G (n : Nat) : (Builtin.zeroCells (Value.int .i64 0).cells n).toList = E7 (List.replicate n 0) := by
 have hz : (Builtin.zeroCells (Value.int .i64 0).cells n).toList.length = n := by simp [size_zeroCells]
 apply List.ext_getElem (by rw [hz]; simp)
 intro i h1 h2
 simp [Builtin.zeroCells, E7, Nat.mod_one]
theorem D1v {l i : Nat} (h : i < l) (a b : Int) : (List.replicate i a ++ List.replicate (l - i) b).set i a = List.replicate (i + 1) a ++ List.replicate (l - (i + 1)) b := by
 rw [List.set_append_right _ _ (by simp)]
 obtain ⟨k, hk⟩ : ∃ k, l - i = k + 1 := ⟨l - i - 1, by omega⟩
 have : l - (i + 1) = k := by omega
 rw [hk, this, List.replicate_succ' (n := i)]
 simp [List.replicate_succ]
theorem A6n (w : World) (n : Nat) (h : n ≤ 1024) : Fn PR B8 128 #[.int .i64 (n : Nat)] w (fun u w' => u = .int .i64 (n : Nat) ∧ C9 [] w w') := by
 refine Fn.pure (B20 (TW.go (κ := false) (S := []) ?_))
 unfold A4g
 have h1 : max ((n : Nat) : Int) 0 = n := by omega
 have h2 : min ((n : Nat) : Int) 1024 = n := by omega
 (have zz:=trivial;repeat((first|clear zz|with_reducible first|refine A3 ?_|refine A5 fun _=>?_|refine A4 fun _=>?_);try simp(disch:=first|omega|assumption|((repeat(first|exact A1|exact uH|apply A2|apply uT));first|done|fail)|(simp;first|done|omega|fail))[h1, h2]))
 exact B0 rfl
theorem B7a (w : World) (a l : Nat) (ha : a ≤ 1024) (hl : l ≤ 1024) : Fn PR B8 68 #[.int .i64 (a : Nat), .int .i64 (l : Nat)] w
  (Rn [] w (fun (x : Nat × Value × Value) u => u = .pointer (some ⟨x.1, 0, none⟩)) fun x => D0 x.1 0 x.2.1 x.2.2 (List.replicate a 0) (List.replicate l (-1))) := by
 refine B6j (TW.go (κ := false) (S := []) ?_)
 unfold A9p
 (have zz:=trivial;repeat((first|clear zz|with_reducible first|refine A3 ?_|refine A5 fun _=>?_|refine A4 fun _=>?_);try simp(disch:=first|omega|assumption|((repeat(first|exact A1|exact uH|apply A2|apply uT));first|done|fail)|(simp;first|done|omega|fail))[]))
 refine C4Y (α := Nat × Nat × Nat) (fun _ => True) (fun x => D0 x.1 0 (.slice (some ⟨x.2.1, 0, none⟩) a a) (.slice (some ⟨x.2.2, 0, none⟩) l l) (List.replicate a 0) (List.replicate l 0)) (fun x => .pointer (some ⟨x.1, 0, none⟩)) ?_ ?_
 ·rintro ⟨b, bc, bo⟩ _
  simp only [D0]
  (have zz:=trivial;repeat((first|clear zz|with_reducible first|refine A3 ?_|refine A5 fun _=>?_|refine A4 fun _=>?_);try simp(disch:=first|omega|assumption|((repeat(first|exact A1|exact uH|apply A2|apply uT));first|done|fail)|(simp;first|done|omega|fail))[]))
  refine C68 l (fun i => [.pt b (.cells #[.int .i64 0, .slice (some ⟨bc, 0, none⟩) a a, .slice (some ⟨bo, 0, none⟩) l l] 141), .own 3 1 (.slice (some ⟨bc, 0, none⟩) a a) a (E7 (List.replicate a 0)), .own 3 1 (.slice (some ⟨bo, 0, none⟩) l l) l (E7 (List.replicate i (-1) ++ List.replicate (l - i) 0))]) ?_ (by simp)
  intro i hi L hL
  by_cases hlt : i < l
  ·(have zz:=trivial;repeat((first|clear zz|with_reducible first|refine A3 ?_|refine A5 fun _=>?_|refine A4 fun _=>?_);try simp(disch:=first|omega|assumption|((repeat(first|exact A1|exact uH|apply A2|apply uT));first|done|fail)|(simp;first|done|omega|fail))[hlt]))
   refine T5 (by (repeat constructor)) (by simp) (by simp; omega) (by simp) ?_
   have e : W6 (E7 (List.replicate i (-1) ++ List.replicate (l - i) 0)) i (Value.int .i64 (-1)).cells.toList = E7 (List.replicate (i + 1) (-1) ++ List.replicate (l - (i + 1)) 0) := by
    rw [← D1v hlt, ← A1n (by simp; omega)]; rfl
   rw [e]
   (have zz:=trivial;repeat((first|clear zz|with_reducible first|refine A3 ?_|refine A5 fun _=>?_|refine A4 fun _=>?_);try simp(disch:=first|omega|assumption|((repeat(first|exact A1|exact uH|apply A2|apply uT));first|done|fail)|(simp;first|done|omega|fail))[]))
   exact hL hlt
  ·obtain rfl : i = l := by omega
   (have zz:=trivial;repeat((first|clear zz|with_reducible first|refine A3 ?_|refine A5 fun _=>?_|refine A4 fun _=>?_);try simp(disch:=first|omega|assumption|((repeat(first|exact A1|exact uH|apply A2|apply uT));first|done|fail)|(simp;first|done|omega|fail))[]))
   refine B1 (b, .slice (some ⟨bc, 0, none⟩) a a, .slice (some ⟨bo, 0, none⟩) i i) rfl ?_
   simp only [List.length_replicate]
   (repeat' constructor)
 ·intro C hC
  have hC' : ∀ b bc bo, TW false [] w (D0 b 0 (.slice (some ⟨bc, 0, none⟩) a a) (.slice (some ⟨bo, 0, none⟩) l l) (List.replicate a 0) (List.replicate l 0)) (C (.pointer (some ⟨b, 0, none⟩))) := fun b bc bo => hC (b, bc, bo) trivial
  simp only [D0, List.length_replicate] at hC'
  refine C4 A0E (fun w' _ => A6n w' a ha) ?_
  (have zz:=trivial;repeat((first|clear zz|with_reducible first|refine A3 ?_|refine A5 fun _=>?_|refine A4 fun _=>?_);try simp(disch:=first|omega|assumption|((repeat(first|exact A1|exact uH|apply A2|apply uT));first|done|fail)|(simp;first|done|omega|fail))[]))
  refine ⟨?_, ?_, fun _ _ => trivial⟩
  ·refine v7 (by omega) (by omega) (by omega) (by omega) fun bc => ?_
   rw [Int.toNat_natCast, B0G]
   refine C4 A0E (fun w' _ => A6n w' l hl) ?_
   refine v7 (by omega) (by omega) (by omega) (by omega) fun bo => ?_
   rw [Int.toNat_natCast, B0G]
   (have zz:=trivial;repeat((first|clear zz|with_reducible first|refine A3 ?_|refine A5 fun _=>?_|refine A4 fun _=>?_);try simp(disch:=first|omega|assumption|((repeat(first|exact A1|exact uH|apply A2|apply uT));first|done|fail)|(simp;first|done|omega|fail))[]))
   rename_i b
   exact Sels.tw (by (repeat' constructor)) (hC' b bc bo)
  ·refine C4 A0E (fun w' _ => A6n w' l hl) ?_
   (have zz:=trivial;repeat((first|clear zz|with_reducible first|refine A3 ?_|refine A5 fun _=>?_|refine A4 fun _=>?_);try simp(disch:=first|omega|assumption|((repeat(first|exact A1|exact uH|apply A2|apply uT));first|done|fail)|(simp;first|done|omega|fail))[]))
   refine ⟨?_, ?_, fun _ _ => trivial⟩
   ·refine v7 (by omega) (by omega) (by omega) (by omega) fun bc => ?_
    rw [Int.toNat_natCast, B0G]
    refine v7 (by omega) (by omega) (by omega) (by omega) fun bo => ?_
    rw [Int.toNat_natCast, B0G]
    (have zz:=trivial;repeat((first|clear zz|with_reducible first|refine A3 ?_|refine A5 fun _=>?_|refine A4 fun _=>?_);try simp(disch:=first|omega|assumption|((repeat(first|exact A1|exact uH|apply A2|apply uT));first|done|fail)|(simp;first|done|omega|fail))[]))
    rename_i b
    exact Sels.tw (by (repeat' constructor)) (hC' b bc bo)
   ·refine v7 (by omega) (by omega) (by omega) (by omega) fun bo => ?_
    rw [Int.toNat_natCast, B0G]
    refine v7 (by omega) (by omega) (by omega) (by omega) fun bc => ?_
    rw [Int.toNat_natCast, B0G]
    (have zz:=trivial;repeat((first|clear zz|with_reducible first|refine A3 ?_|refine A5 fun _=>?_|refine A4 fun _=>?_);try simp(disch:=first|omega|assumption|((repeat(first|exact A1|exact uH|apply A2|apply uT));first|done|fail)|(simp;first|done|omega|fail))[]))
    rename_i b
    exact Sels.tw (by (repeat' constructor)) (hC' b bc bo)
end Go.Proofs.YtjobgnabneddjaaGreat
namespace Go.Proofs.YtjobgnabneddjaaGreat
open Go
def A9Q (X : Nat → Prop) (t0 : Value) (R : Value → WP) : WP :=
 A0 PR (A8 .min #[3, 3] 0 [t0, (.int .i64 8)]) fun t4 =>
 A0 PR (A8 .max #[3, 3] 0 [(.int .i64 0), t4]) fun t5 =>
 A0 PR (Instr.build 203 #[(1, t5)]) fun t6 =>
 B2 PR X (Instr.box 203 t6) fun t7 =>
 R t7
theorem B5G : A9 PR 71 := A7 Tryz.func71 (by kernel_rfl) rfl
theorem B56 {X : Nat → Prop} {t0 : Value} {R : Value → WP} {w : World} (h : A9Q X t0 R w) : Fn PR X 71 #[t0] w R := C6 (args := [t0]) mixed Tryz.func71 (by kernel_rfl) h
end Go.Proofs.YtjobgnabneddjaaGreat
namespace Go.Proofs.YtjobgnabneddjaaGreat
open Go
def B2a (s : Int × Int) : List Value := [.int .i64 s.1, .int .i64 s.2]
theorem A86 (s : Int × Int) : (B2a s).length = 2 := rfl
def A9W (l : List (Int × Int)) : List (Int × Int) := l ++ List.replicate (8 - l.length) (0, 0)
def A4s (l : List (Int × Int)) : Array Value := ((A9W l).flatMap B2a ++ [Value.int .i64 (l.length : Nat)]).toArray
theorem C2y {l : List (Int × Int)} (h : l.length ≤ 8) : (A9W l).length = 8 := by unfold A9W; simp; omega
theorem B5x {l : List (Int × Int)} (h : l.length ≤ 8) : ((A9W l).flatMap B2a).length = 16 := by rw [N5 A86, C2y h]
theorem C5D {l : List (Int × Int)} (h : l.length ≤ 8) : (A4s l)[16]? = some (.int .i64 (l.length : Nat)) := by
 unfold A4s
 have := B5x h
 rw [List.getElem?_toArray, List.getElem?_append_right (by omega), this]; rfl
theorem C5N {l : List (Int × Int)} {i : Nat} (hi : i < l.length) : (A9W l)[i]? = some (l.getD i (0, 0)) := by
 unfold A9W
 rw [List.getElem?_append_left hi, List.getD_eq_getElem?_getD, List.getElem?_eq_getElem hi]; rfl
theorem C22 {l : List (Int × Int)} (h : l.length ≤ 8) {i : Nat} (hi : i < l.length) : (A4s l)[i * 2]? = some (.int .i64 (l.getD i (0, 0)).1) ∧ (A4s l)[i * 2 + 1]? = some (.int .i64 (l.getD i (0, 0)).2) := by
 have hl := B5x h
 have h0 := d5 A86 (A9W l) i 0 (by omega)
 have h1 := d5 A86 (A9W l) i 1 (by omega)
 rw [C5N hi] at h0 h1
 unfold A4s
 constructor
 ·rw [List.getElem?_toArray, List.getElem?_append_left (by omega)]; simpa [B2a] using h0
 ·rw [List.getElem?_toArray, List.getElem?_append_left (by omega)]; simpa [B2a] using h1
def A7G (b : Nat) (l : List (Int × Int)) : Res := .pt b (.cells (A4s l) 203)
def A65 (w : World) (b : Nat) (l : List (Int × Int)) : Prop := bl w b = some (.cells (A4s l) 203 (0, 0))
theorem A65.n {w : World} {b : Nat} {l : List (Int × Int)} (h : A65 w b l) (hl : l.length ≤ 8) : w.cell? ⟨b, 16, none⟩ = some (.int .i64 (l.length : Nat)) := by rw [E1 h]; exact C5D hl
theorem A65.at {w : World} {b : Nat} {l : List (Int × Int)} (h : A65 w b l) (hl : l.length ≤ 8) {i : Nat} (hi : i < l.length) : w.cell? ⟨b, i * 2, none⟩ = some (.int .i64 (l.getD i (0, 0)).1) ∧ w.cell? ⟨b, i * 2 + 1, none⟩ = some (.int .i64 (l.getD i (0, 0)).2) := by
 rw [E1 h, E1 h]; exact C22 hl hi
theorem A65.ks {κ : Bool} {w w' : World} {b : Nat} {l : List (Int × Int)} {S : List Nat} (h : A65 w b l) (hk : KS κ S w w') (hS : b ∉ S) : A65 w' b l := hk.2.1 _ _ hS rfl h
theorem A65.own {κ : Bool} {S : List Nat} {w0 w : World} {H : List Res} {b : Nat} {l : List (Int × Int)} (hw : LW κ S w0 H w) (hm : A7G b l ∈ H) : A65 w b l := hw.pt hm
theorem C5S (w : World) (n : Nat) (hn : n ≤ 8) : Fn PR B8 71 #[.int .i64 (n : Nat)] w (Rn [] w (fun b u => u = .pointer (some ⟨b, 0, none⟩)) fun b => [A7G b (List.replicate n (0, 0))]) := by
 refine B56 (TW.go (κ := false) (S := []) ?_)
 unfold A9Q
 have h1 : min ((n : Nat) : Int) 8 = n := by omega
 have h2 : max 0 ((n : Nat) : Int) = n := by omega
 (have zz:=trivial;repeat((first|clear zz|with_reducible first|refine A3 ?_|refine A5 fun _=>?_|refine A4 fun _=>?_);try simp(disch:=first|omega|assumption|((repeat(first|exact A1|exact uH|apply A2|apply uT));first|done|fail)|(simp;first|done|omega|fail))[h1, h2]))
 rename_i b
 have e : A4s (List.replicate n (0, 0)) = #[.int .i64 0, .int .i64 0, .int .i64 0, .int .i64 0, .int .i64 0, .int .i64 0, .int .i64 0, .int .i64 0, .int .i64 0, .int .i64 0, .int .i64 0, .int .i64 0, .int .i64 0, .int .i64 0, .int .i64 0, .int .i64 0, .int .i64 (n : Nat)] := by
  have h : n = 0 ∨ n = 1 ∨ n = 2 ∨ n = 3 ∨ n = 4 ∨ n = 5 ∨ n = 6 ∨ n = 7 ∨ n = 8 := by omega
  rcases h with rfl | rfl | rfl | rfl | rfl | rfl | rfl | rfl | rfl <;> rfl
 refine B1 b rfl ?_
 unfold A7G
 rw [e]
 (repeat' constructor)
end Go.Proofs.YtjobgnabneddjaaGreat
namespace Go.Proofs.YtjobgnabneddjaaGreat
open Go
end Go.Proofs.YtjobgnabneddjaaGreat
namespace Go.Proofs.YtjobgnabneddjaaGreat
open Go
def A1N (X : Nat → Prop) (t0 t1 t2 : Value) (R : Value → WP) : WP :=
 B2 PR X (Instr.box 89 t2) fun t5 =>
 A0 PR (Instr.makeFunc (.func 110) #[] #[t5]) fun t10 =>
 B4 PR X 109 [t0, t1, t10] fun t11 =>
 A0 PR (Instr.extract t11 0) fun t12 =>
 A0 PR (Instr.extract t11 1) fun t13 =>
 R (.tuple #[t12, t13])
theorem A6e : A9 PR 48 := A7 Tryz.func48 (by kernel_rfl) rfl
theorem A8M {X : Nat → Prop} {t0 t1 t2 : Value} {R : Value → WP} {w : World} (h : A1N X t0 t1 t2 R w) : Fn PR X 48 #[t0, t1, t2] w R := C6 (args := [t0, t1, t2]) mixed Tryz.func48 (by kernel_rfl) h
def A1c (X : Nat → Prop) (t0 t1 : Value) (R : Value → WP) : WP :=
 B4 PR X 109 [t0, t1, (.func (.func 113) #[] #[])] fun t8 =>
 A0 PR (Instr.extract t8 0) fun t9 =>
 A0 PR (Instr.extract t8 1) fun t10 =>
 R (.tuple #[t9, t10])
theorem A7P : A9 PR 50 := A7 Tryz.func50 (by kernel_rfl) rfl
theorem A8J {X : Nat → Prop} {t0 t1 : Value} {R : Value → WP} {w : World} (h : A1c X t0 t1 R w) : Fn PR X 50 #[t0, t1] w R := C6 (args := [t0, t1]) mixed Tryz.func50 (by kernel_rfl) h
def A9d (X : Nat → Prop) (t0 : Value) (R : Value → WP) : WP :=
 A0 PR (A8 .min #[3, 3] 0 [t0, (.int .i64 8)]) fun t4 =>
 A0 PR (A8 .max #[3, 3] 0 [(.int .i64 0), t4]) fun t5 =>
 B2 PR X (Instr.makeSlice 229 t5 t5) fun t6 =>
 A0 PR (Instr.build 231 #[(0, t6)]) fun t7 =>
 B2 PR X (Instr.box 231 t7) fun t8 =>
 R t8
theorem B48 : A9 PR 70 := A7 Tryz.func70 (by kernel_rfl) rfl
theorem B6A {X : Nat → Prop} {t0 : Value} {R : Value → WP} {w : World} (h : A9d X t0 R w) : Fn PR X 70 #[t0] w R := C6 (args := [t0]) mixed Tryz.func70 (by kernel_rfl) h
def A0m (X : Nat → Prop) (t0 t1 : Value) (R : Value → WP) : WP :=
 A0 PR (Instr.build 263 #[]) fun t7 =>
 A0 PR (Instr.makeInterface 263 t7) fun t8 =>
 B4 PR X 150 [t0, t1, t8] fun t9 =>
 R t9
theorem A6Y : A9 PR 94 := A7 Tryz.func94 (by kernel_rfl) rfl
theorem A6r {X : Nat → Prop} {t0 t1 : Value} {R : Value → WP} {w : World} (h : A0m X t0 t1 R w) : Fn PR X 94 #[t0, t1] w R := C6 (args := [t0, t1]) mixed Tryz.func94 (by kernel_rfl) h
def A1F (X : Nat → Prop) (t0 t1 t2 : Value) (R : Value → WP) : WP :=
 jn (n := 1) (fun t6 =>
 jn (n := 1) (fun t6_1 =>
 B4 PR X 123 [t2] fun t41 =>
 B4 PR X 112 [t2] fun t43 =>
 A0 PR (Instr.build 195 #[(0, t41), (1, t43)]) fun t44 =>
 A0 PR (Instr.makeInterface 195 t44) fun t45 =>
 B4 PR X 150 [t0, t1, t45] fun t46 =>
 R t46) fun J1 =>
 A0 PR (B5 t0) fun t27 =>
 A0 PR (Instr.fieldAt 231 t27 0) fun t28 =>
 A6 PR (Instr.loadAt 229 t28) fun t29 =>
 A0 PR (Instr.indexAt 229 t29 t1) fun t31 =>
 A6 PR (Instr.loadAt 266 t31) fun t32 =>
 A0 PR (Instr.typeAssert t32 266 263 true) fun t33 =>
 A0 PR (Instr.extract t33 0) fun t34 =>
 A0 PR (Instr.extract t33 1) fun t35 =>
 B2 PR X (Instr.alloc 263 true (.tuple #[])) fun t7 =>
 C1 PR X (Instr.storeAt 263 t7 t34) <|
 A0 PR (Op.unary .not t35) fun t37 =>
 C3 t37 (
 R (.bool false)) (
 J1 t6)) fun J2 =>
 A0 PR (binOp .lss 3 t1 (.int .i64 0)) fun t10 =>
 gj t10 false (fun J => J t1) fun t12 =>
 gj t10 false (fun J => J t0) fun t13 =>
 gj t10 false (fun J => A0 PR (B5 t13) J) fun t14 =>
 gj t10 false (fun J => A0 PR (Instr.fieldAt 231 t14 0) J) fun t15 =>
 gj t10 false (fun J => A6 PR (Instr.loadAt 229 t15) J) fun t16 =>
 gj t10 false (fun J => A0 PR (A8 .len #[229] 0 [t16]) J) fun t17 =>
 gj t10 false (fun J => A0 PR (binOp .geq 3 t12 t17) J) fun t18 =>
 A0 PR (do pure (if ← asBool t10 then (.bool true) else t18)) fun t19 =>
 gj t19 false (fun J => J t2) fun t21 =>
 gj t19 false (fun J => B4 PR X 29 [t21] J) fun t22 =>
 gj t19 false (fun J => A0 PR (binOp .neq 27 t22 (.int .i64 0)) J) fun t23 =>
 A0 PR (do pure (if ← asBool t19 then (.bool true) else t23)) fun t24 =>
 C3 t24 (
 R (.bool false)) (
 J2 (.bool false))
theorem A7b : A9 PR 95 := A7 Tryz.func95 (by kernel_rfl) rfl
theorem A8U {X : Nat → Prop} {t0 t1 t2 : Value} {R : Value → WP} {w : World} (h : A1F X t0 t1 t2 R w) : Fn PR X 95 #[t0, t1, t2] w R := C6 (args := [t0, t1, t2]) mixed Tryz.func95 (by kernel_rfl) h
def A09 (X : Nat → Prop) (t0 t1 : Value) (R : Value → WP) : WP :=
 B4 PR X 150 [t0, t1, .nilIface] fun t7 =>
 R t7
theorem A6L : A9 PR 98 := A7 Tryz.func98 (by kernel_rfl) rfl
theorem A6v {X : Nat → Prop} {t0 t1 : Value} {R : Value → WP} {w : World} (h : A09 X t0 t1 R w) : Fn PR X 98 #[t0, t1] w R := C6 (args := [t0, t1]) mixed Tryz.func98 (by kernel_rfl) h
def A2r (X : Nat → Prop) (t0 t1 t2 : Value) (R : Value → WP) : WP :=
 jn (n := 2) (fun t6 t7 =>
 A0 PR (B5 t0) fun t25 =>
 A0 PR (Instr.fieldAt 231 t25 0) fun t26 =>
 A6 PR (Instr.loadAt 229 t26) fun t27 =>
 A0 PR (Instr.indexAt 229 t27 t1) fun t29 =>
 A6 PR (Instr.loadAt 266 t29) fun t30 =>
 A0 PR (Instr.typeAssert t30 266 195 true) fun t31 =>
 A0 PR (Instr.extract t31 0) fun t32 =>
 A0 PR (Instr.extract t31 1) fun t33 =>
 B2 PR X (Instr.alloc 195 true (.tuple #[])) fun t9 =>
 C1 PR X (Instr.storeAt 195 t9 t32) <|
 jn (n := 2) (fun t6_1 t7_1 =>
 A6 PR (Instr.loadAt 195 t9) fun t38 =>
 K4 PR X t2 [t38] fun t39 =>
 R (.tuple #[t39, (.bool true)])) fun J1 =>
 A0 PR (Op.unary .not t33) fun t35 =>
 C3 t35 (
 R (.tuple #[(.int .i64 0), (.bool false)])) (
 J1 t6 t7)) fun J2 =>
 A0 PR (binOp .lss 3 t1 (.int .i64 0)) fun t12 =>
 gj t12 false (fun J => J t1) fun t14 =>
 gj t12 false (fun J => J t0) fun t15 =>
 gj t12 false (fun J => A0 PR (B5 t15) J) fun t16 =>
 gj t12 false (fun J => A0 PR (Instr.fieldAt 231 t16 0) J) fun t17 =>
 gj t12 false (fun J => A6 PR (Instr.loadAt 229 t17) J) fun t18 =>
 gj t12 false (fun J => A0 PR (A8 .len #[229] 0 [t18]) J) fun t19 =>
 gj t12 false (fun J => A0 PR (binOp .geq 3 t14 t19) J) fun t20 =>
 A0 PR (do pure (if ← asBool t12 then (.bool true) else t20)) fun t21 =>
 C3 t21 (
 R (.tuple #[(.int .i64 0), (.bool false)])) (
 J2 (.int .i64 0) (.bool false))
theorem A2Q : A9 PR 109 := A7 Tryz.func109 (by kernel_rfl) rfl
theorem B0Y {X : Nat → Prop} {t0 t1 t2 : Value} {R : Value → WP} {w : World} (h : A2r X t0 t1 t2 R w) : Fn PR X 109 #[t0, t1, t2] w R := C6 (args := [t0, t1, t2]) mixed Tryz.func109 (by kernel_rfl) h
def x5 (X : Nat → Prop) (t0 t1 : Value) (R : Value → WP) : WP :=
 B2 PR X (Instr.box 195 t0) fun t2 =>
 A0 PR (Instr.fieldAt 195 t2 1) fun t4 =>
 A6 PR (Instr.loadAt 193 t4) fun t5 =>
 A6 PR (Instr.loadAt 89 t1) fun t6 =>
 B4 PR X 111 [t5, t6] fun t7 =>
 R t7
theorem A4E : A9 PR 110 := A7 Tryz.func110 (by kernel_rfl) rfl
theorem A5C {X : Nat → Prop} {t0 t1 : Value} {R : Value → WP} {w : World} (h : x5 X t0 t1 R w) : Fn PR X 110 #[t0, t1] w R := C6 (args := [t0, t1]) mixed Tryz.func110 (by kernel_rfl) h
def x4 (X : Nat → Prop) (t0 : Value) (R : Value → WP) : WP :=
 B2 PR X (Instr.box 195 t0) fun t1 =>
 A0 PR (Instr.fieldAt 195 t1 0) fun t3 =>
 A6 PR (Instr.loadAt 192 t3) fun t4 =>
 A0 PR (A8 .len #[192] 0 [t4]) fun t5 =>
 R t5
theorem A4B : A9 PR 113 := A7 Tryz.func113 (by kernel_rfl) rfl
theorem A46 {X : Nat → Prop} {t0 : Value} {R : Value → WP} {w : World} (h : x4 X t0 R w) : Fn PR X 113 #[t0] w R := C6 (args := [t0]) mixed Tryz.func113 (by kernel_rfl) h
def A2e (X : Nat → Prop) (t0 t1 t2 : Value) (R : Value → WP) : WP :=
 B2 PR X (Instr.box 3 t2) fun t5 =>
 A0 PR (Instr.makeFunc (.func 181) #[] #[t5]) fun t10 =>
 B4 PR X 180 [t0, t1, t10] fun t11 =>
 A0 PR (Instr.extract t11 0) fun t12 =>
 A0 PR (Instr.extract t11 1) fun t13 =>
 R (.tuple #[t12, t13])
theorem A78 : A9 PR 134 := A7 Tryz.func134 (by kernel_rfl) rfl
theorem A8z {X : Nat → Prop} {t0 t1 t2 : Value} {R : Value → WP} {w : World} (h : A2e X t0 t1 t2 R w) : Fn PR X 134 #[t0, t1, t2] w R := C6 (args := [t0, t1, t2]) mixed Tryz.func134 (by kernel_rfl) h
def A2a (X : Nat → Prop) (t0 t1 t2 : Value) (R : Value → WP) : WP :=
 jn (n := 1) (fun t6 =>
 A0 PR (B5 t0) fun t19 =>
 A0 PR (Instr.fieldAt 231 t19 0) fun t20 =>
 A6 PR (Instr.loadAt 229 t20) fun t21 =>
 A0 PR (Instr.indexAt 229 t21 t1) fun t24 =>
 C1 PR X (Instr.storeAt 266 t24 t2) <|
 R (.bool true)) fun J1 =>
 A0 PR (binOp .lss 3 t1 (.int .i64 0)) fun t8 =>
 gj t8 false (fun J => J t1) fun t10 =>
 gj t8 false (fun J => J t0) fun t11 =>
 gj t8 false (fun J => A0 PR (B5 t11) J) fun t12 =>
 gj t8 false (fun J => A0 PR (Instr.fieldAt 231 t12 0) J) fun t13 =>
 gj t8 false (fun J => A6 PR (Instr.loadAt 229 t13) J) fun t14 =>
 gj t8 false (fun J => A0 PR (A8 .len #[229] 0 [t14]) J) fun t15 =>
 gj t8 false (fun J => A0 PR (binOp .geq 3 t10 t15) J) fun t16 =>
 A0 PR (do pure (if ← asBool t8 then (.bool true) else t16)) fun t17 =>
 C3 t17 (
 R (.bool false)) (
 J1 (.bool false))
theorem A75 : A9 PR 150 := A7 Tryz.func150 (by kernel_rfl) rfl
theorem A9M {X : Nat → Prop} {t0 t1 t2 : Value} {R : Value → WP} {w : World} (h : A2a X t0 t1 t2 R w) : Fn PR X 150 #[t0, t1, t2] w R := C6 (args := [t0, t1, t2]) mixed Tryz.func150 (by kernel_rfl) h
def A2G (X : Nat → Prop) (t0 t1 t2 : Value) (R : Value → WP) : WP :=
 jn (n := 2) (fun t6 t7 =>
 A0 PR (B5 t0) fun t25 =>
 A0 PR (Instr.fieldAt 231 t25 0) fun t26 =>
 A6 PR (Instr.loadAt 229 t26) fun t27 =>
 A0 PR (Instr.indexAt 229 t27 t1) fun t29 =>
 A6 PR (Instr.loadAt 266 t29) fun t30 =>
 A0 PR (Instr.typeAssert t30 266 195 true) fun t31 =>
 A0 PR (Instr.extract t31 0) fun t32 =>
 A0 PR (Instr.extract t31 1) fun t33 =>
 B2 PR X (Instr.alloc 195 true (.tuple #[])) fun t9 =>
 C1 PR X (Instr.storeAt 195 t9 t32) <|
 jn (n := 2) (fun t6_1 t7_1 =>
 A6 PR (Instr.loadAt 195 t9) fun t38 =>
 K4 PR X t2 [t38] fun t39 =>
 R (.tuple #[t39, (.bool true)])) fun J1 =>
 A0 PR (Op.unary .not t33) fun t35 =>
 C3 t35 (
 R (.tuple #[(.bool false), (.bool false)])) (
 J1 t6 t7)) fun J2 =>
 A0 PR (binOp .lss 3 t1 (.int .i64 0)) fun t12 =>
 gj t12 false (fun J => J t1) fun t14 =>
 gj t12 false (fun J => J t0) fun t15 =>
 gj t12 false (fun J => A0 PR (B5 t15) J) fun t16 =>
 gj t12 false (fun J => A0 PR (Instr.fieldAt 231 t16 0) J) fun t17 =>
 gj t12 false (fun J => A6 PR (Instr.loadAt 229 t17) J) fun t18 =>
 gj t12 false (fun J => A0 PR (A8 .len #[229] 0 [t18]) J) fun t19 =>
 gj t12 false (fun J => A0 PR (binOp .geq 3 t14 t19) J) fun t20 =>
 A0 PR (do pure (if ← asBool t12 then (.bool true) else t20)) fun t21 =>
 C3 t21 (
 R (.tuple #[(.bool false), (.bool false)])) (
 J2 (.bool false) (.bool false))
theorem A8L : A9 PR 180 := A7 Tryz.func180 (by kernel_rfl) rfl
theorem A9m {X : Nat → Prop} {t0 t1 t2 : Value} {R : Value → WP} {w : World} (h : A2G X t0 t1 t2 R w) : Fn PR X 180 #[t0, t1, t2] w R := C6 (args := [t0, t1, t2]) mixed Tryz.func180 (by kernel_rfl) h
def A0K (X : Nat → Prop) (t0 t1 : Value) (R : Value → WP) : WP :=
 B2 PR X (Instr.box 195 t0) fun t2 =>
 A0 PR (Instr.fieldAt 195 t2 0) fun t4 =>
 A6 PR (Instr.loadAt 192 t4) fun t5 =>
 A6 PR (Instr.loadAt 3 t1) fun t6 =>
 B4 PR X 182 [t5, t6] fun t7 =>
 R t7
theorem A5F : A9 PR 181 := A7 Tryz.func181 (by kernel_rfl) rfl
theorem A50 {X : Nat → Prop} {t0 t1 : Value} {R : Value → WP} {w : World} (h : A0K X t0 t1 R w) : Fn PR X 181 #[t0, t1] w R := C6 (args := [t0, t1]) mixed Tryz.func181 (by kernel_rfl) h
def A0V (X : Nat → Prop) (t0 t1 : Value) (R : Value → WP) : WP :=
 B4 PR X 237 [t0, t1] fun t7 =>
 A0 PR (binOp .geq 3 t7 (.int .i64 0)) fun t8 =>
 R t8
theorem A5M : A9 PR 182 := A7 Tryz.func182 (by kernel_rfl) rfl
theorem A5s {X : Nat → Prop} {t0 t1 : Value} {R : Value → WP} {w : World} (h : A0V X t0 t1 R w) : Fn PR X 182 #[t0, t1] w R := C6 (args := [t0, t1]) mixed Tryz.func182 (by kernel_rfl) h
end Go.Proofs.YtjobgnabneddjaaGreat
namespace Go.Proofs.YtjobgnabneddjaaGreat
open Go
section
variable {P : Program} {t x : TypeId} {d : TypeDesc} {n m : Nat} {z : Value} {K : Value → WP}
theorem B5w (h : TI P t d n m z) (hd : ∀ ms, d ≠ .interface ms) : A0 P (Instr.typeAssert .nilIface x t true) K = K (.tuple #[z, .bool false]) :=
 E8 (fun w => by
  simp only [Instr.typeAssert, Sem.run_bind, h.run_und, Result.andThen_ok]
  cases d <;> first | (simp [h.run_zero]; done) | exact absurd rfl (hd _)) K
theorem B6f (h : TI P t d n m z) (hd : ∀ ms, d ≠ .interface ms) (v : Value) : A0 P (Instr.typeAssert (.iface t v) x t true) K = K (.tuple #[v, .bool true]) :=
 E8 (fun w => by
  simp only [Instr.typeAssert, Sem.run_bind, h.run_und, Result.andThen_ok]
  cases d <;> first | (simp; done) | exact absurd rfl (hd _)) K
theorem B7w (h : TI P t d n m z) (hd : ∀ ms, d ≠ .interface ms) {u : TypeId} (hu : u ≠ t) (v : Value) : A0 P (Instr.typeAssert (.iface u v) x t true) K = K (.tuple #[z, .bool false]) :=
 E8 (fun w => by
  simp only [Instr.typeAssert, Sem.run_bind, h.run_und, Result.andThen_ok]
  cases d <;> first | (simp [hu, h.run_zero]; done) | exact absurd rfl (hd _)) K
end
@[simp] theorem C9m (x : TypeId) (K : Value → WP) : A0 PR (Instr.typeAssert .nilIface x 263 true) K = K (.tuple #[.agg #[], .bool false]) := B5w A91 (by intro ms h; cases h)
@[simp] theorem C9e (x : TypeId) (v : Value) (K : Value → WP) : A0 PR (Instr.typeAssert (.iface 263 v) x 263 true) K = K (.tuple #[v, .bool true]) := B6f A91 (by intro ms h; cases h) v
@[simp] theorem C8D (x : TypeId) (v : Value) (K : Value → WP) : A0 PR (Instr.typeAssert (.iface 195 v) x 263 true) K = K (.tuple #[.agg #[], .bool false]) := B7w A91 (by intro ms h; cases h) (by decide) v
@[simp] theorem C9T (x : TypeId) (K : Value → WP) : A0 PR (Instr.typeAssert .nilIface x 195 true) K = K (.tuple #[.agg #[.slice none 0 0, .slice none 0 0], .bool false]) := B5w A4Z (by intro ms h; cases h)
@[simp] theorem C7k (x : TypeId) (v : Value) (K : Value → WP) : A0 PR (Instr.typeAssert (.iface 195 v) x 195 true) K = K (.tuple #[v, .bool true]) := B6f A4Z (by intro ms h; cases h) v
@[simp] theorem C9d (x : TypeId) (v : Value) (K : Value → WP) : A0 PR (Instr.typeAssert (.iface 263 v) x 195 true) K = K (.tuple #[.agg #[.slice none 0 0, .slice none 0 0], .bool false]) := B7w A4Z (by intro ms h; cases h) (by decide) v
inductive SlH where
 | no
 | bld
 | rdy (p : List F7) (pv rv : Value)
def SlH.val : SlH → Value
 | .no => .nilIface
 | .bld => .iface 263 (.agg #[])
 | .rdy _ pv rv => .iface 195 (.agg #[pv, rv])
def SlH.sp : SlH → SlV
 | .no => .no
 | .bld => .bld
 | .rdy p _ _ => .rdy p
def SlH.fo : SlH → List Nat
 | .rdy _ pv rv => J8 pv ++ J8 rv
 | _ => []
def B12 (pv : Value) (p : List F7) : Res := .own 155 2 pv p.length (p.flatMap H0)
def B2b (rv : Value) (p : List F7) : Res := .own 290 2 rv (P3 (G8 p)).length ((P3 (G8 p)).flatMap G3)
def SlH.ok (w : World) : SlH → Prop
 | .rdy p pv rv => (B12 pv p).holds w ∧ (B2b rv p).holds w ∧ p.length ≤ 32
 | _ => True
theorem SlH.keep {w w' : World} {s : SlH} (hk : ∀ b ∈ s.fo, ∀ o, B3c o = true → bl w b = some o → bl w' b = some o) (h : s.ok w) : s.ok w' := by
 cases s with
 | no => trivial
 | bld => trivial
 | rdy p pv rv =>
  refine ⟨Res.stable (fun b hb => hk b ?_) h.1, Res.stable (fun b hb => hk b ?_) h.2.1, h.2.2⟩
  ·exact List.mem_append_left _ hb
  ·exact List.mem_append_right _ hb
def y4 (ls : List SlH) : List Nat := ls.flatMap SlH.fo
def A6d (ls : List SlH) (w : World) : Prop := ∀ s ∈ ls, s.ok w
def r7 (ls : List SlH) : Res := .ab (y4 ls) (A6d ls) fun w w' hk h s hs => SlH.keep (fun b hb => hk b (by rw [y4, List.mem_flatMap]; exact ⟨s, hs, hb⟩)) (h s hs)
def S3 (ls : List SlH) (i : Int) (x : SlH) : List SlH := if 0 ≤ i ∧ i < ls.length then ls.set i.toNat x else ls
theorem B1k (ls : List SlH) (i : Int) (x : SlH) : (S3 ls i x).length = ls.length := by unfold S3; split <;> simp
theorem B0E (ls : List SlH) (i : Int) (x : SlH) : (S3 ls i x).map SlH.sp = A06 (ls.map SlH.sp) i x.sp := by
 unfold S3 A06
 rw [List.length_map]
 split
 ·rw [List.map_set]
 ·rfl
theorem A7V {ls : List SlH} {i : Int} {x s : SlH} (h : s ∈ S3 ls i x) : s ∈ ls ∨ s = x := by
 unfold S3 at h
 split at h
 ·exact List.mem_or_eq_of_mem_set h
 ·exact Or.inl h
def G2 (b : Nat) (sv : Value) (ls : List SlH) : List Res := [.pt b (.cells #[sv] 231), .own 266 1 sv ls.length (ls.map SlH.val), r7 ls]
section
variable {κ : Bool} {S : List Nat} {w0 w : World} {H Hk Hc : List Res} {K0 : WP} {ls : List SlH}
theorem B8Z {i : Int} {x : SlH} (hx : x.fo = [] ∧ ∀ w, x.ok w) (hp : Part [r7 ls] H Hk) (h : TW κ S w0 (r7 (S3 ls i x) :: Hk) K0) : TW κ S w0 H K0 := by
 refine A34 (r := r7 (S3 ls i x)) hp (fun w hh => (fun s hs => ?_ : A6d (S3 ls i x) w)) (fun b hb => ?_) h
 ·rcases A7V hs with hs | rfl
  ·exact (hh _ (List.mem_cons_self ..) : A6d ls w) s hs
  ·exact hx.2 w
 ·have hb' : b ∈ y4 (S3 ls i x) := hb
  rw [y4, List.mem_flatMap] at hb'
  obtain ⟨s, hs, hbs⟩ := hb'
  rcases A7V hs with hs | rfl
  ·exact N0.2 ⟨r7 ls, by simp, by show b ∈ y4 ls; rw [y4, List.mem_flatMap]; exact ⟨s, hs, hbs⟩⟩
  ·rw [hx.1] at hbs; cases hbs
theorem C5v {i : Int} {p : List F7} {pv rv : Value} (hl : p.length ≤ 32) (hp : Part [B12 pv p, B2b rv p, r7 ls] H Hk) (h : TW κ S w0 (r7 (S3 ls i (.rdy p pv rv)) :: Hk) K0) : TW κ S w0 H K0 := by
 refine A34 (r := r7 (S3 ls i (.rdy p pv rv))) hp (fun w hh => (fun s hs => ?_ : A6d (S3 ls i (.rdy p pv rv)) w)) (fun b hb => ?_) h
 ·rcases A7V hs with hs | rfl
  ·exact (hh (r7 ls) (by simp) : A6d ls w) s hs
  ·exact ⟨hh (B12 pv p) (by simp), hh (B2b rv p) (by simp), hl⟩
 ·have hb' : b ∈ y4 (S3 ls i (.rdy p pv rv)) := hb
  rw [y4, List.mem_flatMap] at hb'
  obtain ⟨s, hs, hbs⟩ := hb'
  rcases A7V hs with hs | rfl
  ·exact N0.2 ⟨r7 ls, by simp, by show b ∈ y4 ls; rw [y4, List.mem_flatMap]; exact ⟨s, hs, hbs⟩⟩
  ·rcases List.mem_append.1 hbs with hbs | hbs
   ·exact N0.2 ⟨B12 pv p, by simp, hbs⟩
   ·exact N0.2 ⟨B2b rv p, by simp, hbs⟩
end
theorem C5C (w : World) (b : Nat) (sv : Value) (xs : List Value) (i : Int) (x : Value) (hx : plain x = true) (hn : xs.length ≤ 1000) (hw : LW false (B6 [.pt b (.cells #[sv] 231), .own 266 1 sv xs.length xs]) w [.pt b (.cells #[sv] 231), .own 266 1 sv xs.length xs] w) :
  Fn PR B8 150 #[.pointer (some ⟨b, 0, none⟩), .int .i64 i, x] w (Rn (B6 [.pt b (.cells #[sv] 231), .own 266 1 sv xs.length xs]) w (fun (_ : Unit) u => A3x u) fun _ => [.pt b (.cells #[sv] 231), .own 266 1 sv xs.length (if 0 ≤ i ∧ i < xs.length then xs.set i.toNat x else xs)]) := by
 refine A9M (TW.goH (κ := false) ?_ hw)
 unfold A2a
 refine P6 (e := 266) (k := 1) (v := sv) (q := xs.length) (xs := xs) (by (repeat constructor)) fun a c e => ?_
 subst e
 by_cases c1 : i < 0
 ·(have zz:=trivial;repeat((first|clear zz|with_reducible first|refine A3 ?_|refine A5 fun _=>?_|refine A4 fun _=>?_);try simp(disch:=first|omega|assumption|((repeat(first|exact A1|exact uH|apply A2|apply uT));first|done|fail)|(simp;first|done|omega|fail))[c1]))
  rw [if_neg (by omega)]
  exact B1 () (W7 _) (by (repeat' constructor))
 by_cases c2 : (xs.length : Int) ≤ i
 ·(have zz:=trivial;repeat((first|clear zz|with_reducible first|refine A3 ?_|refine A5 fun _=>?_|refine A4 fun _=>?_);try simp(disch:=first|omega|assumption|((repeat(first|exact A1|exact uH|apply A2|apply uT));first|done|fail)|(simp;first|done|omega|fail))[c1, c2]))
  rw [if_neg (by omega)]
  exact B1 () (W7 _) (by (repeat' constructor))
 obtain ⟨j, rfl⟩ : ∃ j : Nat, i = j := ⟨i.toNat, by omega⟩
 have hj : j < xs.length := by omega
 have hj2 : ¬ xs.length ≤ j := by omega
 rw [if_pos (by omega)]
 refine y9 (e := 266) (k := 1) (v := .slice a xs.length c) (q := xs.length) (xs := xs) (by (repeat constructor)) (by omega) fun g gc hg => ?_
 cases hg
 (have zz:=trivial;repeat((first|clear zz|with_reducible first|refine A3 ?_|refine A5 fun _=>?_|refine A4 fun _=>?_);try simp(disch:=first|omega|assumption|((repeat(first|exact A1|exact uH|apply A2|apply uT));first|done|fail)|(simp;first|done|omega|fail))[c1, c2, hj, hj2]))
 have hxc : x.cells = #[x] := by cases x <;> first | rfl | cases hx
 refine T5 (by (repeat constructor)) (by rw [hxc]; rfl) (by omega) (by rw [hxc]; simpa using hx) ?_
 have e : W6 xs j x.cells.toList = xs.set j x := by
  rw [hxc, List.set_eq_take_append_cons_drop, if_pos hj]; simp [W6]
 refine B1 () (W7 _) ?_
 rw [Int.toNat_natCast, ← e]
 (repeat' constructor)
theorem C49 (ls : List SlH) (i : Int) (x : SlH) : (if 0 ≤ i ∧ i < (ls.map SlH.val).length then (ls.map SlH.val).set i.toNat x.val else ls.map SlH.val) = (S3 ls i x).map SlH.val := by
 unfold S3
 rw [List.length_map]
 split
 ·rw [List.map_set]
 ·rfl
theorem SlH.plain (x : SlH) : Go.Proofs.YtjobgnabneddjaaGreat.plain x.val = true := by cases x <;> rfl
theorem A9J {κ : Bool} {X : Nat → Prop} {S : List Nat} {w0 : World} {H Hk : List Res} {K : Value → WP} {b : Nat} {sv : Value} {ls : List SlH} {i : Int} {x : SlH} (hl : ls.length ≤ 1000) (hp : Part [.pt b (.cells #[sv] 231), .own 266 1 sv ls.length (ls.map SlH.val)] H Hk)
  (hK : ∀ u, A3x u → TW κ S w0 (.pt b (.cells #[sv] 231) :: .own 266 1 sv (S3 ls i x).length ((S3 ls i x).map SlH.val) :: Hk) (K u)) :
  TW κ S w0 H (B4 PR X 150 [.pointer (some ⟨b, 0, none⟩), .int .i64 i, x.val] K) := by
 have hlm : (ls.map SlH.val).length = ls.length := List.length_map ..
 refine C7 (Hc := [.pt b (.cells #[sv] 231), .own 266 1 sv ls.length (ls.map SlH.val)]) A75 (fun w' _ hs => ?_) hp (fun _ u hu => ?_) (α := Unit) (φ := fun _ u => A3x u) (Hn := fun _ => [.pt b (.cells #[sv] 231), .own 266 1 sv (S3 ls i x).length ((S3 ls i x).map SlH.val)])
 ·have := C5C w' b sv (ls.map SlH.val) i x.val x.plain (by rw [hlm]; exact hl) (by rw [hlm]; exact hs)
  rw [C49, hlm] at this
  rw [B1k]
  exact this
 ·exact hK u hu
theorem C11 (w : World) (b : Nat) (sv : Value) (ls : List SlH) (i : Int) (hl : ls.length ≤ 8) (hw : LW false (B6 (G2 b sv ls)) w (G2 b sv ls) w) :
  Fn PR B8 94 #[.pointer (some ⟨b, 0, none⟩), .int .i64 i] w (Rn (B6 (G2 b sv ls)) w (fun (_ : Unit) u => A3x u) fun _ => G2 b sv (S3 ls i .bld)) := by
 refine A6r (TW.goH (κ := false) ?_ hw)
 unfold A0m
 simp only [G2]
 (have zz:=trivial;repeat((first|clear zz|with_reducible first|refine A3 ?_|refine A5 fun _=>?_|refine A4 fun _=>?_);try simp(disch:=first|omega|assumption|((repeat(first|exact A1|exact uH|apply A2|apply uT));first|done|fail)|(simp;first|done|omega|fail))[]))
 refine A9J (x := .bld) (ls := ls) (sv := sv) (by omega) (by (repeat' constructor)) fun u hu => ?_
 refine B8Z (ls := ls) (i := i) (x := .bld) ⟨rfl, fun _ => trivial⟩ (by (repeat' constructor)) ?_
 exact B1 () hu (by (repeat' constructor))
theorem C0W (w : World) (b : Nat) (sv : Value) (ls : List SlH) (i : Int) (hl : ls.length ≤ 8) (hw : LW false (B6 (G2 b sv ls)) w (G2 b sv ls) w) :
  Fn PR B8 98 #[.pointer (some ⟨b, 0, none⟩), .int .i64 i] w (Rn (B6 (G2 b sv ls)) w (fun (_ : Unit) u => A3x u) fun _ => G2 b sv (S3 ls i .no)) := by
 refine A6v (TW.goH (κ := false) ?_ hw)
 unfold A09
 simp only [G2]
 (have zz:=trivial;repeat((first|clear zz|with_reducible first|refine A3 ?_|refine A5 fun _=>?_|refine A4 fun _=>?_);try simp(disch:=first|omega|assumption|((repeat(first|exact A1|exact uH|apply A2|apply uT));first|done|fail)|(simp;first|done|omega|fail))[]))
 refine A9J (x := .no) (ls := ls) (sv := sv) (by omega) (by (repeat' constructor)) fun u hu => ?_
 refine B8Z (ls := ls) (i := i) (x := .no) ⟨rfl, fun _ => trivial⟩ (by (repeat' constructor)) ?_
 exact B1 () hu (by (repeat' constructor))
end Go.Proofs.YtjobgnabneddjaaGreat
namespace Go.Proofs.YtjobgnabneddjaaGreat
open Go
theorem C5d {κ : Bool} {H : List Res} {r : Res} (h : r ∈ H) : Up r r H H := by
 induction H with
 | nil => cases h
 | cons a H ih =>
  rcases List.mem_cons.1 h with rfl | h
  ·exact .here
  ·exact .there (ih h)
theorem B84 {κ : Bool} {X : Nat → Prop} {S : List Nat} {w0 : World} {H : List Res} {K0 : WP} {b : Nat} (hm : Res.pt b (.cells #[] 263) ∈ H) (hK : TW κ S w0 H K0) :
  TW κ S w0 H (C1 PR X (Instr.storeAt 263 (.pointer (some ⟨b, 0, none⟩)) (.agg #[])) K0) := by
 have h := D1m (κ := κ) (X := X) (S := S) (w0 := w0) (K0 := K0) (t := 263) (v := .agg #[]) (b := b) (o := 0) (c := #[]) (T := 263) rfl (C5d (κ := κ) hm) (by simp) rfl
 exact h ▸ hK
def A1e (ls : List SlH) (i : Int) : SlH := if 0 ≤ i ∧ i < ls.length then ls.getD i.toNat .no else .no
theorem B3q (ls : List SlH) (i : Int) : H8 (ls.map SlH.sp) i = (A1e ls i).sp := by
 unfold H8 A1e
 rw [List.length_map]
 split
 ·rename_i h
  rw [List.getD_eq_getElem?_getD, List.getD_eq_getElem?_getD, List.getElem?_map, List.getElem?_eq_getElem (by omega)]; rfl
 ·rfl
theorem B3p {ls : List SlH} {i : Nat} (h : i < ls.length) : (ls.map SlH.val)[i]? = some (ls.getD i .no).val := by
 rw [List.getElem?_map, List.getD_eq_getElem?_getD, List.getElem?_eq_getElem h]; rfl
theorem C3a {l : List SlV} {i : Int} {p : List F7} (h : H8 l i ≠ .bld ∨ M3 p ≠ 0) : A23 l i p = l := by
 unfold A23
 cases hg : H8 l i with
 | no => rfl
 | rdy q => rfl
 | bld =>
  rcases h with h | h
  ·exact absurd hg h
  ·simp [h]
set_option maxHeartbeats 400000 in
theorem C24 (w : World) (b : Nat) (sv : Value) (ls : List SlH) (i : Int) (pv : Value) (p : List F7) (hl : ls.length ≤ 8) (hp : p.length ≤ 1000) (hv : ∀ w', KS false (B6 (G2 b sv ls)) w w' → G1 w' pv p.length (p.flatMap H0)) (hw : LW false (B6 (G2 b sv ls)) w (G2 b sv ls) w) :
  Fn PR B8 95 #[.pointer (some ⟨b, 0, none⟩), .int .i64 i, pv] w (Rn (B6 (G2 b sv ls)) w (fun (ls' : List SlH) u => A3x u ∧ ls'.length = ls.length ∧ ls'.map SlH.sp = A23 (ls.map SlH.sp) i p) fun ls' => G2 b sv ls') := by
 refine A8U (TW.goH (κ := false) ?_ hw)
 unfold A1F
 refine P6 (e := 266) (k := 1) (v := sv) (q := ls.length) (xs := ls.map SlH.val) (by simp only [G2]; (repeat constructor)) fun a c e => ?_
 subst e
 have no : H8 (ls.map SlH.sp) i ≠ .bld ∨ M3 p ≠ 0 → ∀ u, A3x u → A3x u ∧ ls.length = ls.length ∧ ls.map SlH.sp = A23 (ls.map SlH.sp) i p := fun h u hu => ⟨hu, rfl, (C3a h).symm⟩
 simp only [G2] at hv ⊢
 by_cases c1 : i < 0
 ·(have zz:=trivial;repeat((first|clear zz|with_reducible first|refine A3 ?_|refine A5 fun _=>?_|refine A4 fun _=>?_);try simp(disch:=first|omega|assumption|((repeat(first|exact A1|exact uH|apply A2|apply uT));first|done|fail)|(simp;first|done|omega|fail))[c1]))
  exact B1 ls (no (Or.inl (by unfold H8; rw [if_neg (by omega)]; simp)) _ (W7 _)) (by (repeat' constructor))
 by_cases c2 : (ls.length : Int) ≤ i
 ·(have zz:=trivial;repeat((first|clear zz|with_reducible first|refine A3 ?_|refine A5 fun _=>?_|refine A4 fun _=>?_);try simp(disch:=first|omega|assumption|((repeat(first|exact A1|exact uH|apply A2|apply uT));first|done|fail)|(simp;first|done|omega|fail))[c1, c2]))
  exact B1 ls (no (Or.inl (by unfold H8; rw [if_neg (by simp; omega)]; simp)) _ (W7 _)) (by (repeat' constructor))
 obtain ⟨j, rfl⟩ : ∃ j : Nat, i = j := ⟨i.toNat, by omega⟩
 have hj : j < ls.length := by omega
 have hj2 : ¬ ls.length ≤ j := by omega
 refine y9 (e := 266) (k := 1) (v := .slice a ls.length c) (q := ls.length) (xs := ls.map SlH.val) (by (repeat constructor)) (by omega) fun g gc hg => ?_
 cases hg
 (have zz:=trivial;repeat((first|clear zz|with_reducible first|refine A3 ?_|refine A5 fun _=>?_|refine A4 fun _=>?_);try simp(disch:=first|omega|assumption|((repeat(first|exact A1|exact uH|apply A2|apply uT));first|done|fail)|(simp;first|done|omega|fail))[c1, c2, hj, hj2]))
 refine C4 B27 (fun w' hw' => B65 w' pv p (by omega) (hv w' hw'.ks)) ?_
 by_cases c3 : M3 p = 0
 case neg =>
  (have zz:=trivial;repeat((first|clear zz|with_reducible first|refine A3 ?_|refine A5 fun _=>?_|refine A4 fun _=>?_);try simp(disch:=first|omega|assumption|((repeat(first|exact A1|exact uH|apply A2|apply uT));first|done|fail)|(simp;first|done|omega|fail))[c3]))
  exact B1 ls (no (Or.inr c3) _ (W7 _)) (by (repeat' constructor))
 have hat := B3p hj
 have hget : H8 (ls.map SlH.sp) j = (ls.getD j .no).sp := by rw [B3q]; unfold A1e; rw [if_pos (by omega), Int.toNat_natCast]
 obtain ⟨x, hx⟩ : ∃ x, x = ls.getD j .no := ⟨_, rfl⟩
 rw [← hx] at hat hget
 have hatt := (List.getElem?_eq_some_iff.1 hat).2
 cases x with
 | no =>
  simp only [SlH.val] at hat hatt
  (have zz:=trivial;repeat((first|clear zz|with_reducible first|refine A3 ?_|refine A5 fun _=>?_|refine A4 fun _=>?_);try simp(disch:=first|omega|assumption|((repeat(first|exact A1|exact uH|apply A2|apply uT));first|done|fail)|(simp;first|done|omega|fail))[c3, hat, hatt, hj, hj2]))
  refine B84 (by (repeat constructor)) ?_
  (have zz:=trivial;repeat((first|clear zz|with_reducible first|refine A3 ?_|refine A5 fun _=>?_|refine A4 fun _=>?_);try simp(disch:=first|omega|assumption|((repeat(first|exact A1|exact uH|apply A2|apply uT));first|done|fail)|(simp;first|done|omega|fail))[]))
  exact B1 ls (no (Or.inl (by rw [hget]; simp [SlH.sp])) _ (W7 _)) (by (repeat' constructor))
 | rdy q qv rv =>
  simp only [SlH.val] at hat hatt
  (have zz:=trivial;repeat((first|clear zz|with_reducible first|refine A3 ?_|refine A5 fun _=>?_|refine A4 fun _=>?_);try simp(disch:=first|omega|assumption|((repeat(first|exact A1|exact uH|apply A2|apply uT));first|done|fail)|(simp;first|done|omega|fail))[c3, hat, hatt, hj, hj2]))
  refine B84 (by (repeat constructor)) ?_
  (have zz:=trivial;repeat((first|clear zz|with_reducible first|refine A3 ?_|refine A5 fun _=>?_|refine A4 fun _=>?_);try simp(disch:=first|omega|assumption|((repeat(first|exact A1|exact uH|apply A2|apply uT));first|done|fail)|(simp;first|done|omega|fail))[]))
  exact B1 ls (no (Or.inl (by rw [hget]; simp [SlH.sp])) _ (W7 _)) (by (repeat' constructor))
 | bld =>
  simp only [SlH.val] at hat hatt
  have hp32 : p.length ≤ 32 := by
   unfold M3 at c3
   by_cases h : g5 p && decide (p.length ≤ 32)
   ·simp at h; exact h.2
   ·rw [if_neg h] at c3; omega
  (have zz:=trivial;repeat((first|clear zz|with_reducible first|refine A3 ?_|refine A5 fun _=>?_|refine A4 fun _=>?_);try simp(disch:=first|omega|assumption|((repeat(first|exact A1|exact uH|apply A2|apply uT));first|done|fail)|(simp;first|done|omega|fail))[c3, hat, hatt, hj, hj2]))
  refine B84 (by (repeat constructor)) ?_
  (have zz:=trivial;repeat((first|clear zz|with_reducible first|refine A3 ?_|refine A5 fun _=>?_|refine A4 fun _=>?_);try simp(disch:=first|omega|assumption|((repeat(first|exact A1|exact uH|apply A2|apply uT));first|done|fail)|(simp;first|done|omega|fail))[]))
  refine H3 j9 (fun w' hw' => C1n w' pv p.length (p.flatMap H0) (by omega) (N5 (k := 2) (fun _ => rfl) p) (B8x p) (hv w' hw'.ks)) ?_
  rintro _ qv rfl
  refine H3 B5B (fun w' hw' => C8A w' pv p (by omega) (hv w' hw'.ks)) ?_
  rintro _ rv rfl
  refine A3Y (e := 155) (k := 2) (v := qv) (q := p.length) (xs := p.flatMap H0) (by (repeat constructor)) fun hq1 hq2 hq3 => ?_
  refine A3Y (e := 290) (k := 2) (v := rv) (q := (P3 (G8 p)).length) (xs := (P3 (G8 p)).flatMap G3) (by (repeat constructor)) fun hr1 hr2 hr3 => ?_
  (have zz:=trivial;repeat((first|clear zz|with_reducible first|refine A3 ?_|refine A5 fun _=>?_|refine A4 fun _=>?_);try simp(disch:=first|omega|assumption|((repeat(first|exact A1|exact uH|apply A2|apply uT));first|done|fail)|(simp;first|done|omega|fail))[hq1, hq2, hr1, hr2]))
  refine A9J (x := .rdy p qv rv) (ls := ls) (by omega) (by (repeat' constructor)) fun u hu => ?_
  refine C5v (ls := ls) (i := (j : Nat)) (p := p) (pv := qv) (rv := rv) hp32 (by unfold B12 B2b; (repeat' constructor)) ?_
  refine B1 (S3 ls (j : Nat) (.rdy p qv rv)) ⟨hu, B1k _ _ _, ?_⟩ (by (repeat' constructor))
  rw [B0E]
  unfold A23
  rw [hget]
  show A06 _ _ (.rdy p) = (if M3 p = 0 then A06 _ _ (.rdy p) else _)
  rw [if_pos c3]
def SlH.rd (w : World) : SlH → Prop
 | .rdy p pv rv => G1 w pv p.length (p.flatMap H0) ∧ G1 w rv (P3 (G8 p)).length ((P3 (G8 p)).flatMap G3) ∧ p.length ≤ 32
 | _ => True
structure SlAt (w : World) (b : Nat) (sv : Value) (ls : List SlH) : Prop where
 blk : bl w b = some (.cells #[sv] 231 (0, 0))
 rd : G1 w sv ls.length (ls.map SlH.val)
 all : ∀ s ∈ ls, s.rd w
theorem SlAt.own {κ : Bool} {S : List Nat} {w0 w : World} {H : List Res} {b : Nat} {sv : Value} {ls : List SlH} (hw : LW κ S w0 H w) (h1 : Res.pt b (.cells #[sv] 231) ∈ H) (h2 : Res.own 266 1 sv ls.length (ls.map SlH.val) ∈ H) (h3 : r7 ls ∈ H) : SlAt w b sv ls := by
 refine ⟨hw.pt h1, P7.own (e := 266) (k := 1) h2 w hw, fun s hs => ?_⟩
 have := (hw.hold _ h3 : A6d ls w) s hs
 cases s with
 | no => trivial
 | bld => trivial
 | rdy p pv rv => exact ⟨N2.rd this.1, N2.rd this.2.1, this.2.2⟩
theorem SlAt.at {w : World} {b : Nat} {sv : Value} {ls : List SlH} (h : SlAt w b sv ls) {i : Nat} (hi : i < ls.length) : (ls.getD i .no).rd w := by
 apply h.all
 rw [List.getD_eq_getElem?_getD, List.getElem?_eq_getElem hi]
 exact List.getElem_mem hi
def A18 (l : List SlH) (i : Int) (f : List F7 → Int) : Int × Bool :=
 match A1e l i with
 | .rdy p _ _ => (f p, true)
 | _ => (0, false)
theorem B8M (w : World) (b : Nat) (sv : Value) (ls : List SlH) (i : Int) (g : FuncId) (cap : List Value) (f : List F7 → Int) (hl : ls.length ≤ 8) (h : SlAt w b sv ls) (he : A9 PR g)
  (hg : ∀ p pv rv, (SlH.rdy p pv rv).rd w → ∀ w', KS false [] w w' → Fn PR B8 g (Value.agg #[pv, rv] :: cap).toArray w' (fun u w'' => u = .int .i64 (f p) ∧ C9 [] w' w'')) :
  Fn PR B8 109 #[.pointer (some ⟨b, 0, none⟩), .int .i64 i, .func (.func g) #[] cap.toArray] w (fun u w' => u = .tuple #[.int .i64 (A18 ls i f).1, .bool (A18 ls i f).2] ∧ C9 [] w w') := by
 refine Fn.pure (B0Y (TW.go (κ := false) (S := []) ?_))
 unfold A2r
 obtain ⟨a, c, rfl, hr⟩ := h.rd.form
 have h0 : w.cell? ⟨b, 0, none⟩ = some (.slice a ls.length c) := by rw [E1 h.blk]; rfl
 by_cases c1 : i < 0
 ·have e : A18 ls i f = (0, false) := by unfold A18 A1e; rw [if_neg (by omega)]
  rw [e]
  (have zz:=trivial;repeat((first|clear zz|with_reducible first|refine A3 ?_|refine A5 fun _=>?_|refine A4 fun _=>?_);try simp(disch:=first|omega|assumption|((repeat(first|exact A1|exact uH|apply A2|apply uT));first|done|fail)|(simp;first|done|omega|fail))[c1]))
  exact B0 rfl
 by_cases c2 : (ls.length : Int) ≤ i
 ·have e : A18 ls i f = (0, false) := by unfold A18 A1e; rw [if_neg (by omega)]
  rw [e]
  (have zz:=trivial;repeat((first|clear zz|with_reducible first|refine A3 ?_|refine A5 fun _=>?_|refine A4 fun _=>?_);try simp(disch:=first|omega|assumption|((repeat(first|exact A1|exact uH|apply A2|apply uT));first|done|fail)|(simp;first|done|omega|fail))[c1, c2, h0]))
  exact B0 rfl
 obtain ⟨j, rfl⟩ : ∃ j : Nat, i = j := ⟨i.toNat, by omega⟩
 have hj : j < ls.length := by omega
 have hj2 : ¬ ls.length ≤ j := by omega
 obtain ⟨gb, o, rfl, hrow⟩ := hr (by omega)
 have hrd := h.at hj
 have hx : w.cell? ⟨gb, o + j, none⟩ = some (ls.getD j .no).val := hrow.get (B3p hj)
 have e : A18 ls j f = match ls.getD j .no with | .rdy p _ _ => (f p, true) | _ => (0, false) := by unfold A18 A1e; rw [if_pos (by omega), Int.toNat_natCast]
 rw [e]
 generalize ls.getD j .no = x at *
 cases x with
 | no =>
  simp only [SlH.val] at hx
  (have zz:=trivial;repeat((first|clear zz|with_reducible first|refine A3 ?_|refine A5 fun _=>?_|refine A4 fun _=>?_);try simp(disch:=first|omega|assumption|((repeat(first|exact A1|exact uH|apply A2|apply uT));first|done|fail)|(simp;first|done|omega|fail))[c1, c2, hj, hj2, h0, hx]))
  exact B0 rfl
 | bld =>
  simp only [SlH.val] at hx
  (have zz:=trivial;repeat((first|clear zz|with_reducible first|refine A3 ?_|refine A5 fun _=>?_|refine A4 fun _=>?_);try simp(disch:=first|omega|assumption|((repeat(first|exact A1|exact uH|apply A2|apply uT));first|done|fail)|(simp;first|done|omega|fail))[c1, c2, hj, hj2, h0, hx]))
  exact B0 rfl
 | rdy p pv rv =>
  simp only [SlH.val] at hx
  have hpv := hrd.1.form
  have hrv := hrd.2.1.form
  obtain ⟨pa, pc, hpe, _⟩ := hpv
  obtain ⟨ra, rc, hre, _⟩ := hrv
  subst hpe hre
  (have zz:=trivial;repeat((first|clear zz|with_reducible first|refine A3 ?_|refine A5 fun _=>?_|refine A4 fun _=>?_);try simp(disch:=first|omega|assumption|((repeat(first|exact A1|exact uH|apply A2|apply uT));first|done|fail)|(simp;first|done|omega|fail))[c1, c2, hj, hj2, h0, hx]))
  refine C4 he (fun w' hw' => hg _ _ _ hrd w' hw'.ks) ?_
  exact B0 rfl
def A14 (l : List SlH) (i : Int) (f : List F7 → Bool) : Bool × Bool :=
 match A1e l i with
 | .rdy p _ _ => (f p, true)
 | _ => (false, false)
theorem C5W (w : World) (b : Nat) (sv : Value) (ls : List SlH) (i : Int) (g : FuncId) (cap : List Value) (f : List F7 → Bool) (hl : ls.length ≤ 8) (h : SlAt w b sv ls) (he : A9 PR g)
  (hg : ∀ p pv rv, (SlH.rdy p pv rv).rd w → ∀ w', KS false [] w w' → Fn PR B8 g (Value.agg #[pv, rv] :: cap).toArray w' (fun u w'' => u = .bool (f p) ∧ C9 [] w' w'')) :
  Fn PR B8 180 #[.pointer (some ⟨b, 0, none⟩), .int .i64 i, .func (.func g) #[] cap.toArray] w (fun u w' => u = .tuple #[.bool (A14 ls i f).1, .bool (A14 ls i f).2] ∧ C9 [] w w') := by
 refine Fn.pure (A9m (TW.go (κ := false) (S := []) ?_))
 unfold A2G
 obtain ⟨a, c, rfl, hr⟩ := h.rd.form
 have h0 : w.cell? ⟨b, 0, none⟩ = some (.slice a ls.length c) := by rw [E1 h.blk]; rfl
 by_cases c1 : i < 0
 ·have e : A14 ls i f = (false, false) := by unfold A14 A1e; rw [if_neg (by omega)]
  rw [e]
  (have zz:=trivial;repeat((first|clear zz|with_reducible first|refine A3 ?_|refine A5 fun _=>?_|refine A4 fun _=>?_);try simp(disch:=first|omega|assumption|((repeat(first|exact A1|exact uH|apply A2|apply uT));first|done|fail)|(simp;first|done|omega|fail))[c1]))
  exact B0 rfl
 by_cases c2 : (ls.length : Int) ≤ i
 ·have e : A14 ls i f = (false, false) := by unfold A14 A1e; rw [if_neg (by omega)]
  rw [e]
  (have zz:=trivial;repeat((first|clear zz|with_reducible first|refine A3 ?_|refine A5 fun _=>?_|refine A4 fun _=>?_);try simp(disch:=first|omega|assumption|((repeat(first|exact A1|exact uH|apply A2|apply uT));first|done|fail)|(simp;first|done|omega|fail))[c1, c2, h0]))
  exact B0 rfl
 obtain ⟨j, rfl⟩ : ∃ j : Nat, i = j := ⟨i.toNat, by omega⟩
 have hj : j < ls.length := by omega
 have hj2 : ¬ ls.length ≤ j := by omega
 obtain ⟨gb, o, rfl, hrow⟩ := hr (by omega)
 have hrd := h.at hj
 have hx : w.cell? ⟨gb, o + j, none⟩ = some (ls.getD j .no).val := hrow.get (B3p hj)
 have e : A14 ls j f = match ls.getD j .no with | .rdy p _ _ => (f p, true) | _ => (false, false) := by unfold A14 A1e; rw [if_pos (by omega), Int.toNat_natCast]
 rw [e]
 generalize ls.getD j .no = x at *
 cases x with
 | no =>
  simp only [SlH.val] at hx
  (have zz:=trivial;repeat((first|clear zz|with_reducible first|refine A3 ?_|refine A5 fun _=>?_|refine A4 fun _=>?_);try simp(disch:=first|omega|assumption|((repeat(first|exact A1|exact uH|apply A2|apply uT));first|done|fail)|(simp;first|done|omega|fail))[c1, c2, hj, hj2, h0, hx]))
  exact B0 rfl
 | bld =>
  simp only [SlH.val] at hx
  (have zz:=trivial;repeat((first|clear zz|with_reducible first|refine A3 ?_|refine A5 fun _=>?_|refine A4 fun _=>?_);try simp(disch:=first|omega|assumption|((repeat(first|exact A1|exact uH|apply A2|apply uT));first|done|fail)|(simp;first|done|omega|fail))[c1, c2, hj, hj2, h0, hx]))
  exact B0 rfl
 | rdy p pv rv =>
  simp only [SlH.val] at hx
  have hpv := hrd.1.form
  have hrv := hrd.2.1.form
  obtain ⟨pa, pc, hpe, _⟩ := hpv
  obtain ⟨ra, rc, hre, _⟩ := hrv
  subst hpe hre
  (have zz:=trivial;repeat((first|clear zz|with_reducible first|refine A3 ?_|refine A5 fun _=>?_|refine A4 fun _=>?_);try simp(disch:=first|omega|assumption|((repeat(first|exact A1|exact uH|apply A2|apply uT));first|done|fail)|(simp;first|done|omega|fail))[c1, c2, hj, hj2, h0, hx]))
  refine C4 he (fun w' hw' => hg _ _ _ hrd w' hw'.ks) ?_
  exact B0 rfl
theorem B6D (ls : List SlH) (i : Int) (f : List F7 → Int) : A18 ls i f = match H8 (ls.map SlH.sp) i with | .rdy p => (f p, true) | _ => (0, false) := by
 rw [B3q]; unfold A18; cases A1e ls i <;> rfl
theorem C34 (ls : List SlH) (i : Int) (f : List F7 → Bool) : A14 ls i f = match H8 (ls.map SlH.sp) i with | .rdy p => (f p, true) | _ => (false, false) := by
 rw [B3q]; unfold A14; cases A1e ls i <;> rfl
theorem SlH.rdks {κ : Bool} {w w' : World} {s : SlH} (hk : KS κ [] w w') (h : s.rd w) : s.rd w' := by
 cases s with
 | no => trivial
 | bld => trivial
 | rdy p pv rv => exact ⟨h.1.ks hk (by simp), h.2.1.ks hk (by simp), h.2.2⟩
theorem SlAt.ks {κ : Bool} {w w' : World} {b : Nat} {sv : Value} {ls : List SlH} (h : SlAt w b sv ls) (hk : KS κ [] w w') : SlAt w' b sv ls :=
 ⟨hk.2.1 _ _ (by simp) rfl h.blk, h.rd.ks hk (by simp), fun s hs => SlH.rdks hk (h.all s hs)⟩
theorem C05 (w : World) (p : List F7) (pv rv : Value) (bh h : Nat) (hx : (SlH.rdy p pv rv).rd w) (hb : w.cell? ⟨bh, 0, none⟩ = some (.int .u64 (h : Nat))) :
  Fn PR B8 110 #[.agg #[pv, rv], .pointer (some ⟨bh, 0, none⟩)] w (fun u w' => u = .int .i64 (B2J p h) ∧ C9 [] w w') := by
 refine Fn.pure (A5C (TW.go (κ := false) (S := []) ?_))
 unfold x5
 obtain ⟨h1, h2, h3⟩ := hx
 obtain ⟨pa, pc, rfl, _⟩ := h1.form
 obtain ⟨ra, rc, rfl, _⟩ := h2.form
 have hll := A90 p
 have hpl : (P3 (G8 p)).length = (G8 p).length := q5 _
 (have zz:=trivial;repeat((first|clear zz|with_reducible first|refine A3 ?_|refine A5 fun _=>?_|refine A4 fun _=>?_);try simp(disch:=first|omega|assumption|((repeat(first|exact A1|exact uH|apply A2|apply uT));first|done|fail)|(simp;first|done|omega|fail))[hb]))
 refine C4 B49 (fun w' hw' => C5A w' _ (P3 (G8 p)) h (by omega) (h2.ks hw'.ks (by simp))) ?_
 exact B0 rfl
theorem C2H (w : World) (b : Nat) (sv : Value) (ls : List SlH) (i : Int) (h : Nat) (hl : ls.length ≤ 8) (hs : SlAt w b sv ls) :
  Fn PR B8 48 #[.pointer (some ⟨b, 0, none⟩), .int .i64 i, .int .u64 (h : Nat)] w (fun u w' => u = .tuple #[.int .i64 (A4Q (ls.map SlH.sp) i h).1, .bool (A4Q (ls.map SlH.sp) i h).2] ∧ C9 [] w w') := by
 refine Fn.pure (A8M (TW.go (κ := false) (S := []) ?_))
 unfold A1N
 (have zz:=trivial;repeat((first|clear zz|with_reducible first|refine A3 ?_|refine A5 fun _=>?_|refine A4 fun _=>?_);try simp(disch:=first|omega|assumption|((repeat(first|exact A1|exact uH|apply A2|apply uT));first|done|fail)|(simp;first|done|omega|fail))[]))
 rename_i bh
 refine C4 A2Q (fun w' hw' => B8M w' b sv ls i 110 [.pointer (some ⟨bh, 0, none⟩)] (fun p => B2J p h) hl (hs.ks hw'.ks) A4E fun p pv rv hrd w'' hk => C05 w'' p pv rv bh h (SlH.rdks hk hrd) (hk.cell (by simp) (hw'.cell1 (by (repeat constructor))))) ?_
 (have zz:=trivial;repeat((first|clear zz|with_reducible first|refine A3 ?_|refine A5 fun _=>?_|refine A4 fun _=>?_);try simp(disch:=first|omega|assumption|((repeat(first|exact A1|exact uH|apply A2|apply uT));first|done|fail)|(simp;first|done|omega|fail))[]))
 exact B0 (by rw [B6D]; unfold A4Q; cases H8 (ls.map SlH.sp) i <;> rfl)
theorem C1J (w : World) (p : List F7) (pv rv : Value) (hx : (SlH.rdy p pv rv).rd w) :
  Fn PR B8 113 #[.agg #[pv, rv]] w (fun u w' => u = .int .i64 (p.length : Nat) ∧ C9 [] w w') := by
 refine Fn.pure (A46 (TW.go (κ := false) (S := []) ?_))
 unfold x4
 obtain ⟨h1, h2, h3⟩ := hx
 obtain ⟨pa, pc, rfl, _⟩ := h1.form
 obtain ⟨ra, rc, rfl, _⟩ := h2.form
 (have zz:=trivial;repeat((first|clear zz|with_reducible first|refine A3 ?_|refine A5 fun _=>?_|refine A4 fun _=>?_);try simp(disch:=first|omega|assumption|((repeat(first|exact A1|exact uH|apply A2|apply uT));first|done|fail)|(simp;first|done|omega|fail))[]))
 exact B0 rfl
theorem C3A (w : World) (b : Nat) (sv : Value) (ls : List SlH) (i : Int) (hl : ls.length ≤ 8) (hs : SlAt w b sv ls) :
  Fn PR B8 50 #[.pointer (some ⟨b, 0, none⟩), .int .i64 i] w (fun u w' => u = .tuple #[.int .i64 (A6g (ls.map SlH.sp) i).1, .bool (A6g (ls.map SlH.sp) i).2] ∧ C9 [] w w') := by
 refine Fn.pure (A8J (TW.go (κ := false) (S := []) ?_))
 unfold A1c
 refine C4 A2Q (fun w' hw' => B8M w' b sv ls i 113 [] (fun p => (p.length : Nat)) hl (hs.ks hw'.ks) A4B fun p pv rv hrd w'' hk => C1J w'' p pv rv (SlH.rdks hk hrd)) ?_
 (have zz:=trivial;repeat((first|clear zz|with_reducible first|refine A3 ?_|refine A5 fun _=>?_|refine A4 fun _=>?_);try simp(disch:=first|omega|assumption|((repeat(first|exact A1|exact uH|apply A2|apply uT));first|done|fail)|(simp;first|done|omega|fail))[]))
 exact B0 (by rw [B6D]; unfold A6g; cases H8 (ls.map SlH.sp) i <;> rfl)
theorem C2Z (w : World) (p : List F7) (pv : Value) (id : Int) (hv : G1 w pv p.length (p.flatMap H0)) (hp : p.length ≤ 32) :
  Fn PR B8 182 #[pv, .int .i64 id] w (fun u w' => u = .bool (decide (0 ≤ Q2 p id)) ∧ C9 [] w w') := by
 refine Fn.pure (A5s (TW.go (κ := false) (S := []) ?_))
 unfold A0V
 refine C4 B4x (fun w' hw' => B7Q w' pv p id (by omega) (hv.ks hw'.ks (by simp))) ?_
 by_cases c1 : 0 ≤ Q2 p id
 ·(have zz:=trivial;repeat((first|clear zz|with_reducible first|refine A3 ?_|refine A5 fun _=>?_|refine A4 fun _=>?_);try simp(disch:=first|omega|assumption|((repeat(first|exact A1|exact uH|apply A2|apply uT));first|done|fail)|(simp;first|done|omega|fail))[c1]))
  exact B0 rfl
 ·(have zz:=trivial;repeat((first|clear zz|with_reducible first|refine A3 ?_|refine A5 fun _=>?_|refine A4 fun _=>?_);try simp(disch:=first|omega|assumption|((repeat(first|exact A1|exact uH|apply A2|apply uT));first|done|fail)|(simp;first|done|omega|fail))[c1]))
  exact B0 rfl
theorem C3g (w : World) (p : List F7) (pv rv : Value) (bh : Nat) (id : Int) (hx : (SlH.rdy p pv rv).rd w) (hb : w.cell? ⟨bh, 0, none⟩ = some (.int .i64 id)) :
  Fn PR B8 181 #[.agg #[pv, rv], .pointer (some ⟨bh, 0, none⟩)] w (fun u w' => u = .bool (decide (0 ≤ Q2 p id)) ∧ C9 [] w w') := by
 refine Fn.pure (A50 (TW.go (κ := false) (S := []) ?_))
 unfold A0K
 obtain ⟨h1, h2, h3⟩ := hx
 obtain ⟨pa, pc, rfl, _⟩ := h1.form
 obtain ⟨ra, rc, rfl, _⟩ := h2.form
 (have zz:=trivial;repeat((first|clear zz|with_reducible first|refine A3 ?_|refine A5 fun _=>?_|refine A4 fun _=>?_);try simp(disch:=first|omega|assumption|((repeat(first|exact A1|exact uH|apply A2|apply uT));first|done|fail)|(simp;first|done|omega|fail))[hb]))
 refine C4 A5M (fun w' hw' => C2Z w' p _ id (h1.ks hw'.ks (by simp)) h3) ?_
 exact B0 rfl
theorem C5L (w : World) (b : Nat) (sv : Value) (ls : List SlH) (i id : Int) (hl : ls.length ≤ 8) (hs : SlAt w b sv ls) :
  Fn PR B8 134 #[.pointer (some ⟨b, 0, none⟩), .int .i64 i, .int .i64 id] w (fun u w' => u = .tuple #[.bool (B62 (ls.map SlH.sp) i id).1, .bool (B62 (ls.map SlH.sp) i id).2] ∧ C9 [] w w') := by
 refine Fn.pure (A8z (TW.go (κ := false) (S := []) ?_))
 unfold A2e
 (have zz:=trivial;repeat((first|clear zz|with_reducible first|refine A3 ?_|refine A5 fun _=>?_|refine A4 fun _=>?_);try simp(disch:=first|omega|assumption|((repeat(first|exact A1|exact uH|apply A2|apply uT));first|done|fail)|(simp;first|done|omega|fail))[]))
 rename_i bh
 refine C4 A8L (fun w' hw' => C5W w' b sv ls i 181 [.pointer (some ⟨bh, 0, none⟩)] (fun p => decide (0 ≤ Q2 p id)) hl (hs.ks hw'.ks) A5F fun p pv rv hrd w'' hk => C3g w'' p pv rv bh id (SlH.rdks hk hrd) (hk.cell (by simp) (hw'.cell1 (by (repeat constructor))))) ?_
 (have zz:=trivial;repeat((first|clear zz|with_reducible first|refine A3 ?_|refine A5 fun _=>?_|refine A4 fun _=>?_);try simp(disch:=first|omega|assumption|((repeat(first|exact A1|exact uH|apply A2|apply uT));first|done|fail)|(simp;first|done|omega|fail))[]))
 exact B0 (by rw [C34]; unfold B62; cases H8 (ls.map SlH.sp) i <;> rfl)
theorem C53 (n : Nat) : (Builtin.zeroCells Value.nilIface.cells n).toList = (List.replicate n SlH.no).map SlH.val := by
 have hz : (Builtin.zeroCells Value.nilIface.cells n).toList.length = n := by simp [size_zeroCells, Value.cells]
 apply List.ext_getElem (by rw [hz]; simp)
 intro i h1 h2
 simp [Builtin.zeroCells, Value.cells, SlH.val, Nat.mod_one]
theorem C42 (w : World) (n : Nat) (hn : n ≤ 8) : Fn PR B8 70 #[.int .i64 (n : Nat)] w (Rn [] w (fun (x : Nat × Value) u => u = .pointer (some ⟨x.1, 0, none⟩)) fun x => G2 x.1 x.2 (List.replicate n SlH.no)) := by
 refine B6A (TW.go (κ := false) (S := []) ?_)
 unfold A9d
 have h1 : min ((n : Nat) : Int) 8 = n := by omega
 have h2 : max 0 ((n : Nat) : Int) = n := by omega
 (have zz:=trivial;repeat((first|clear zz|with_reducible first|refine A3 ?_|refine A5 fun _=>?_|refine A4 fun _=>?_);try simp(disch:=first|omega|assumption|((repeat(first|exact A1|exact uH|apply A2|apply uT));first|done|fail)|(simp;first|done|omega|fail))[h1, h2]))
 refine v7 (by omega) (by omega) (by omega) (by omega) fun bs => ?_
 rw [Int.toNat_natCast, C53]
 (have zz:=trivial;repeat((first|clear zz|with_reducible first|refine A3 ?_|refine A5 fun _=>?_|refine A4 fun _=>?_);try simp(disch:=first|omega|assumption|((repeat(first|exact A1|exact uH|apply A2|apply uT));first|done|fail)|(simp;first|done|omega|fail))[]))
 rename_i b
 refine A34 (r := r7 (List.replicate n SlH.no)) (Hc := []) Part.nil (fun w _ => (fun s hs => by rw [List.eq_of_mem_replicate hs]; trivial : A6d _ w)) (fun b hb => ?_) ?_
 ·have hb' : b ∈ y4 (List.replicate n SlH.no) := hb
  rw [y4, List.mem_flatMap] at hb'
  obtain ⟨s, hs, hbs⟩ := hb'
  rw [List.eq_of_mem_replicate hs] at hbs; cases hbs
 ·refine B1 (b, .slice (some ⟨bs, 0, none⟩) n n) rfl ?_
  simp only [G2, List.length_replicate, List.map_replicate]
  (repeat' constructor)
end Go.Proofs.YtjobgnabneddjaaGreat
namespace Go.Proofs.YtjobgnabneddjaaGreat
open Go
def V6 (c : CfgV) : Array Value := #[.int .i64 c.wk, .int .i64 c.sh, .int .i64 c.cp, .int .i64 c.idle, .int .i64 c.sl]
def D1 (c : CfgV) (pc ps pk tv pv now : Value) : Array Value := #[.int .i64 c.wk, .int .i64 c.sh, .int .i64 c.cp, .int .i64 c.idle, .int .i64 c.sl, pc, ps, pk, tv, pv, now]
def C8 (b : Nat) (c : CfgV) (pc ps pk tv pv now : Value) : Res := .pt b (.cells (D1 c pc ps pk tv pv now) 39)
theorem C2b (w : World) (b b1 : Nat) (c : CfgV) (pc ps pk tv pv now : Value) (hw1 : 0 ≤ c.wk ∧ c.wk ≤ 64) (hs1 : 0 ≤ c.sh ∧ c.sh ≤ 16) (hb1 : bl w b1 = some (.cells (V6 c) 23 (0, 0))) (hne : b1 ≠ b) (hw : LW false [b] w [C8 b c pc ps pk tv pv now] w) :
  Fn PR B8 67 #[.pointer (some ⟨b, 0, none⟩), .pointer (some ⟨b1, 0, none⟩)] w (Rn [b] w (fun (x : Nat × Value × Value) u => u = .tuple #[]) fun x => C8 b c (.pointer (some ⟨x.1, 0, none⟩)) ps pk tv pv now :: D0 x.1 0 x.2.1 x.2.2 (List.replicate (2 + c.wk.toNat) 0) (List.replicate c.sh.toNat (-1))) := by
 refine B2T (TW.goH (κ := false) (S := [b]) ?_ hw)
 unfold A4q
 have h0 : w.cell? ⟨b1, 0, none⟩ = some (.int .i64 c.wk) := by rw [E1 hb1]; rfl
 have h1 : w.cell? ⟨b1, 1, none⟩ = some (.int .i64 c.sh) := by rw [E1 hb1]; rfl
 obtain ⟨n, hn⟩ : ∃ n : Nat, c.wk = n := ⟨c.wk.toNat, by omega⟩
 obtain ⟨k, hk⟩ : ∃ k : Nat, c.sh = k := ⟨c.sh.toNat, by omega⟩
 rw [hn] at h0
 rw [hk] at h1
 simp only [C8, D1, hn, hk, Int.toNat_natCast]
 (have zz:=trivial;repeat((first|clear zz|with_reducible first|refine A3 ?_|refine A5 fun _=>?_|refine A4 fun _=>?_);try simp(disch:=first|omega|assumption|((repeat(first|exact A1|exact uH|apply A2|apply uT));first|done|fail)|(simp;first|done|omega|fail))[h0, h1, hne]))
 rw [show (2 + (n : Int)) = ((2 + n : Nat) : Int) by omega]
 refine H3 B4s (fun w' _ => B7a w' (2 + n) k (by omega) (by omega)) ?_
 rintro x v rfl
 simp only [D0]
 (have zz:=trivial;repeat((first|clear zz|with_reducible first|refine A3 ?_|refine A5 fun _=>?_|refine A4 fun _=>?_);try simp(disch:=first|omega|assumption|((repeat(first|exact A1|exact uH|apply A2|apply uT));first|done|fail)|(simp;first|done|omega|fail))[]))
 exact B1 x rfl (by (repeat' constructor))
theorem C3E (w : World) (b b1 : Nat) (c : CfgV) (pc ps pk tv pv now : Value) (hsl : 0 ≤ c.sl ∧ c.sl ≤ 8) (hb1 : bl w b1 = some (.cells (V6 c) 23 (0, 0))) (hne : b1 ≠ b) (hw : LW false [b] w [C8 b c pc ps pk tv pv now] w) :
  Fn PR B8 69 #[.pointer (some ⟨b, 0, none⟩), .pointer (some ⟨b1, 0, none⟩)] w (Rn [b] w (fun (x : Nat × Value × Nat) u => u = .tuple #[]) fun x => C8 b c pc (.pointer (some ⟨x.1, 0, none⟩)) (.pointer (some ⟨x.2.2, 0, none⟩)) tv pv now :: A7G x.2.2 (List.replicate c.sl.toNat (0, 0)) :: G2 x.1 x.2.1 (List.replicate c.sl.toNat SlH.no)) := by
 refine B2Z (TW.goH (κ := false) (S := [b]) ?_ hw)
 unfold A4m
 have h0 : w.cell? ⟨b1, 4, none⟩ = some (.int .i64 c.sl) := by rw [E1 hb1]; rfl
 obtain ⟨n, hn⟩ : ∃ n : Nat, c.sl = n := ⟨c.sl.toNat, by omega⟩
 rw [hn] at h0
 simp only [C8, D1, hn, Int.toNat_natCast]
 (have zz:=trivial;repeat((first|clear zz|with_reducible first|refine A3 ?_|refine A5 fun _=>?_|refine A4 fun _=>?_);try simp(disch:=first|omega|assumption|((repeat(first|exact A1|exact uH|apply A2|apply uT));first|done|fail)|(simp;first|done|omega|fail))[h0, hne]))
 refine H3 B48 (fun w' _ => C42 w' n (by omega)) ?_
 rintro x v rfl
 simp only [G2]
 (have zz:=trivial;repeat((first|clear zz|with_reducible first|refine A3 ?_|refine A5 fun _=>?_|refine A4 fun _=>?_);try simp(disch:=first|omega|assumption|((repeat(first|exact A1|exact uH|apply A2|apply uT));first|done|fail)|(simp;first|done|omega|fail))[h0, hne]))
 refine H3 B5G (fun w' _ => C5S w' n (by omega)) ?_
 rintro bk v rfl
 (have zz:=trivial;repeat((first|clear zz|with_reducible first|refine A3 ?_|refine A5 fun _=>?_|refine A4 fun _=>?_);try simp(disch:=first|omega|assumption|((repeat(first|exact A1|exact uH|apply A2|apply uT));first|done|fail)|(simp;first|done|omega|fail))[]))
 refine B1 (x.1, x.2, bk) rfl ?_
 simp only [List.length_replicate, List.map_replicate]
 (repeat' constructor)
def A2k (l : List Nat) : List Value := l.map fun n : Nat => .int .i64 (n : Int)
theorem C36 (w : World) (b b1 : Nat) (c : CfgV) (pc ps pk now : Value) (hs1 : 1 ≤ c.sh ∧ c.sh ≤ 16) (hc1 : 1 ≤ c.cp ∧ c.cp ≤ 64) (hb1 : bl w b1 = some (.cells (V6 c) 23 (0, 0))) (hne : b1 ≠ b) (hw : LW false [b] w [C8 b c pc ps pk (.slice none 0 0) (.slice none 0 0) now] w) :
  Fn PR B8 72 #[.pointer (some ⟨b, 0, none⟩), .pointer (some ⟨b1, 0, none⟩)] w (Rn [b] w (fun (x : Value × Value × List (Value × List EnV)) u => u = .tuple #[] ∧ x.2.2.map (·.2) = List.replicate c.sh.toNat (newE c.cp.toNat)) fun x => [C8 b c pc ps pk x.1 x.2.1 now, .own 84 1 x.1 x.2.2.length (x.2.2.map (·.1)), .own 3 1 x.2.1 x.2.2.length (A2k (List.replicate c.sh.toNat 0)), d6 x.2.2]) := by
 refine B1v (TW.goH (κ := false) (S := [b]) ?_ hw)
 unfold A4n
 have h0 : w.cell? ⟨b1, 1, none⟩ = some (.int .i64 c.sh) := by rw [E1 hb1]; rfl
 have h1 : w.cell? ⟨b1, 2, none⟩ = some (.int .i64 c.cp) := by rw [E1 hb1]; rfl
 obtain ⟨n, hn⟩ : ∃ n : Nat, c.sh = n := ⟨c.sh.toNat, by omega⟩
 obtain ⟨k, hk⟩ : ∃ k : Nat, c.cp = k := ⟨c.cp.toNat, by omega⟩
 rw [hn] at h0
 rw [hk] at h1
 simp only [C8, D1, hn, hk, Int.toNat_natCast]
 (have zz:=trivial;repeat((first|clear zz|with_reducible first|refine A3 ?_|refine A5 fun _=>?_|refine A4 fun _=>?_);try simp(disch:=first|omega|assumption|((repeat(first|exact A1|exact uH|apply A2|apply uT));first|done|fail)|(simp;first|done|omega|fail))[h0, h1, hne]))
 refine n4 84 1 ?_
 refine n4 3 1 ?_
 refine B6E ?_
 refine Sels.tw (rs := [.pt b (.cells #[.int .i64 c.wk, .int .i64 (n : Nat), .int .i64 (k : Nat), .int .i64 c.idle, .int .i64 c.sl, pc, ps, pk, .slice none 0 0, .slice none 0 0, now] 39), .own 84 1 (.slice none 0 0) 0 [], .own 3 1 (.slice none 0 0) 0 [], d6 []]) (by (repeat' constructor)) ?_
 refine B0A (α := Option Addr × Nat × Option Addr × Nat × List (Value × List EnV)) n (fun i x => [.pt b (.cells #[.int .i64 c.wk, .int .i64 (n : Nat), .int .i64 (k : Nat), .int .i64 c.idle, .int .i64 c.sl, pc, ps, pk, .slice x.1 i x.2.1, .slice x.2.2.1 i x.2.2.2.1, now] 39), .own 84 1 (.slice x.1 i x.2.1) i (x.2.2.2.2.map (·.1)), .own 3 1 (.slice x.2.2.1 i x.2.2.2.1) i (A2k (List.replicate i 0)), d6 x.2.2.2.2]) (fun i x => x.2.2.2.2.length = i ∧ x.2.2.2.2.map (·.2) = List.replicate i (newE k)) (none, 0, none, 0, []) ⟨rfl, rfl⟩ ?_
 ·rintro i ⟨ta, tc, pa, qc, ts⟩ hi ⟨hlen, hmap⟩ L hL
  simp only at hlen hmap ⊢
  by_cases hlt : i < n
  ·(have zz:=trivial;repeat((first|clear zz|with_reducible first|refine A3 ?_|refine A5 fun _=>?_|refine A4 fun _=>?_);try simp(disch:=first|omega|assumption|((repeat(first|exact A1|exact uH|apply A2|apply uT));first|done|fail)|(simp;first|done|omega|fail))[h1, hne, hlt]))
   refine H3 A7e (fun w' _ => B0w w' k (by omega)) ?_
   intro y u hu
   subst hu
   refine P6 (e := 218) (k := 4) (v := u) (q := (newE k).length) (xs := (newE k).flatMap H5) (by (repeat constructor)) fun ua uc hu => ?_
   subst hu
   (have zz:=trivial;repeat((first|clear zz|with_reducible first|refine A3 ?_|refine A5 fun _=>?_|refine A4 fun _=>?_|refine D7 fun _=>?_|refine D5 (hK:=fun _=>?_)|refine D3 (hK:=fun _=>?_)|refine D8 (hK:=fun _=>?_)|refine D4 (hK:=fun _=>?_)|refine D6 (hK:=fun _=>?_));try simp(disch:=first|omega|assumption|((repeat(first|exact A1|exact uH|apply A2|apply uT));first|done|fail)|(simp;first|done|omega|fail))[h1, hne, hlt]))
   refine y7 (e := 84) (k := 1) (q := i) (r := 1) (xs := ts.map (·.1)) (news := [.slice ua (newE k).length uc]) (by (repeat constructor)) (P7.own (by (repeat constructor))) (by decide) (by simp [hlen]) (by simp) (by simp only [maxLen]; omega) (by omega) fun a' c' => ?_
   (have zz:=trivial;repeat((first|clear zz|with_reducible first|refine A3 ?_|refine A5 fun _=>?_|refine A4 fun _=>?_|refine D7 fun _=>?_|refine D5 (hK:=fun _=>?_)|refine D3 (hK:=fun _=>?_)|refine D8 (hK:=fun _=>?_)|refine D4 (hK:=fun _=>?_)|refine D6 (hK:=fun _=>?_));try simp(disch:=first|omega|assumption|((repeat(first|exact A1|exact uH|apply A2|apply uT));first|done|fail)|(simp;first|done|omega|fail))[h1, hne, hlt]))
   refine y7 (e := 3) (k := 1) (q := i) (r := 1) (xs := A2k (List.replicate i 0)) (news := [.int .i64 0]) (by (repeat constructor)) (P7.own (by (repeat constructor))) (by decide) (by simp) (by simp) (by simp only [maxLen]; omega) (by omega) fun a'' c'' => ?_
   (have zz:=trivial;repeat((first|clear zz|with_reducible first|refine A3 ?_|refine A5 fun _=>?_|refine A4 fun _=>?_);try simp(disch:=first|omega|assumption|((repeat(first|exact A1|exact uH|apply A2|apply uT));first|done|fail)|(simp;first|done|omega|fail))[]))
   refine Z8 (r := .slice ua (newE k).length uc) (l := newE k) (ts := ts) (by (repeat' constructor)) ?_
   have h := hL hlt (a', c', a'', c'', ts ++ [(.slice ua (newE k).length uc, newE k)]) ⟨by simp [hlen], by rw [List.map_append, hmap, List.replicate_succ']; rfl⟩
   have e : A2k (List.replicate (i + 1) 0) = A2k (List.replicate i 0) ++ [.int .i64 0] := by rw [List.replicate_succ', A2k, List.map_append]; rfl
   simp only [List.map_append, List.map_cons, List.map_nil, e] at h
   exact Sels.tw (by (repeat' constructor)) h
  ·obtain rfl : i = n := by omega
   (have zz:=trivial;repeat((first|clear zz|with_reducible first|refine A3 ?_|refine A5 fun _=>?_|refine A4 fun _=>?_);try simp(disch:=first|omega|assumption|((repeat(first|exact A1|exact uH|apply A2|apply uT));first|done|fail)|(simp;first|done|omega|fail))[]))
   refine B1 (.slice ta i tc, .slice pa i qc, ts) ⟨rfl, hmap⟩ ?_
   simp only [hlen]
   (repeat' constructor)
end Go.Proofs.YtjobgnabneddjaaGreat
namespace Go.Proofs.YtjobgnabneddjaaGreat
open Go
structure WoH where
 b : Nat
 bc : Nat
 bs : Nat
 bk : Nat
 cn : Int
 cv : Value
 ov : Value
 sv : Value
 tv : Value
 pv : Value
 c : CfgV
 cells : List Int
 own : List Int
 ls : List SlH
 keep : List (Int × Int)
 ts : List (Value × List EnV)
 pl : List Nat
 now : Int
def B9 (m : WoH) : List Res := [C8 m.b m.c (.pointer (some ⟨m.bc, 0, none⟩)) (.pointer (some ⟨m.bs, 0, none⟩)) (.pointer (some ⟨m.bk, 0, none⟩)) m.tv m.pv (.int .i64 m.now),
 .pt m.bc (.cells #[.int .i64 m.cn, m.cv, m.ov] 141), .own 3 1 m.cv m.cells.length (E7 m.cells), .own 3 1 m.ov m.own.length (E7 m.own),
 .pt m.bs (.cells #[m.sv] 231), .own 266 1 m.sv m.ls.length (m.ls.map SlH.val), r7 m.ls, A7G m.bk m.keep,
 .own 84 1 m.tv m.ts.length (m.ts.map (·.1)), .own 3 1 m.pv m.pl.length (A2k m.pl)]
def WoH.ws (m : WoH) : WS := ⟨m.c, m.cells, m.own, m.ls.map SlH.sp, m.keep, m.ts.map (·.2), m.pl, m.now⟩
def L0 (c : CfgV) : WS := ⟨c, List.replicate (2 + c.wk.toNat) 0, List.replicate c.sh.toNat (-1), List.replicate c.sl.toNat .no, List.replicate c.sl.toNat (0, 0), List.replicate c.sh.toNat (newE c.cp.toNat), List.replicate c.sh.toNat 0, 0⟩
abbrev C4a := (Nat × Value × Value) × (Nat × Value × Nat) × (Value × Value × List (Value × List EnV))
def S5 : Value := .pointer none
def H9 : Value := .slice none 0 0
def A94 (b : Nat) (c : CfgV) : Nat → C4a → List Res
 | 0, x => [C8 b c S5 S5 S5 H9 H9 (.int .i64 0)]
 | 1, x => C8 b c (.pointer (some ⟨x.1.1, 0, none⟩)) S5 S5 H9 H9 (.int .i64 0) :: D0 x.1.1 0 x.1.2.1 x.1.2.2 (List.replicate (2 + c.wk.toNat) 0) (List.replicate c.sh.toNat (-1))
 | 2, x => C8 b c (.pointer (some ⟨x.1.1, 0, none⟩)) (.pointer (some ⟨x.2.1.1, 0, none⟩)) (.pointer (some ⟨x.2.1.2.2, 0, none⟩)) H9 H9 (.int .i64 0) :: (D0 x.1.1 0 x.1.2.1 x.1.2.2 (List.replicate (2 + c.wk.toNat) 0) (List.replicate c.sh.toNat (-1)) ++ A7G x.2.1.2.2 (List.replicate c.sl.toNat (0, 0)) :: G2 x.2.1.1 x.2.1.2.1 (List.replicate c.sl.toNat SlH.no))
 | _, x => C8 b c (.pointer (some ⟨x.1.1, 0, none⟩)) (.pointer (some ⟨x.2.1.1, 0, none⟩)) (.pointer (some ⟨x.2.1.2.2, 0, none⟩)) x.2.2.1 x.2.2.2.1 (.int .i64 0) :: (D0 x.1.1 0 x.1.2.1 x.1.2.2 (List.replicate (2 + c.wk.toNat) 0) (List.replicate c.sh.toNat (-1)) ++ A7G x.2.1.2.2 (List.replicate c.sl.toNat (0, 0)) :: (G2 x.2.1.1 x.2.1.2.1 (List.replicate c.sl.toNat SlH.no) ++ [.own 84 1 x.2.2.1 x.2.2.2.2.length (x.2.2.2.2.map (·.1)), .own 3 1 x.2.2.2.1 x.2.2.2.2.length (A2k (List.replicate c.sh.toNat 0)), d6 x.2.2.2.2]))
theorem C2l (w : World) (b1 : Nat) (c : CfgV) (pv : Value) (hok : M9 c = true) (hb1 : bl w b1 = some (.cells (V6 c) 23 (0, 0)))
  (hv : G1 w pv 3 [.func (.func 67) #[] #[.pointer (some ⟨b1, 0, none⟩)], .func (.func 69) #[] #[.pointer (some ⟨b1, 0, none⟩)], .func (.func 72) #[] #[.pointer (some ⟨b1, 0, none⟩)]]) :
  Fn PR B8 66 #[c.val, pv] w (Rn [] w (fun (y : WoH) u => u = .pointer (some ⟨y.b, 0, none⟩) ∧ y.c = c ∧ y.ws = L0 c) fun y => B9 y ++ [d6 y.ts]) := by
 refine B4u (TW.go (κ := false) (S := []) ?_)
 unfold A7x
 have hb : (1 ≤ c.wk ∧ c.wk ≤ 64) ∧ (1 ≤ c.sh ∧ c.sh ≤ 16) ∧ (1 ≤ c.cp ∧ c.cp ≤ 64) ∧ (2 ≤ c.sl ∧ c.sl ≤ 8) := by
  simp [M9, W1] at hok; omega
 obtain ⟨a, cap, rfl, hr⟩ := hv.form
 obtain ⟨g, o, rfl, hrow⟩ := hr (by omega)
 simp only [CfgV.val]
 (have zz:=trivial;repeat((first|clear zz|with_reducible first|refine A3 ?_|refine A5 fun _=>?_|refine A4 fun _=>?_);try simp(disch:=first|omega|assumption|((repeat(first|exact A1|exact uH|apply A2|apply uT));first|done|fail)|(simp;first|done|omega|fail))[]))
 rename_i b2 b
 refine B0A (α := C4a) 3 (fun i x => A94 b c i x ++ [.pt b2 (.cells (V6 c) 23)]) (fun i x => i = 3 → x.2.2.2.2.map (·.2) = List.replicate c.sh.toNat (newE c.cp.toNat)) ((0, S5, S5), (0, S5, 0), (S5, S5, [])) (by omega) ?_ (by simp [A94, C8, D1, V6, S5, H9])
 have r0 : w.cell? ⟨g, o, none⟩ = some (.func (.func 67) #[] #[.pointer (some ⟨b1, 0, none⟩)]) := hrow 0 (by simp)
 have r1 : w.cell? ⟨g, o + 1, none⟩ = some (.func (.func 69) #[] #[.pointer (some ⟨b1, 0, none⟩)]) := hrow 1 (by simp)
 have r2 : w.cell? ⟨g, o + 2, none⟩ = some (.func (.func 72) #[] #[.pointer (some ⟨b1, 0, none⟩)]) := hrow 2 (by simp)
 have hne : ∀ {w' : World} {A : List Res}, LW false [] w A w' → ∀ pc ps pk tv pv now, C8 b c pc ps pk tv pv now ∈ A → b1 ≠ b := fun {w' A} hw' pc ps pk tv pv now hm e => by
  have := (hw'.own _ hm b (by simp [C8, Res.foot])).1
  have h1 := H2 hb1
  rcases this with h | h
  ·cases h
  ·omega
 have hbb : ∀ w', KS false [] w w' → bl w' b1 = some (.cells (V6 c) 23 (0, 0)) := fun w' hk => hk.2.1 _ _ (by simp) rfl hb1
 rintro i ⟨⟨bc, cv, ov⟩, ⟨bs, sv, bk⟩, ⟨tv, pv', ts⟩⟩ hi hφ L hL
 have hi4 : i = 0 ∨ i = 1 ∨ i = 2 ∨ i = 3 := by omega
 rcases hi4 with rfl | rfl | rfl | rfl
 ·simp only [A94, List.cons_append, List.nil_append, D0] at hL ⊢
  (have zz:=trivial;repeat((first|clear zz|with_reducible first|refine A3 ?_|refine A5 fun _=>?_|refine A4 fun _=>?_);try simp(disch:=first|omega|assumption|((repeat(first|exact A1|exact uH|apply A2|apply uT));first|done|fail)|(simp;first|done|omega|fail))[r0]))
  refine C7 (Hc := [C8 b c S5 S5 S5 H9 H9 (.int .i64 0)]) B1H (fun w' hw' hs => C2b w' b b1 c _ _ _ _ _ _ (by omega) (by omega) (hbb w' hw'.ks) (hne hw' _ _ _ _ _ _ (List.mem_cons_self ..)) hs) (by (repeat' constructor)) ?_
  rintro x v rfl
  simp only [D0, List.cons_append, List.nil_append]
  (have zz:=trivial;repeat((first|clear zz|with_reducible first|refine A3 ?_|refine A5 fun _=>?_|refine A4 fun _=>?_);try simp(disch:=first|omega|assumption|((repeat(first|exact A1|exact uH|apply A2|apply uT));first|done|fail)|(simp;first|done|omega|fail))[]))
  have h := hL (by omega) (x, (0, S5, 0), (S5, S5, [])) (by omega)
  simp only [List.length_replicate, List.map_replicate] at h ⊢
  exact Sels.tw (by (repeat' constructor)) h
 ·simp only [A94, List.cons_append, List.nil_append, D0, G2] at hL ⊢
  (have zz:=trivial;repeat((first|clear zz|with_reducible first|refine A3 ?_|refine A5 fun _=>?_|refine A4 fun _=>?_);try simp(disch:=first|omega|assumption|((repeat(first|exact A1|exact uH|apply A2|apply uT));first|done|fail)|(simp;first|done|omega|fail))[r1]))
  refine C7 (Hc := [C8 b c (.pointer (some ⟨bc, 0, none⟩)) S5 S5 H9 H9 (.int .i64 0)]) B1C (fun w' hw' hs => C3E w' b b1 c _ _ _ _ _ _ (by omega) (hbb w' hw'.ks) (hne hw' _ _ _ _ _ _ (List.mem_cons_self ..)) hs) (by (repeat' constructor)) ?_
  rintro x v rfl
  simp only [G2, List.cons_append, List.nil_append]
  (have zz:=trivial;repeat((first|clear zz|with_reducible first|refine A3 ?_|refine A5 fun _=>?_|refine A4 fun _=>?_);try simp(disch:=first|omega|assumption|((repeat(first|exact A1|exact uH|apply A2|apply uT));first|done|fail)|(simp;first|done|omega|fail))[]))
  have h := hL (by omega) ((bc, cv, ov), x, (S5, S5, [])) (by omega)
  simp only [List.length_replicate, List.map_replicate] at h ⊢
  exact Sels.tw (by (repeat' constructor)) h
 ·simp only [A94, List.cons_append, List.nil_append, D0, G2] at hL ⊢
  (have zz:=trivial;repeat((first|clear zz|with_reducible first|refine A3 ?_|refine A5 fun _=>?_|refine A4 fun _=>?_);try simp(disch:=first|omega|assumption|((repeat(first|exact A1|exact uH|apply A2|apply uT));first|done|fail)|(simp;first|done|omega|fail))[r2]))
  refine C7 (Hc := [C8 b c (.pointer (some ⟨bc, 0, none⟩)) (.pointer (some ⟨bs, 0, none⟩)) (.pointer (some ⟨bk, 0, none⟩)) H9 H9 (.int .i64 0)]) B01 (fun w' hw' hs => C36 w' b b1 c _ _ _ _ (by omega) (by omega) (hbb w' hw'.ks) (hne hw' _ _ _ _ _ _ (List.mem_cons_self ..)) hs) (by (repeat' constructor)) ?_
  rintro x v ⟨rfl, hx⟩
  simp only [List.cons_append, List.nil_append]
  (have zz:=trivial;repeat((first|clear zz|with_reducible first|refine A3 ?_|refine A5 fun _=>?_|refine A4 fun _=>?_);try simp(disch:=first|omega|assumption|((repeat(first|exact A1|exact uH|apply A2|apply uT));first|done|fail)|(simp;first|done|omega|fail))[]))
  have h := hL (by omega) ((bc, cv, ov), (bs, sv, bk), x) (fun _ => hx)
  simp only [List.length_replicate, List.map_replicate] at h ⊢
  exact Sels.tw (by (repeat' constructor)) h
 ·have ht := hφ rfl
  simp only [A94, List.cons_append, List.nil_append, D0, G2] at ht ⊢
  have hlen : ts.length = c.sh.toNat := by
   have := congrArg List.length ht
   simpa using this
  (have zz:=trivial;repeat((first|clear zz|with_reducible first|refine A3 ?_|refine A5 fun _=>?_|refine A4 fun _=>?_);try simp(disch:=first|omega|assumption|((repeat(first|exact A1|exact uH|apply A2|apply uT));first|done|fail)|(simp;first|done|omega|fail))[]))
  refine B1 ⟨b, bc, bs, bk, 0, cv, ov, sv, tv, pv', c, List.replicate (2 + c.wk.toNat) 0, List.replicate c.sh.toNat (-1), List.replicate c.sl.toNat SlH.no, List.replicate c.sl.toNat (0, 0), ts, List.replicate c.sh.toNat 0, 0⟩ ⟨rfl, rfl, by simp [WoH.ws, L0, ht, SlH.sp]⟩ ?_
  simp only [B9, List.cons_append, List.nil_append, List.length_replicate, List.map_replicate, hlen]
  (repeat' constructor)
end Go.Proofs.YtjobgnabneddjaaGreat
namespace Go.Proofs.YtjobgnabneddjaaGreat
open Go
theorem B8W (w : World) (c : CfgV) : Fn PR B8 16 #[c.val] w (Rn [] w (fun (y : WoH) u => if M9 c then u = .tuple #[.pointer (some ⟨y.b, 0, none⟩), .int .i64 0] ∧ y.c = c ∧ y.ws = L0 c else u = .tuple #[.pointer none, .int .i64 1]) fun y => if M9 c then B9 y ++ [d6 y.ts] else []) := by
 refine B6F (TW.go (κ := false) (S := []) ?_)
 unfold A9c
 simp only [CfgV.val]
 (have zz:=trivial;repeat((first|clear zz|with_reducible first|refine A3 ?_|refine A5 fun _=>?_|refine A4 fun _=>?_);try simp(disch:=first|omega|assumption|((repeat(first|exact A1|exact uH|apply A2|apply uT));first|done|fail)|(simp;first|done|omega|fail))[]))
 rename_i b1
 refine C4 B2z (fun w' _ => C1b w' c) ?_
 cases hok : M9 c with
 | false =>
  (have zz:=trivial;repeat((first|clear zz|with_reducible first|refine A3 ?_|refine A5 fun _=>?_|refine A4 fun _=>?_);try simp(disch:=first|omega|assumption|((repeat(first|exact A1|exact uH|apply A2|apply uT));first|done|fail)|(simp;first|done|omega|fail))[]))
  exact B1 ⟨0, 0, 0, 0, 0, S5, S5, S5, S5, S5, c, [], [], [], [], [], [], 0⟩ (by simp) Sels.nil
 | true =>
  (have zz:=trivial;repeat((first|clear zz|with_reducible first|refine A3 ?_|refine A5 fun _=>?_|refine A4 fun _=>?_|refine D7 fun _=>?_|refine D5 (hK:=fun _=>?_)|refine D3 (hK:=fun _=>?_)|refine D8 (hK:=fun _=>?_)|refine D4 (hK:=fun _=>?_)|refine D6 (hK:=fun _=>?_));try simp(disch:=first|omega|assumption|((repeat(first|exact A1|exact uH|apply A2|apply uT));first|done|fail)|(simp;first|done|omega|fail))[]))
  rename_i g
  refine H3 B3F (fun w' hw' => C2l w' b1 c _ hok (hw'.pt (by (repeat constructor))) (P7.own (e := 124) (k := 1) (by (repeat constructor)) w' hw')) ?_
  rintro y v ⟨rfl, hy⟩
  (have zz:=trivial;repeat((first|clear zz|with_reducible first|refine A3 ?_|refine A5 fun _=>?_|refine A4 fun _=>?_);try simp(disch:=first|omega|assumption|((repeat(first|exact A1|exact uH|apply A2|apply uT));first|done|fail)|(simp;first|done|omega|fail))[]))
  refine B1 y ⟨rfl, hy⟩ ?_
  simp only [B9, List.cons_append, List.nil_append]
  (repeat' constructor)
theorem A3D (w : World) (b : Nat) (c : CfgV) (pc ps pk tv pv now : Value) (who : Int) (hwk : c.wk ≤ 64) (hb : bl w b = some (.cells (D1 c pc ps pk tv pv now) 39 (0, 0))) :
  Fn PR B8 57 #[.pointer (some ⟨b, 0, none⟩), .int .i64 who] w (fun u w' => u = .int .i64 (F8 c who) ∧ C9 [] w w') := by
 refine Fn.pure (A9T (TW.go (κ := false) (S := []) ?_))
 unfold A2B
 have h0 : w.cell? ⟨b, 0, none⟩ = some (.int .i64 c.wk) := by rw [E1 hb]; rfl
 unfold F8
 by_cases c1 : who < 1
 ·rw [if_pos (Or.inl c1)]
  (have zz:=trivial;repeat((first|clear zz|with_reducible first|refine A3 ?_|refine A5 fun _=>?_|refine A4 fun _=>?_);try simp(disch:=first|omega|assumption|((repeat(first|exact A1|exact uH|apply A2|apply uT));first|done|fail)|(simp;first|done|omega|fail))[c1]))
  exact B0 rfl
 by_cases c2 : c.wk < who
 ·rw [if_pos (Or.inr c2)]
  (have zz:=trivial;repeat((first|clear zz|with_reducible first|refine A3 ?_|refine A5 fun _=>?_|refine A4 fun _=>?_);try simp(disch:=first|omega|assumption|((repeat(first|exact A1|exact uH|apply A2|apply uT));first|done|fail)|(simp;first|done|omega|fail))[c1, c2, h0]))
  exact B0 rfl
 rw [if_neg (by omega)]
 (have zz:=trivial;repeat((first|clear zz|with_reducible first|refine A3 ?_|refine A5 fun _=>?_|refine A4 fun _=>?_);try simp(disch:=first|omega|assumption|((repeat(first|exact A1|exact uH|apply A2|apply uT));first|done|fail)|(simp;first|done|omega|fail))[c1, c2, h0]))
 exact B0 (by congr 1; omega)
end Go.Proofs.YtjobgnabneddjaaGreat
namespace Go.Proofs.YtjobgnabneddjaaGreat
open Go
abbrev U7 := SlV × Option Addr × Nat × Nat
def rsP (x : U7) : Value := .slice x.2.1 x.2.2.1 x.2.2.2
def V0 (x : U7) : List Value := match x.1 with
 | .no => [.int .i64 0, .slice none 0 0]
 | .bld => [.int .i64 1, .slice none 0 0]
 | .rdy _ => [.int .i64 2, rsP x]
theorem s7 (x : U7) : (V0 x).length = 2 := by unfold V0; split <;> rfl
def noR : U7 := (.no, none, 0, 0)
def kpC (x : Int × Int) : List Value := [.int .i64 x.1, .int .i64 x.2]
structure XH where
 b : Nat
 piv : Value
 lov : Value
 slv : Value
 kev : Value
 tav : Value
 plv : Value
 c : CfgV
 ep : Int
 cur : Int
 pins : List Int
 locks : List Int
 sl : List U7
 keep : List (Int × Int)
 ts : List (Value × List EnV)
 pl : List Nat
 now : Int
def Y5 (c : CfgV) (ep cur : Int) (piv lov slv kev tav plv : Value) (now : Int) : Array Value := #[.int .i64 c.wk, .int .i64 c.sh, .int .i64 c.cp, .int .i64 c.idle, .int .i64 c.sl, .int .i64 ep, .int .i64 cur, piv, lov, slv, kev, tav, plv, .int .i64 now]
def U5 (b : Nat) (c : CfgV) (ep cur : Int) (piv lov slv kev tav plv : Value) (now : Int) : Res := .pt b (.cells (Y5 c ep cur piv lov slv kev tav plv now) 106)
def K9 (x : XH) : List Res := [U5 x.b x.c x.ep x.cur x.piv x.lov x.slv x.kev x.tav x.plv x.now, .own 3 1 x.piv x.pins.length (E7 x.pins), .own 3 1 x.lov x.locks.length (E7 x.locks),
 .own 270 2 x.slv x.sl.length (x.sl.flatMap V0), .own 277 2 x.kev x.keep.length (x.keep.flatMap kpC), .own 84 1 x.tav x.ts.length (x.ts.map (·.1)), .own 3 1 x.plv x.pl.length (A2k x.pl)]
theorem C4T {α : Type} (v : Value) (a b : Value) (x : α) (f : α → List Value) (hv : v.cells = #[a, b]) (hf : f x = [a, b]) (hl : ∀ y, (f y).length = 2) (n : Nat) : (Builtin.zeroCells v.cells n).toList = (List.replicate n x).flatMap f := by
 have h2 : v.cells.size = 2 := by rw [hv]; rfl
 have hz : (Builtin.zeroCells v.cells n).toList.length = n * 2 := by simp [size_zeroCells, h2]
 have hr : ((List.replicate n x).flatMap f).length = n * 2 := by rw [N5 (k := 2) hl]; simp
 apply List.ext_getElem (by rw [hz, hr])
 intro i h1 h3
 rw [hz] at h1
 have hg := d5 (f := f) (k := 2) hl (List.replicate n x) (i / 2) (i % 2) (by omega)
 rw [show i / 2 * 2 + i % 2 = i by omega, List.getElem?_eq_getElem h3, List.getElem?_replicate_of_lt (by omega)] at hg
 have e : (Builtin.zeroCells v.cells n).toList[i]'(by rw [hz]; exact h1) = v.cells[i % 2]! := by
  simp [Builtin.zeroCells, h2]
 rw [e, hv]
 have h4 : i % 2 = 0 ∨ i % 2 = 1 := by omega
 rcases h4 with h4 | h4 <;> (rw [h4] at hg ⊢; simp [hf] at hg ⊢; exact hg.symm)
theorem C4u (n : Nat) : (Builtin.zeroCells (Value.agg #[.int .i64 0, .slice none 0 0]).cells n).toList = (List.replicate n noR).flatMap V0 := C4T _ _ _ noR V0 rfl rfl s7 n
theorem C4z (n : Nat) : (Builtin.zeroCells (Value.agg #[.int .i64 0, .int .i64 0]).cells n).toList = (List.replicate n ((0, 0) : Int × Int)).flatMap kpC := C4T _ _ _ _ kpC rfl rfl (fun _ => rfl) n
theorem C3j (w : World) (n : Nat) (hn : n ≤ 8) : Fn PR B8 91 #[.int .i64 (n : Int)] w (Rn [] w (fun r u => u = r) fun r => [.own 270 2 r (List.replicate n noR).length ((List.replicate n noR).flatMap V0)]) := by
 refine A58 (TW.go (κ := false) (S := []) ?_)
 unfold A0J
 have e : max 0 (min (n : Int) 8) = (n : Int) := by omega
 (have zz:=trivial;repeat((first|clear zz|with_reducible first|refine A3 ?_|refine A5 fun _=>?_|refine A4 fun _=>?_);try simp(disch:=first|omega|assumption|((repeat(first|exact A1|exact uH|apply A2|apply uT));first|done|fail)|(simp;first|done|omega|fail))[]))
 rw [e]
 refine v7 (by omega) (by omega) (by omega) (by omega) fun b => ?_
 rw [Int.toNat_natCast, C4u]
 refine B1 _ rfl ?_
 simp only [List.length_replicate]
 (repeat' constructor)
theorem C3u (w : World) (n : Nat) (hn : n ≤ 8) : Fn PR B8 92 #[.int .i64 (n : Int)] w (Rn [] w (fun r u => u = r) fun r => [.own 277 2 r (List.replicate n ((0, 0) : Int × Int)).length ((List.replicate n ((0, 0) : Int × Int)).flatMap kpC)]) := by
 refine A5g (TW.go (κ := false) (S := []) ?_)
 unfold A0M
 have e : max 0 (min (n : Int) 8) = (n : Int) := by omega
 (have zz:=trivial;repeat((first|clear zz|with_reducible first|refine A3 ?_|refine A5 fun _=>?_|refine A4 fun _=>?_);try simp(disch:=first|omega|assumption|((repeat(first|exact A1|exact uH|apply A2|apply uT));first|done|fail)|(simp;first|done|omega|fail))[]))
 rw [e]
 refine v7 (by omega) (by omega) (by omega) (by omega) fun b => ?_
 rw [Int.toNat_natCast, C4z]
 refine B1 _ rfl ?_
 simp only [List.length_replicate]
 (repeat' constructor)
theorem B5b (n : Nat) : (Builtin.zeroCells (Value.int .i64 0).cells n).toList = E7 (List.replicate n 0) := by
 rw [B8A]; simp [B8c, E7]
theorem B5a (n : Nat) : (Builtin.zeroCells (Value.int .i64 0).cells n).toList = A2k (List.replicate n 0) := B8A n
def B9A (b b1 bp bs wn n k sn : Nat) (idle : Int) (lov tav : Value) : List Res := [.pt b (.cells #[.int .i64 wn, .int .i64 n, .int .i64 k, .int .i64 idle, .int .i64 sn, .int .i64 0, .int .i64 0, .slice (some ⟨bp, 0, none⟩) (wn + 1) (wn + 1), lov, .slice none 0 0, .slice none 0 0, tav, .slice (some ⟨bs, 0, none⟩) n n, .int .i64 0] 106),
 .own 3 1 (.slice (some ⟨bp, 0, none⟩) (wn + 1) (wn + 1)) (wn + 1) (E7 (List.replicate (wn + 1) 0)), .own 3 1 (.slice (some ⟨bs, 0, none⟩) n n) n (A2k (List.replicate n 0)),
 .pt b1 (.cells #[.int .i64 wn, .int .i64 n, .int .i64 k, .int .i64 idle, .int .i64 sn] 23)]
set_option maxHeartbeats 1000000 in
theorem C3c (w : World) (c : CfgV) (hok : M9 c = true) : Fn PR B8 42 #[c.val] w (Rn [] w (fun (x : XH) u => u = .pointer (some ⟨x.b, 0, none⟩) ∧ x.c = c ∧ x.ep = 0 ∧ x.cur = 0 ∧ x.pins = List.replicate (c.wk.toNat + 1) 0 ∧ x.locks = List.replicate c.sh.toNat (-1) ∧ x.sl = List.replicate c.sl.toNat noR ∧ x.keep = List.replicate c.sl.toNat (0, 0) ∧ x.ts.map (·.2) = List.replicate c.sh.toNat (newE c.cp.toNat) ∧ x.pl = List.replicate c.sh.toNat 0 ∧ x.now = 0)
  fun x => d6 x.ts :: K9 x) := by
 refine A54 (TW.go (κ := false) (S := []) ?_)
 unfold A0S
 simp only [CfgV.val]
 obtain ⟨cwk, csh, ccp, cid, csl⟩ := c
 have hb : (1 ≤ cwk ∧ cwk ≤ 64) ∧ (1 ≤ csh ∧ csh ≤ 16) ∧ (1 ≤ ccp ∧ ccp ≤ 64) ∧ 0 ≤ csl ∧ csl ≤ 8 := by
  simp [M9, W1] at hok; omega
 simp only
 obtain ⟨wn, rfl⟩ : ∃ n : Nat, cwk = n := ⟨cwk.toNat, by omega⟩
 obtain ⟨n, rfl⟩ : ∃ n : Nat, csh = n := ⟨csh.toNat, by omega⟩
 obtain ⟨k, rfl⟩ : ∃ n : Nat, ccp = n := ⟨ccp.toNat, by omega⟩
 obtain ⟨sn, rfl⟩ : ∃ n : Nat, csl = n := ⟨csl.toNat, by omega⟩
 have e1 : ((wn : Nat) : Int) + 1 = ((wn + 1 : Nat) : Int) := by omega
 (have zz:=trivial;repeat((first|clear zz|with_reducible first|refine A3 ?_|refine A5 fun _=>?_|refine A4 fun _=>?_);try simp(disch:=first|omega|assumption|((repeat(first|exact A1|exact uH|apply A2|apply uT));first|done|fail)|(simp;first|done|omega|fail))[]))
 rename_i b1
 refine C4Y (α := Nat × Nat × Nat) (fun _ => True) (fun y => B9A y.1 b1 y.2.1 y.2.2 wn n k sn cid (.slice none 0 0) (.slice none 0 0)) (fun y => .pointer (some ⟨y.1, 0, none⟩)) ?_ ?_
 ·rintro ⟨bm, bp, bs⟩ _
  simp only [B9A]
  (have zz:=trivial;repeat((first|clear zz|with_reducible first|refine A3 ?_|refine A5 fun _=>?_|refine A4 fun _=>?_);try simp(disch:=first|omega|assumption|((repeat(first|exact A1|exact uH|apply A2|apply uT));first|done|fail)|(simp;first|done|omega|fail))[]))
  refine n4 3 1 ?_
  refine B6E ?_
  refine n4 84 1 ?_
  refine B0A n (fun i (y : (List (Value × List EnV) × Option Addr × Nat) × Option Addr × Nat) => [.own 84 1 (.slice y.1.2.1 i y.1.2.2) i (y.1.1.map (·.1)), d6 y.1.1, .own 3 1 (.slice y.2.1 i y.2.2) i (E7 (List.replicate i (-1))),
   .pt bm (.cells #[.int .i64 wn, .int .i64 n, .int .i64 k, .int .i64 cid, .int .i64 sn, .int .i64 0, .int .i64 0, .slice (some ⟨bp, 0, none⟩) (wn + 1) (wn + 1), .slice y.2.1 i y.2.2, .slice none 0 0, .slice none 0 0, .slice y.1.2.1 i y.1.2.2, .slice (some ⟨bs, 0, none⟩) n n, .int .i64 0] 106),
   .own 3 1 (.slice (some ⟨bp, 0, none⟩) (wn + 1) (wn + 1)) (wn + 1) (E7 (List.replicate (wn + 1) 0)), .own 3 1 (.slice (some ⟨bs, 0, none⟩) n n) n (A2k (List.replicate n 0)),
   .pt b1 (.cells #[.int .i64 wn, .int .i64 n, .int .i64 k, .int .i64 cid, .int .i64 sn] 23)]) (fun i y => y.1.1.length = i ∧ y.1.1.map (·.2) = List.replicate i (newE k)) (([], none, 0), none, 0) ⟨rfl, rfl⟩ ?_
  ·rintro i ⟨⟨ts, ya, yc⟩, la, lc⟩ hi ⟨hlen, hmap⟩ L hL
   simp only at hlen hmap ⊢
   obtain ⟨lz, hlz⟩ : ∃ z, z = E7 (List.replicate i (-1)) := ⟨_, rfl⟩
   rw [← hlz]
   by_cases hlt : i < n
   ·have hlt' : ((i : Nat) : Int) < (n : Nat) := by omega
    (have zz:=trivial;repeat((first|clear zz|with_reducible first|refine A3 ?_|refine A5 fun _=>?_|refine A4 fun _=>?_|refine D7 fun _=>?_|refine D5 (hK:=fun _=>?_)|refine D3 (hK:=fun _=>?_)|refine D8 (hK:=fun _=>?_)|refine D4 (hK:=fun _=>?_)|refine D6 (hK:=fun _=>?_));try simp(disch:=first|omega|assumption|((repeat(first|exact A1|exact uH|apply A2|apply uT));first|done|fail)|(simp;first|done|omega|fail))[hlt, hlt']))
    refine y7 (e := 3) (k := 1) (q := i) (r := 1) (xs := lz) (news := [.int .i64 (-1)]) (by (repeat constructor)) (P7.own (by (repeat constructor))) (by decide) (by simp) (by simp) (by simp only [maxLen]; omega) (by omega) fun a1 c1 => ?_
    (have zz:=trivial;repeat((first|clear zz|with_reducible first|refine A3 ?_|refine A5 fun _=>?_|refine A4 fun _=>?_);try simp(disch:=first|omega|assumption|((repeat(first|exact A1|exact uH|apply A2|apply uT));first|done|fail)|(simp;first|done|omega|fail))[]))
    refine H3 A5T (fun w' _ => C25 w' k (by omega)) ?_
    intro y u hu
    subst hu
    refine P6 (e := 218) (k := 4) (v := u) (q := (newE k).length) (xs := (newE k).flatMap H5) (by (repeat constructor)) fun ua uc hu => ?_
    subst hu
    (have zz:=trivial;repeat((first|clear zz|with_reducible first|refine A3 ?_|refine A5 fun _=>?_|refine A4 fun _=>?_|refine D7 fun _=>?_|refine D5 (hK:=fun _=>?_)|refine D3 (hK:=fun _=>?_)|refine D8 (hK:=fun _=>?_)|refine D4 (hK:=fun _=>?_)|refine D6 (hK:=fun _=>?_));try simp(disch:=first|omega|assumption|((repeat(first|exact A1|exact uH|apply A2|apply uT));first|done|fail)|(simp;first|done|omega|fail))[]))
    refine y7 (e := 84) (k := 1) (q := i) (r := 1) (xs := ts.map (·.1)) (news := [.slice ua (newE k).length uc]) (by (repeat constructor)) (P7.own (by (repeat constructor))) (by decide) rfl (by simp) (by simp only [maxLen]; omega) (by omega) fun a' c' => ?_
    (have zz:=trivial;repeat((first|clear zz|with_reducible first|refine A3 ?_|refine A5 fun _=>?_|refine A4 fun _=>?_);try simp(disch:=first|omega|assumption|((repeat(first|exact A1|exact uH|apply A2|apply uT));first|done|fail)|(simp;first|done|omega|fail))[]))
    refine Z8 (r := .slice ua (newE k).length uc) (l := newE k) (ts := ts) (by (repeat' constructor)) ?_
    have h := hL hlt ((ts ++ [(.slice ua (newE k).length uc, newE k)], a', c'), a1, c1) ⟨by simp [hlen], by rw [List.map_append, hmap, List.replicate_succ']; rfl⟩
    have hz : lz ++ [Value.int .i64 (-1)] = E7 (List.replicate (i + 1) (-1)) := by rw [hlz, List.replicate_succ']; simp [E7]
    simp only [List.map_append, List.map_cons, List.map_nil] at h
    rw [← hz] at h
    exact Sels.tw (by (repeat' constructor)) h
   ·obtain rfl : i = n := by omega
    (have zz:=trivial;repeat((first|clear zz|with_reducible first|refine A3 ?_|refine A5 fun _=>?_|refine A4 fun _=>?_);try simp(disch:=first|omega|assumption|((repeat(first|exact A1|exact uH|apply A2|apply uT));first|done|fail)|(simp;first|done|omega|fail))[Int.lt_irrefl]))
    refine H3 A5D (fun w' _ => C3j w' sn (by omega)) ?_
    rintro _ slv rfl
    refine P6 (e := 270) (k := 2) (v := slv) (q := (List.replicate sn noR).length) (xs := (List.replicate sn noR).flatMap V0) (by (repeat constructor)) fun sa sc hu => ?_
    subst hu
    (have zz:=trivial;repeat((first|clear zz|with_reducible first|refine A3 ?_|refine A5 fun _=>?_|refine A4 fun _=>?_);try simp(disch:=first|omega|assumption|((repeat(first|exact A1|exact uH|apply A2|apply uT));first|done|fail)|(simp;first|done|omega|fail))[]))
    refine H3 A47 (fun w' _ => C3u w' sn (by omega)) ?_
    rintro _ kev rfl
    refine P6 (e := 277) (k := 2) (v := kev) (q := (List.replicate sn ((0, 0) : Int × Int)).length) (xs := (List.replicate sn ((0, 0) : Int × Int)).flatMap kpC) (by (repeat constructor)) fun ka kc hu => ?_
    subst hu
    (have zz:=trivial;repeat((first|clear zz|with_reducible first|refine A3 ?_|refine A5 fun _=>?_|refine A4 fun _=>?_);try simp(disch:=first|omega|assumption|((repeat(first|exact A1|exact uH|apply A2|apply uT));first|done|fail)|(simp;first|done|omega|fail))[]))
    refine B1 ⟨bm, .slice (some ⟨bp, 0, none⟩) (wn + 1) (wn + 1), .slice la i lc, .slice sa (List.replicate sn noR).length sc, .slice ka (List.replicate sn ((0, 0) : Int × Int)).length kc, .slice ya i yc, .slice (some ⟨bs, 0, none⟩) i i, ⟨wn, i, k, cid, sn⟩, 0, 0, List.replicate (wn + 1) 0, List.replicate i (-1), List.replicate sn noR, List.replicate sn (0, 0), ts, List.replicate i 0, 0⟩ ⟨rfl, rfl, rfl, rfl, rfl, rfl, rfl, rfl, hmap, rfl, rfl⟩ ?_
    simp only [K9, U5, Y5, hlen, List.length_replicate, ← hlz]
    (repeat' constructor)
 ·intro J hJ
  have e2 : Int.toNat ((wn : Nat) + 1 : Int) = wn + 1 := by omega
  (have zz:=trivial;repeat((first|clear zz|with_reducible first|refine A3 ?_|refine A5 fun _=>?_|refine A4 fun _=>?_);try simp(disch:=first|omega|assumption|((repeat(first|exact A1|exact uH|apply A2|apply uT));first|done|fail)|(simp;first|done|omega|fail))[]))
  refine ⟨?_, ?_, fun _ _ => trivial⟩
  ·refine v7 (by omega) (by omega) (by omega) (by omega) fun bp => ?_
   rw [e2, B5b]
   (have zz:=trivial;repeat((first|clear zz|with_reducible first|refine A3 ?_|refine A5 fun _=>?_|refine A4 fun _=>?_);try simp(disch:=first|omega|assumption|((repeat(first|exact A1|exact uH|apply A2|apply uT));first|done|fail)|(simp;first|done|omega|fail))[]))
   rw [A3W (by (repeat constructor)) (by rfl)]
   refine v7 (by omega) (by omega) (by omega) (by omega) fun bs => ?_
   rw [Int.toNat_natCast, B5a, A3W (by (repeat constructor)) (by rfl)]
   (have zz:=trivial;repeat((first|clear zz|with_reducible first|refine A3 ?_|refine A5 fun _=>?_|refine A4 fun _=>?_);try simp(disch:=first|omega|assumption|((repeat(first|exact A1|exact uH|apply A2|apply uT));first|done|fail)|(simp;first|done|omega|fail))[]))
   rename_i bm
   exact Sels.tw (by simp only [B9A]; (repeat' constructor)) (hJ (bm, bp, bs) trivial)
  ·refine v7 (by omega) (by omega) (by omega) (by omega) fun bs => ?_
   rw [Int.toNat_natCast, B5a]
   (have zz:=trivial;repeat((first|clear zz|with_reducible first|refine A3 ?_|refine A5 fun _=>?_|refine A4 fun _=>?_);try simp(disch:=first|omega|assumption|((repeat(first|exact A1|exact uH|apply A2|apply uT));first|done|fail)|(simp;first|done|omega|fail))[]))
   rw [A3W (by (repeat constructor)) (by rfl)]
   rw [T8 (by omega) (by omega)]
   refine v7 (by omega) (by omega) (by omega) (by omega) fun bp => ?_
   rw [e2, B5b, A3W (by (repeat constructor)) (by rfl)]
   (have zz:=trivial;repeat((first|clear zz|with_reducible first|refine A3 ?_|refine A5 fun _=>?_|refine A4 fun _=>?_);try simp(disch:=first|omega|assumption|((repeat(first|exact A1|exact uH|apply A2|apply uT));first|done|fail)|(simp;first|done|omega|fail))[]))
   rename_i bm
   exact Sels.tw (by simp only [B9A]; (repeat' constructor)) (hJ (bm, bp, bs) trivial)
end Go.Proofs.YtjobgnabneddjaaGreat
namespace Go.Proofs.YtjobgnabneddjaaGreat
open Go
abbrev rsV (l : List U7) : List SlV := l.map (·.1)
def n9 (n : Nat) (i : Int) : Bool := decide (0 ≤ i) && decide (i < n)
def A3A (l : List U7) (i : Int) (x : U7) : List U7 := if 0 ≤ i ∧ i < l.length then l.set i.toNat x else l
theorem A4S (l : List U7) (i : Int) (x : U7) : (A3A l i x).length = l.length := by unfold A3A; split <;> simp
def rsA (x : U7) : Value := match x.1 with
 | .no => .agg #[.int .i64 0, .slice none 0 0]
 | .bld => .agg #[.int .i64 1, .slice none 0 0]
 | .rdy _ => .agg #[.int .i64 2, rsP x]
theorem B3L (w : World) (a : Option Addr) (n c : Nat) (i : Int) : Fn PR B8 151 #[.slice a n c, .int .i64 i] w (fun u w' => u = .bool (n9 n i) ∧ C9 [] w w') := by
 refine Fn.pure (A6j (TW.go (κ := false) (S := []) ?_))
 unfold A05
 by_cases c1 : 0 ≤ i
 ·(have zz:=trivial;repeat((first|clear zz|with_reducible first|refine A3 ?_|refine A5 fun _=>?_|refine A4 fun _=>?_);try simp(disch:=first|omega|assumption|((repeat(first|exact A1|exact uH|apply A2|apply uT));first|done|fail)|(simp;first|done|omega|fail))[c1]))
  exact B0 (by simp [n9, c1])
 ·(have zz:=trivial;repeat((first|clear zz|with_reducible first|refine A3 ?_|refine A5 fun _=>?_|refine A4 fun _=>?_);try simp(disch:=first|omega|assumption|((repeat(first|exact A1|exact uH|apply A2|apply uT));first|done|fail)|(simp;first|done|omega|fail))[c1]))
  exact B0 (by simp [n9, c1])
theorem C3F (l : List U7) : (l.flatMap V0).all plain = true := by
 rw [List.all_flatMap, List.all_eq_true]
 rintro ⟨y1, y2⟩ hy
 cases y1 <;> rfl
theorem A8g (w : World) (v : Value) (l : List U7) (i : Nat) (x : U7) (hn : l.length ≤ 8) (hi : i < l.length) (hv : G1 w v l.length (l.flatMap V0)) :
  Fn PR B8 152 #[v, .int .i64 (i : Nat), rsA x] w (Rn [] w (fun r u => u = r) fun r => [.own 270 2 r (l.set i x).length ((l.set i x).flatMap V0)]) := by
 refine A5E (TW.go (κ := false) (S := []) ?_)
 unfold x3
 obtain ⟨a, c, rfl, _⟩ := hv.form
 obtain ⟨s, pa, pn, pc, hs⟩ : ∃ s a n c, rsA x = .agg #[.int .i64 s, .slice a n c] ∧ V0 x = [.int .i64 s, .slice a n c] := by
  obtain ⟨x1, x2⟩ := x
  cases x1
  ·exact ⟨0, _, _, _, rfl, rfl⟩
  ·exact ⟨1, _, _, _, rfl, rfl⟩
  ·exact ⟨2, _, _, _, rfl, rfl⟩
 rw [hs.1]
 (have zz:=trivial;repeat((first|clear zz|with_reducible first|refine A3 ?_|refine A5 fun _=>?_|refine A4 fun _=>?_|refine D7 fun _=>?_|refine D5 (hK:=fun _=>?_)|refine D3 (hK:=fun _=>?_)|refine D8 (hK:=fun _=>?_)|refine D4 (hK:=fun _=>?_)|refine D6 (hK:=fun _=>?_));try simp(disch:=first|omega|assumption|((repeat(first|exact A1|exact uH|apply A2|apply uT));first|done|fail)|(simp;first|done|omega|fail))[]))
 refine y7 (e := 270) (k := 2) (q := 0) (r := l.length) (xs := []) (news := l.flatMap V0) (by (repeat constructor)) (fun w' hw' => hv.ks hw'.ks (by simp)) (by decide) (N5 s7 l) (C3F l) (by simp only [maxLen]; omega) (by omega) fun a' c' => ?_
 rw [List.nil_append, Nat.zero_add]
 refine y9 (e := 270) (k := 2) (v := .slice a' l.length c') (q := l.length) (xs := l.flatMap V0) (by (repeat constructor)) (by omega) fun g gc hg => ?_
 cases hg
 (have zz:=trivial;repeat((first|clear zz|with_reducible first|refine A3 ?_|refine A5 fun _=>?_|refine A4 fun _=>?_);try simp(disch:=first|omega|assumption|((repeat(first|exact A1|exact uH|apply A2|apply uT));first|done|fail)|(simp;first|done|omega|fail))[hi]))
 refine T5 (by (repeat constructor)) (by simp) (by rw [N5 s7]; show i * 2 + 2 ≤ _; omega) (by simp) ?_
 refine B1 _ rfl ?_
 have := A9U (f := V0) (k := 2) s7 l i x hi
 rw [List.length_set, ← this, hs.2]
 (repeat' constructor)
theorem U7.cell {w : World} {a : Option Addr} {c : Nat} {l : List U7} (hv : G1 w (.slice a l.length c) l.length (l.flatMap V0)) {i : Nat} (hi : i < l.length) : ∃ b o, a = some ⟨b, o, none⟩ ∧ w.cell? ⟨b, o + i * 2, none⟩ = (V0 l[i])[0]? ∧ w.cell? ⟨b, o + i * 2 + 1, none⟩ = (V0 l[i])[1]? := by
 rcases hv with ⟨h0, _⟩ | ⟨b, o, c', e, hr⟩
 ·omega
 cases e
 have h0 := d5 s7 l i 0 (by omega)
 have h1 := d5 s7 l i 1 (by omega)
 rw [List.getElem?_eq_getElem hi] at h0 h1
 have hc := s7 l[i]
 simp only [Option.bind_some] at h0 h1
 refine ⟨b, o, rfl, ?_, ?_⟩
 ·obtain ⟨v, hv⟩ : ∃ v, (V0 l[i])[0]? = some v := ⟨_, List.getElem?_eq_getElem (show _ < (V0 l[i]).length by rw [s7]; omega)⟩
  rw [hv] at h0 ⊢
  exact hr.get h0
 ·obtain ⟨v, hv⟩ : ∃ v, (V0 l[i])[1]? = some v := ⟨_, List.getElem?_eq_getElem (show _ < (V0 l[i]).length by rw [s7]; omega)⟩
  rw [hv] at h1 ⊢
  have := hr.get h1
  rwa [← Nat.add_assoc] at this
def S1 (l : List U7) (i : Int) : List U7 := A3A l i (.bld, none, 0, 0)
def l7 (l : List U7) (i : Int) : List U7 := A3A l i noR
def B3V (l : List U7) (i : Int) : Bool := match H8 (rsV l) i with | .bld => true | _ => false
def flR (l : List U7) (i : Int) (p : List F7) : Bool := B3V l i && decide (M3 p = 0)
def y6 (l : List U7) (i : Int) (p : List F7) (x : Option Addr × Nat × Nat) : List U7 := if flR l i p then A3A l i (.rdy p, x) else l
theorem C6V {l : List U7} {k : Nat} (h : k < l.length) : H8 (rsV l) (k : Nat) = l[k].1 := by
 unfold H8 rsV
 rw [if_pos (by simp only [List.length_map]; omega), Int.toNat_natCast, List.getD_eq_getElem?_getD, List.getElem?_map, List.getElem?_eq_getElem h]; rfl
theorem B9W (w : World) (v : Value) (l : List U7) (i : Int) (hn : l.length ≤ 8) (hv : G1 w v l.length (l.flatMap V0)) :
  Fn PR B8 96 #[v, .int .i64 i] w (Rn [] w (fun r u => u = .tuple #[if n9 l.length i then r else v, .bool (n9 l.length i)]) fun r => if n9 l.length i then [.own 270 2 r (S1 l i).length ((S1 l i).flatMap V0)] else []) := by
 refine A4D (TW.go (κ := false) (S := []) ?_)
 unfold v6
 obtain ⟨a, c, rfl, _⟩ := hv.form
 (have zz:=trivial;repeat((first|clear zz|with_reducible first|refine A3 ?_|refine A5 fun _=>?_|refine A4 fun _=>?_);try simp(disch:=first|omega|assumption|((repeat(first|exact A1|exact uH|apply A2|apply uT));first|done|fail)|(simp;first|done|omega|fail))[]))
 refine C4 f7 (fun w' _ => B3L w' a l.length c i) ?_
 cases hi : n9 l.length i with
 | false =>
  (have zz:=trivial;repeat((first|clear zz|with_reducible first|refine A3 ?_|refine A5 fun _=>?_|refine A4 fun _=>?_);try simp(disch:=first|omega|assumption|((repeat(first|exact A1|exact uH|apply A2|apply uT));first|done|fail)|(simp;first|done|omega|fail))[]))
  exact B1 (.slice a l.length c) (by simp) Sels.nil
 | true =>
  obtain ⟨k, rfl⟩ : ∃ k : Nat, i = k := ⟨i.toNat, by simp [n9] at hi; omega⟩
  have hk : k < l.length := by simp [n9] at hi; exact hi
  have e : S1 l k = l.set k (.bld, none, 0, 0) := by unfold S1 A3A; rw [if_pos (by omega)]; rfl
  rw [e]
  (have zz:=trivial;repeat((first|clear zz|with_reducible first|refine A3 ?_|refine A5 fun _=>?_|refine A4 fun _=>?_);try simp(disch:=first|omega|assumption|((repeat(first|exact A1|exact uH|apply A2|apply uT));first|done|fail)|(simp;first|done|omega|fail))[]))
  refine H3 W4 (fun w' hw' => A8g w' _ l k (.bld, none, 0, 0) hn hk (hv.ks hw'.ks (by simp))) ?_
  rintro _ r rfl
  (have zz:=trivial;repeat((first|clear zz|with_reducible first|refine A3 ?_|refine A5 fun _=>?_|refine A4 fun _=>?_);try simp(disch:=first|omega|assumption|((repeat(first|exact A1|exact uH|apply A2|apply uT));first|done|fail)|(simp;first|done|omega|fail))[]))
  exact B1 r (by simp) (Sels.cons Sel.here Sels.nil)
theorem B9e (w : World) (v : Value) (l : List U7) (i : Int) (hn : l.length ≤ 8) (hv : G1 w v l.length (l.flatMap V0)) :
  Fn PR B8 99 #[v, .int .i64 i] w (Rn [] w (fun r u => u = .tuple #[if n9 l.length i then r else v, .bool (n9 l.length i)]) fun r => if n9 l.length i then [.own 270 2 r (l7 l i).length ((l7 l i).flatMap V0)] else []) := by
 refine A4A (TW.go (κ := false) (S := []) ?_)
 unfold u5
 obtain ⟨a, c, rfl, _⟩ := hv.form
 (have zz:=trivial;repeat((first|clear zz|with_reducible first|refine A3 ?_|refine A5 fun _=>?_|refine A4 fun _=>?_);try simp(disch:=first|omega|assumption|((repeat(first|exact A1|exact uH|apply A2|apply uT));first|done|fail)|(simp;first|done|omega|fail))[]))
 refine C4 f7 (fun w' _ => B3L w' a l.length c i) ?_
 cases hi : n9 l.length i with
 | false =>
  (have zz:=trivial;repeat((first|clear zz|with_reducible first|refine A3 ?_|refine A5 fun _=>?_|refine A4 fun _=>?_);try simp(disch:=first|omega|assumption|((repeat(first|exact A1|exact uH|apply A2|apply uT));first|done|fail)|(simp;first|done|omega|fail))[]))
  exact B1 (.slice a l.length c) (by simp) Sels.nil
 | true =>
  obtain ⟨k, rfl⟩ : ∃ k : Nat, i = k := ⟨i.toNat, by simp [n9] at hi; omega⟩
  have hk : k < l.length := by simp [n9] at hi; exact hi
  have e : l7 l k = l.set k noR := by unfold l7 A3A; rw [if_pos (by omega)]; rfl
  rw [e]
  (have zz:=trivial;repeat((first|clear zz|with_reducible first|refine A3 ?_|refine A5 fun _=>?_|refine A4 fun _=>?_);try simp(disch:=first|omega|assumption|((repeat(first|exact A1|exact uH|apply A2|apply uT));first|done|fail)|(simp;first|done|omega|fail))[]))
  refine H3 W4 (fun w' hw' => A8g w' _ l k noR hn hk (hv.ks hw'.ks (by simp))) ?_
  rintro _ r rfl
  (have zz:=trivial;repeat((first|clear zz|with_reducible first|refine A3 ?_|refine A5 fun _=>?_|refine A4 fun _=>?_);try simp(disch:=first|omega|assumption|((repeat(first|exact A1|exact uH|apply A2|apply uT));first|done|fail)|(simp;first|done|omega|fail))[]))
  exact B1 r (by simp) (Sels.cons Sel.here Sels.nil)
theorem C0M (w : World) (v : Value) (l : List U7) (i : Int) (p : List F7) (pa : Option Addr) (pc : Nat) (hn : l.length ≤ 8) (hp : p.length ≤ 1000000) (hv : G1 w v l.length (l.flatMap V0)) (hpv : G1 w (.slice pa p.length pc) p.length (p.flatMap H0)) :
  Fn PR B8 97 #[v, .int .i64 i, .slice pa p.length pc] w (Rn [] w (fun r u => u = .tuple #[if flR l i p then r else v, .bool (flR l i p)]) fun r => if flR l i p then [.own 270 2 r (y6 l i p (pa, p.length, pc)).length ((y6 l i p (pa, p.length, pc)).flatMap V0)] else []) := by
 refine A43 (TW.go (κ := false) (S := []) ?_)
 unfold w9
 obtain ⟨a, c, rfl, _⟩ := hv.form
 (have zz:=trivial;repeat((first|clear zz|with_reducible first|refine A3 ?_|refine A5 fun _=>?_|refine A4 fun _=>?_);try simp(disch:=first|omega|assumption|((repeat(first|exact A1|exact uH|apply A2|apply uT));first|done|fail)|(simp;first|done|omega|fail))[]))
 refine C4 f7 (fun w' _ => B3L w' a l.length c i) ?_
 cases hi : n9 l.length i with
 | false =>
  have hb : flR l i p = false := by unfold flR B3V H8; rw [if_neg (by simp [n9] at hi; simp; omega)]; rfl
  rw [hb]
  (have zz:=trivial;repeat((first|clear zz|with_reducible first|refine A3 ?_|refine A5 fun _=>?_|refine A4 fun _=>?_);try simp(disch:=first|omega|assumption|((repeat(first|exact A1|exact uH|apply A2|apply uT));first|done|fail)|(simp;first|done|omega|fail))[]))
  exact B1 (.slice a l.length c) rfl Sels.nil
 | true =>
  obtain ⟨k, rfl⟩ : ∃ k : Nat, i = k := ⟨i.toNat, by simp [n9] at hi; omega⟩
  have hk : k < l.length := by simp [n9] at hi; exact hi
  have hk' : ¬ l.length ≤ k := by omega
  obtain ⟨b, o, rfl, h0, _⟩ := U7.cell hv hk
  have hgs := C6V hk
  obtain ⟨⟨x1, x2⟩, hlk⟩ : ∃ x, x = l[k] := ⟨_, rfl⟩
  rw [← hlk] at h0 hgs
  cases x1 with
  | no =>
   have hb : flR l k p = false := by unfold flR B3V; rw [hgs]; rfl
   have h0' : w.cell? ⟨b, o + k * 2, none⟩ = some (.int .i64 0) := h0
   rw [hb]
   (have zz:=trivial;repeat((first|clear zz|with_reducible first|refine A3 ?_|refine A5 fun _=>?_|refine A4 fun _=>?_);try simp(disch:=first|omega|assumption|((repeat(first|exact A1|exact uH|apply A2|apply uT));first|done|fail)|(simp;first|done|omega|fail))[h0', hk, hk']))
   exact B1 (.slice none 0 0) rfl Sels.nil
  | rdy q =>
   have hb : flR l k p = false := by unfold flR B3V; rw [hgs]; rfl
   have h0' : w.cell? ⟨b, o + k * 2, none⟩ = some (.int .i64 2) := h0
   rw [hb]
   (have zz:=trivial;repeat((first|clear zz|with_reducible first|refine A3 ?_|refine A5 fun _=>?_|refine A4 fun _=>?_);try simp(disch:=first|omega|assumption|((repeat(first|exact A1|exact uH|apply A2|apply uT));first|done|fail)|(simp;first|done|omega|fail))[h0', hk, hk']))
   exact B1 (.slice none 0 0) rfl Sels.nil
  | bld =>
   have h0' : w.cell? ⟨b, o + k * 2, none⟩ = some (.int .i64 1) := h0
   (have zz:=trivial;repeat((first|clear zz|with_reducible first|refine A3 ?_|refine A5 fun _=>?_|refine A4 fun _=>?_);try simp(disch:=first|omega|assumption|((repeat(first|exact A1|exact uH|apply A2|apply uT));first|done|fail)|(simp;first|done|omega|fail))[h0', hk, hk']))
   refine C4 A3u (fun w' hw' => C0F w' _ p hp (hpv.ks hw'.ks (by simp))) ?_
   by_cases hc : M3 p = 0
   ·have hb : flR l k p = true := by unfold flR B3V; rw [hgs, decide_eq_true hc]; rfl
    have e : y6 l k p (pa, p.length, pc) = l.set k (.rdy p, pa, p.length, pc) := by unfold y6 A3A; rw [hb, if_pos rfl, if_pos (by omega)]; rfl
    rw [hb, e, hc]
    (have zz:=trivial;repeat((first|clear zz|with_reducible first|refine A3 ?_|refine A5 fun _=>?_|refine A4 fun _=>?_);try simp(disch:=first|omega|assumption|((repeat(first|exact A1|exact uH|apply A2|apply uT));first|done|fail)|(simp;first|done|omega|fail))[]))
    refine H3 W4 (fun w' hw' => A8g w' _ l k (.rdy p, pa, p.length, pc) hn hk (hv.ks hw'.ks (by simp))) ?_
    rintro _ r rfl
    (have zz:=trivial;repeat((first|clear zz|with_reducible first|refine A3 ?_|refine A5 fun _=>?_|refine A4 fun _=>?_);try simp(disch:=first|omega|assumption|((repeat(first|exact A1|exact uH|apply A2|apply uT));first|done|fail)|(simp;first|done|omega|fail))[]))
    exact B1 r rfl (Sels.cons Sel.here Sels.nil)
   ·have hb : flR l k p = false := by unfold flR B3V; rw [hgs, decide_eq_false hc]; rfl
    rw [hb]
    (have zz:=trivial;repeat((first|clear zz|with_reducible first|refine A3 ?_|refine A5 fun _=>?_|refine A4 fun _=>?_);try simp(disch:=first|omega|assumption|((repeat(first|exact A1|exact uH|apply A2|apply uT));first|done|fail)|(simp;first|done|omega|fail))[hc]))
    exact B1 (.slice none 0 0) rfl Sels.nil
end Go.Proofs.YtjobgnabneddjaaGreat
namespace Go.Proofs.YtjobgnabneddjaaGreat
open Go
end Go.Proofs.YtjobgnabneddjaaGreat
namespace Go.Proofs.YtjobgnabneddjaaGreat
open Go
def M0 (t : A10) : Value := .agg #[.bool t.1, .bool t.2.1, .bool t.2.2]
end Go.Proofs.YtjobgnabneddjaaGreat
namespace Go.Proofs.YtjobgnabneddjaaGreat
open Go
structure WsOk (x : WS) : Prop where
 wk : 1 ≤ x.c.wk ∧ x.c.wk ≤ 64
 cells : x.cells.length = 2 + x.c.wk.toNat
 own : x.own.length ≤ 16
 sl : x.sl.length ≤ 8
 keep : x.keep.length ≤ 8
def WoH.sk (m : WoH) (ls : List SlH) (keep : List (Int × Int)) : WoH := { m with ls := ls, keep := keep }
end Go.Proofs.YtjobgnabneddjaaGreat
namespace Go.Proofs.YtjobgnabneddjaaGreat
open Go
structure WoD where
 cn : Int
 cells : List Int
 ls : List SlH
 keep : List (Int × Int)
def WoH.up (m : WoH) (d : WoD) : WoH := { m with cn := d.cn, cells := d.cells, ls := d.ls, keep := d.keep }
end Go.Proofs.YtjobgnabneddjaaGreat
namespace Go.Proofs.YtjobgnabneddjaaGreat
open Go
end Go.Proofs.YtjobgnabneddjaaGreat
namespace Go.Proofs.YtjobgnabneddjaaGreat
open Go
end Go.Proofs.YtjobgnabneddjaaGreat
namespace Go.Proofs.YtjobgnabneddjaaGreat
open Go
abbrev Q9 := List (Value × List EnV)
def A3V (a b : Q9) : Prop := ∀ t ∈ a, t ∈ b
theorem A3V.left {a b : Q9} (h : A3V a b) (c : Q9) : A3V a (b ++ c) := fun t ht => List.mem_append_left _ (h t ht)
def B2Q (a b : Q9) (t : List EnV) : Prop := A3V a b ∧ ∀ x ∈ b, x ∈ a ∨ x.2 = t
theorem B2Q.same (a : Q9) (t : List EnV) : B2Q a a t := ⟨fun x hx => hx, fun x hx => Or.inl hx⟩
theorem B2Q.push (a : Q9) (v : Value) (t : List EnV) : B2Q a (a ++ [(v, t)]) t := ⟨fun x hx => List.mem_append_left _ hx, fun x hx => by
 rcases List.mem_append.1 hx with hx | hx
 ·exact Or.inl hx
 ·rw [List.mem_singleton.1 hx]; exact Or.inr rfl⟩
structure TabsOk (m : WoH) (P : Q9) : Prop where
 few : m.ts.length ≤ 1000
 pl : m.pl.length = m.ts.length
 len : ∀ t ∈ m.ts, t.2.length ≤ 1000000
 keys : ∀ t ∈ m.ts, P5 t.2
 own : m.own.length ≤ 1024
 pool : A3V m.ts P
theorem C2Y {α : Type} {f : α → Value} (l : List α) (i : Nat) (x : α) (h : i < l.length) : W6 (l.map f) i [f x] = (l.set i x).map f := by rw [B59 (by simpa using h), List.map_set]
theorem A8l {κ : Bool} {S : List Nat} {w0 : World} {H : List Res} {K0 : WP} {P : Q9} {v : Value} {l : List EnV} (hm : d6 P ∈ H) (ht : (v, l) ∈ P) (h : ∀ a c, v = .slice a l.length c → TW κ S w0 H K0) : TW κ S w0 H K0 := fun w hw => by
 obtain ⟨a, c, e⟩ := N2.form ((hw.hold _ hm : B3Z P w) _ ht)
 exact h a c e w hw
end Go.Proofs.YtjobgnabneddjaaGreat
namespace Go.Proofs.YtjobgnabneddjaaGreat
open Go
end Go.Proofs.YtjobgnabneddjaaGreat
namespace Go.Proofs.YtjobgnabneddjaaGreat
open Go
end Go.Proofs.YtjobgnabneddjaaGreat
namespace Go.Proofs.YtjobgnabneddjaaGreat
open Go
def A1m : Nat → RunV → RunV → Prop
 | 0, r, r' => r = r'
 | k + 1, r, r' => r.j.ready r.x = true ∧ A1m k r.next r'
theorem A1m.trans {r r' r'' : RunV} : ∀ {k m : Nat}, A1m k r r' → A1m m r' r'' → A1m (k + m) r r''
 | 0, m, h, h' => by cases h; simpa using h'
 | k + 1, m, h, h' => by
  rw [show k + 1 + m = k + m + 1 by omega]
  exact ⟨h.1, A1m.trans h.2 h'⟩
theorem A1m.run {r r' : RunV} : ∀ {k : Nat} (f : Nat), A1m k r r' → B1E (k + f) r = B1E f r'
 | 0, f, h => by cases h; simp
 | k + 1, f, h => by
  rw [show k + 1 + f = k + f + 1 by omega, B1E, if_pos h.1]
  exact A1m.run f h.2
theorem C4l {r : RunV} (h : r.j.b.st = -1) : ∀ f, B1E f r = r
 | 0 => rfl
 | f + 1 => by rw [B1E, if_neg (by simp [JV.ready, h])]
theorem A1m.ends {r r' : RunV} {k : Nat} (h : A1m k r r') (hk : k ≤ 200) (he : r'.j.b.st = -1) : B1E 200 r = r' := by
 have := h.run (200 - k)
 rw [show k + (200 - k) = 200 by omega] at this
 rw [this, C4l he]
theorem A1m.one {r : RunV} (h : r.j.ready r.x = true) : A1m 1 r r.next := ⟨h, rfl⟩
def C4D (x : WS) (k : Nat) : List Int := (List.range k).map fun i : Nat => D9 x.cells (F8 x.c (((i : Nat) : Int) + 1))
def A8q (P : List Int) (l : List (Int × Int)) : List (Int × Int) := l.map fun s => if l0 P s then (0, 0) else s
def A8b (P : List Int) (l : List (Int × Int)) (s : List SlV) : List SlV := List.zipWith (fun k s => if l0 P k then .no else s) l s
theorem C79 (P : List Int) : l0 P (0, 0) = false := rfl
end Go.Proofs.YtjobgnabneddjaaGreat
namespace Go.Proofs.YtjobgnabneddjaaGreat
open Go
theorem A6l (l : List SlV) (i : Int) (x : SlV) : (A06 l i x).length = l.length := by unfold A06; split <;> simp
theorem C02 (l : List SlV) (i : Int) (p : List F7) : (A23 l i p).length = l.length := by
 unfold A23; split
 ·split
  ·exact A6l _ _ _
  ·rfl
 ·rfl
theorem C1U (l : List (Int × Int)) (i a : Int) (s : Int × Int) : (B14 l i a s).length = l.length := by unfold B14; split <;> simp
theorem B1n (l : List (Int × Int)) : (A0u l).length = l.length := by unfold A0u; split <;> simp
theorem A0f (l : List Int) (i v : Int) : (K3 l i v).length = l.length := by unfold K3; split <;> simp
theorem A3G (l : List Int) (i v : Int) : D9 (K3 l i v) i = if 0 ≤ i ∧ i < l.length then v else 0 := by
 unfold D9 K3
 by_cases h : 0 ≤ i ∧ i < l.length
 ·rw [if_pos h, if_pos h, if_pos (by rw [List.length_set]; exact h), List.getD_eq_getElem?_getD, List.getElem?_set_self (by omega)]; rfl
 ·rw [if_neg h, if_neg h, if_neg h]
theorem q8 {i k : Int} (l : List Int) (v : Int) (h : i ≠ k) : D9 (K3 l i v) k = D9 l k := by
 unfold D9 K3
 by_cases h1 : 0 ≤ i ∧ i < l.length
 ·rw [if_pos h1, List.length_set]
  by_cases h2 : 0 ≤ k ∧ k < l.length
  ·rw [if_pos h2, if_pos h2, List.getD_eq_getElem?_getD, List.getD_eq_getElem?_getD, List.getElem?_set_ne (by omega)]
  ·rw [if_neg h2, if_neg h2]
 ·rw [if_neg h1]
end Go.Proofs.YtjobgnabneddjaaGreat
namespace Go.Proofs.YtjobgnabneddjaaGreat
open Go
theorem B4c : ∀ A : List Res, Sels A A
 | [] => Sels.nil
 | r :: A => Sels.cons Sel.here (B4c A)
theorem B1Y (B : List Res) : ∀ A : List Res, Part A (A ++ B) B
 | [] => Part.nil
 | r :: A => Part.cons Sel.here (B1Y B A)
end Go.Proofs.YtjobgnabneddjaaGreat
namespace Go.Proofs.YtjobgnabneddjaaGreat
open Go
theorem Fn.frame {f : FuncId} {args : Array Value} {w : World} {α : Type} {φ : α → Value → Prop} {Hn : α → List Res} {Hc Hk : List Res} (h : Fn PR B8 f args w (Rn (B6 Hc) w φ Hn)) (hw : LW false (B6 (Hc ++ Hk)) w (Hc ++ Hk) w) :
  Fn PR B8 f args w (Rn (B6 (Hc ++ Hk)) w φ fun a => Hn a ++ Hk) := h.mono fun v w' ⟨a, h1, h2⟩ => ⟨a, h1, hw.part h2⟩
structure WoAt (w : World) (m : WoH) : Prop where
 b : bl w m.b = some (.cells (D1 m.c (.pointer (some ⟨m.bc, 0, none⟩)) (.pointer (some ⟨m.bs, 0, none⟩)) (.pointer (some ⟨m.bk, 0, none⟩)) m.tv m.pv (.int .i64 m.now)) 39 (0, 0))
 c : bl w m.bc = some (.cells #[.int .i64 m.cn, m.cv, m.ov] 141 (0, 0))
 v : G1 w m.ov m.own.length (E7 m.own)
theorem WoAt.own {κ : Bool} {S : List Nat} {w0 w : World} {H : List Res} {m : WoH} (hw : LW κ S w0 H w) (h : ∀ r ∈ B9 m, r ∈ H) : WoAt w m :=
 ⟨hw.pt (h _ (by unfold B9 C8; (repeat constructor))), hw.pt (h _ (by unfold B9; (repeat constructor))), P7.own (e := 3) (k := 1) (h _ (by unfold B9; (repeat constructor))) w hw⟩
theorem WoAt.ks {w w' : World} {m : WoH} (h : WoAt w m) (hk : KS false [] w w') : WoAt w' m := ⟨hk.2.1 _ _ (by simp) rfl h.b, hk.2.1 _ _ (by simp) rfl h.c, h.v.ks hk (by simp)⟩
end Go.Proofs.YtjobgnabneddjaaGreat
namespace Go.Proofs.YtjobgnabneddjaaGreat
open Go
def Z3 (now d : Int) : Int := if 0 ≤ d ∧ d ≤ 1000000 ∧ now + d ≤ 1000000000 then now + d else now
theorem B6s {now d : Int} (h : 0 ≤ now ∧ now ≤ 1000000000) : 0 ≤ Z3 now d ∧ Z3 now d ≤ 1000000000 := by unfold Z3; split <;> omega
theorem C2s (w : World) (b : Nat) (c : CfgV) (pc ps pk tv pv : Value) (now d : Int) (hn : 0 ≤ now ∧ now ≤ 1000000000) (hw : LW false [b] w [C8 b c pc ps pk tv pv (.int .i64 now)] w) :
  Fn PR B8 100 #[.pointer (some ⟨b, 0, none⟩), .int .i64 d] w (Rn [b] w (fun (_ : Unit) u => u = .tuple #[]) fun _ => [C8 b c pc ps pk tv pv (.int .i64 (Z3 now d))]) := by
 refine A76 (TW.goH (κ := false) (S := [b]) ?_ hw)
 unfold A1K
 simp only [C8, D1]
 by_cases c1 : 0 ≤ d
 case neg =>
  (have zz:=trivial;repeat((first|clear zz|with_reducible first|refine A3 ?_|refine A5 fun _=>?_|refine A4 fun _=>?_);try simp(disch:=first|omega|assumption|((repeat(first|exact A1|exact uH|apply A2|apply uT));first|done|fail)|(simp;first|done|omega|fail))[c1]))
  refine B1 () rfl ?_
  simp only [Z3, if_neg (show ¬ (0 ≤ d ∧ d ≤ 1000000 ∧ now + d ≤ 1000000000) by omega)]
  (repeat' constructor)
 by_cases c2 : d ≤ 1000000
 case neg =>
  have c2' : 1000000 < d := by omega
  (have zz:=trivial;repeat((first|clear zz|with_reducible first|refine A3 ?_|refine A5 fun _=>?_|refine A4 fun _=>?_);try simp(disch:=first|omega|assumption|((repeat(first|exact A1|exact uH|apply A2|apply uT));first|done|fail)|(simp;first|done|omega|fail))[c1, c2, c2']))
  refine B1 () rfl ?_
  simp only [Z3, if_neg (show ¬ (0 ≤ d ∧ d ≤ 1000000 ∧ now + d ≤ 1000000000) by omega)]
  (repeat' constructor)
 have c2' : ¬ 1000000 < d := by omega
 by_cases c3 : now ≤ 1000000000 - d
 case neg =>
  (have zz:=trivial;repeat((first|clear zz|with_reducible first|refine A3 ?_|refine A5 fun _=>?_|refine A4 fun _=>?_);try simp(disch:=first|omega|assumption|((repeat(first|exact A1|exact uH|apply A2|apply uT));first|done|fail)|(simp;first|done|omega|fail))[c1, c2, c2', c3]))
  refine B1 () rfl ?_
  simp only [Z3, if_neg (show ¬ (0 ≤ d ∧ d ≤ 1000000 ∧ now + d ≤ 1000000000) by omega)]
  (repeat' constructor)
 ·(have zz:=trivial;repeat((first|clear zz|with_reducible first|refine A3 ?_|refine A5 fun _=>?_|refine A4 fun _=>?_);try simp(disch:=first|omega|assumption|((repeat(first|exact A1|exact uH|apply A2|apply uT));first|done|fail)|(simp;first|done|omega|fail))[c1, c2, c2', c3]))
  refine B1 () rfl ?_
  simp only [Z3, if_pos (show (0 ≤ d ∧ d ≤ 1000000 ∧ now + d ≤ 1000000000) by omega)]
  (repeat' constructor)
theorem C1B (w : World) (b : Nat) (c : CfgV) (ep cur : Int) (piv lov slv kev tav plv : Value) (now d : Int) (hn : 0 ≤ now ∧ now ≤ 1000000000) (hw : LW false [b] w [U5 b c ep cur piv lov slv kev tav plv now] w) :
  Fn PR B8 101 #[.pointer (some ⟨b, 0, none⟩), .int .i64 d] w (Rn [b] w (fun (_ : Unit) u => u = .tuple #[]) fun _ => [U5 b c ep cur piv lov slv kev tav plv (Z3 now d)]) := by
 refine A1q (TW.goH (κ := false) (S := [b]) ?_ hw)
 unfold f8
 simp only [U5, Y5]
 by_cases c1 : 0 ≤ d
 case neg =>
  (have zz:=trivial;repeat((first|clear zz|with_reducible first|refine A3 ?_|refine A5 fun _=>?_|refine A4 fun _=>?_);try simp(disch:=first|omega|assumption|((repeat(first|exact A1|exact uH|apply A2|apply uT));first|done|fail)|(simp;first|done|omega|fail))[c1]))
  refine B1 () rfl ?_
  simp only [Z3, if_neg (show ¬ (0 ≤ d ∧ d ≤ 1000000 ∧ now + d ≤ 1000000000) by omega)]
  (repeat' constructor)
 by_cases c2 : d ≤ 1000000
 case neg =>
  have c2' : 1000000 < d := by omega
  (have zz:=trivial;repeat((first|clear zz|with_reducible first|refine A3 ?_|refine A5 fun _=>?_|refine A4 fun _=>?_);try simp(disch:=first|omega|assumption|((repeat(first|exact A1|exact uH|apply A2|apply uT));first|done|fail)|(simp;first|done|omega|fail))[c1, c2, c2']))
  refine B1 () rfl ?_
  simp only [Z3, if_neg (show ¬ (0 ≤ d ∧ d ≤ 1000000 ∧ now + d ≤ 1000000000) by omega)]
  (repeat' constructor)
 have c2' : ¬ 1000000 < d := by omega
 by_cases c3 : now + d ≤ 1000000000
 case neg =>
  (have zz:=trivial;repeat((first|clear zz|with_reducible first|refine A3 ?_|refine A5 fun _=>?_|refine A4 fun _=>?_);try simp(disch:=first|omega|assumption|((repeat(first|exact A1|exact uH|apply A2|apply uT));first|done|fail)|(simp;first|done|omega|fail))[c1, c2, c2', c3]))
  refine B1 () rfl ?_
  simp only [Z3, if_neg (show ¬ (0 ≤ d ∧ d ≤ 1000000 ∧ now + d ≤ 1000000000) by omega)]
  (repeat' constructor)
 ·(have zz:=trivial;repeat((first|clear zz|with_reducible first|refine A3 ?_|refine A5 fun _=>?_|refine A4 fun _=>?_);try simp(disch:=first|omega|assumption|((repeat(first|exact A1|exact uH|apply A2|apply uT));first|done|fail)|(simp;first|done|omega|fail))[c1, c2, c2', c3]))
  refine B1 () rfl ?_
  simp only [Z3, if_pos (show (0 ≤ d ∧ d ≤ 1000000 ∧ now + d ≤ 1000000000) by omega)]
  (repeat' constructor)
theorem A8y (w : World) (m : WoH) (hn : m.ts.length ≤ 1000) (ho : m.own.length = m.ts.length) (hm : WoAt w m) (htv : ∃ a c, m.tv = .slice a m.ts.length c) :
  Fn PR B8 56 #[.pointer (some ⟨m.b, 0, none⟩)] w (Rn [] w (fun r u => u = r) fun r => [.own 3 1 r m.own.length (E7 m.own)]) := by
 refine A5p (TW.go (κ := false) (S := []) ?_)
 unfold A0H
 obtain ⟨ta, tc, htv⟩ := htv
 have h5 : w.cell? ⟨m.b, 5, none⟩ = some (.pointer (some ⟨m.bc, 0, none⟩)) := by rw [E1 hm.b]; rfl
 have h8 : w.cell? ⟨m.b, 8, none⟩ = some (.slice ta m.ts.length tc) := by rw [E1 hm.b, ← htv]; rfl
 (have zz:=trivial;repeat((first|clear zz|with_reducible first|refine A3 ?_|refine A5 fun _=>?_|refine A4 fun _=>?_);try simp(disch:=first|omega|assumption|((repeat(first|exact A1|exact uH|apply A2|apply uT));first|done|fail)|(simp;first|done|omega|fail))[h8]))
 refine n4 3 1 ?_
 refine q9 m.own.length (fun i (y : Option Addr × Nat) => .slice y.1 i y.2) (fun i y => [.own 3 1 (.slice y.1 i y.2) i ((E7 m.own).take i)]) (fun _ _ => True) (none, 0) trivial ?_
 rintro i ⟨ya, yc⟩ hi _ L hL
 by_cases hlt : i < m.own.length
 ·have hlt' : ((i : Nat) : Int) < (m.ts.length : Nat) := by omega
  have hlt2 : i < m.ts.length := by omega
  have hst : (E7 m.own).take (i + 1) = (E7 m.own).take i ++ [Value.int .i64 (m.own.getD i 0)] := by
   rw [List.take_add_one, A0T hlt]; rfl
  have how : z8 m.own (i : Nat) = m.own.getD i 0 := by unfold z8; rw [if_pos (by omega), Int.toNat_natCast]
  (have zz:=trivial;repeat((first|clear zz|with_reducible first|refine A3 ?_|refine A5 fun _=>?_|refine A4 fun _=>?_);try simp(disch:=first|omega|assumption|((repeat(first|exact A1|exact uH|apply A2|apply uT));first|done|fail)|(simp;first|done|omega|fail))[hlt', hlt2, h5]))
  refine C4 g6 (fun w' hw' => let g := hm.ks hw'.ks; A9u w' m.bc m.cn m.cv m.ov m.own (i : Nat) g.c g.v) ?_
  rw [how]
  have h := hL hlt
  rw [hst] at h
  generalize m.own.getD i 0 = o at *
  (have zz:=trivial;repeat((first|clear zz|with_reducible first|refine A3 ?_|refine A5 fun _=>?_|refine A4 fun _=>?_|refine D7 fun _=>?_|refine D5 (hK:=fun _=>?_)|refine D3 (hK:=fun _=>?_)|refine D8 (hK:=fun _=>?_)|refine D4 (hK:=fun _=>?_)|refine D6 (hK:=fun _=>?_));try simp(disch:=first|omega|assumption|((repeat(first|exact A1|exact uH|apply A2|apply uT));first|done|fail)|(simp;first|done|omega|fail))[]))
  refine y7 (e := 3) (k := 1) (q := i) (r := 1) (xs := (E7 m.own).take i) (news := [.int .i64 o]) (by (repeat constructor)) (P7.own (by (repeat constructor))) (by decide) (by simp) (by simp) (by simp only [maxLen]; omega) (by omega) fun a' c' => ?_
  (have zz:=trivial;repeat((first|clear zz|with_reducible first|refine A3 ?_|refine A5 fun _=>?_|refine A4 fun _=>?_);try simp(disch:=first|omega|assumption|((repeat(first|exact A1|exact uH|apply A2|apply uT));first|done|fail)|(simp;first|done|omega|fail))[]))
  exact Sels.tw (by (repeat' constructor)) (h (a', c') trivial)
 ·obtain rfl : i = m.own.length := by omega
  have e : (m.own.length : Int) = (m.ts.length : Nat) := by omega
  rw [List.take_of_length_le (by rw [C3M]; omega)]
  (have zz:=trivial;repeat((first|clear zz|with_reducible first|refine A3 ?_|refine A5 fun _=>?_|refine A4 fun _=>?_);try simp(disch:=first|omega|assumption|((repeat(first|exact A1|exact uH|apply A2|apply uT));first|done|fail)|(simp;first|done|omega|fail))[e, Int.lt_irrefl]))
  exact B1 _ rfl (by (repeat' constructor))
end Go.Proofs.YtjobgnabneddjaaGreat
namespace Go.Proofs.YtjobgnabneddjaaGreat
open Go
structure ActV where
 k : Int
 n : Int
 pool : List F7
 pa : Option Addr
 pc : Nat
def ActV.pv (a : ActV) : Value := .slice a.pa a.pool.length a.pc
def ActV.val (a : ActV) : Value := .agg #[.int .i64 a.k, .int .i64 a.n, a.pv]
structure WoG where
 cn : Int
 cells : List Int
 own : List Int
 tv : Value
 pv : Value
 ls : List SlH
 keep : List (Int × Int)
 ts : List (Value × List EnV)
 pl : List Nat
 now : Int
def WoH.ug (m : WoH) (d : WoG) : WoH := { m with cn := d.cn, cells := d.cells, own := d.own, tv := d.tv, pv := d.pv, ls := d.ls, keep := d.keep, ts := d.ts, pl := d.pl, now := d.now }
def WoH.dg (m : WoH) : WoG := ⟨m.cn, m.cells, m.own, m.tv, m.pv, m.ls, m.keep, m.ts, m.pl, m.now⟩
structure XS where
 c : CfgV
 ep : Int
 cur : Int
 pins : List Int
 locks : List Int
 sl : List U7
 keep : List (Int × Int)
 tabs : List (List EnV)
 pl : List Nat
 now : Int
def XH.xs (x : XH) : XS := ⟨x.c, x.ep, x.cur, x.pins, x.locks, x.sl, x.keep, x.ts.map (·.2), x.pl, x.now⟩
def Q8 (a : ActV) (x : WS) (y : XS) : WS :=
 if a.k = 1 then { x with cells := K3 x.cells 0 (IntKind.i64.wrap (D9 x.cells 0 + 1)) }
 else if a.k = 2 then if (0 ≤ a.n ∧ a.n < y.c.sh) ∧ y.locks.getD a.n.toNat 0 < 0 then { x with own := j5 x.own a.n 99 } else x
 else if a.k = 3 then if (0 ≤ a.n ∧ a.n < y.c.sh) ∧ y.locks.getD a.n.toNat 0 = 99 then { x with own := Q5 x.own a.n 99 } else x
 else if a.k = 4 then { x with sl := A23 (A06 x.sl a.n .bld) a.n a.pool }
 else if a.k = 5 then { x with sl := A06 x.sl a.n .no }
 else if a.k = 6 then if -1 ≤ a.n ∧ a.n < y.c.sl then { x with cells := K3 x.cells 1 (a.n + 1) } else x
 else if a.k = 7 then { x with now := Z3 x.now a.n }
 else x
def N9 (a : ActV) (y : XS) : XS :=
 if a.k = 1 then { y with ep := y.ep + 1 }
 else if a.k = 2 then if (0 ≤ a.n ∧ a.n < y.c.sh) ∧ y.locks.getD a.n.toNat 0 < 0 then { y with locks := y.locks.set a.n.toNat 99 } else y
 else if a.k = 3 then if (0 ≤ a.n ∧ a.n < y.c.sh) ∧ y.locks.getD a.n.toNat 0 = 99 then { y with locks := y.locks.set a.n.toNat (-1) } else y
 else if a.k = 4 then { y with sl := if n9 y.sl.length a.n then y6 (S1 y.sl a.n) a.n a.pool (a.pa, a.pool.length, a.pc) else y.sl }
 else if a.k = 5 then { y with sl := l7 y.sl a.n }
 else if a.k = 6 then if -1 ≤ a.n ∧ a.n < y.c.sl then { y with cur := a.n + 1 } else y
 else if a.k = 7 then { y with now := Z3 y.now a.n }
 else y
structure HapOk (m : WoH) (x : XH) (a : ActV) : Prop where
 cells : 2 ≤ m.cells.length ∧ m.cells.length ≤ 1024
 own : m.own.length ≤ 1024
 ls : m.ls.length ≤ 8
 now : 0 ≤ m.now ∧ m.now ≤ 1000000000
 xnow : 0 ≤ x.now ∧ x.now ≤ 1000000000
 locks : x.locks.length = x.c.sh
 sh : x.c.sh ≤ 16
 csl : x.c.sl ≤ 8
 sl : x.sl.length ≤ 8
 ep : 0 ≤ x.ep ∧ x.ep ≤ 1000000
 pool : a.pool.length ≤ 1000
theorem B7x {S : List Nat} {w0 w' : World} {Hc Hk : List Res} {P : World → Prop} (h : ∀ w1, KS false S w0 w1 → P w1) (hw' : LW false S w0 (Hc ++ Hk) w') : ∀ w'', KS false (B6 Hc) w' w'' → P w'' := fun w'' hk => by
 refine h _ (hw'.ks.then hk fun x hx => ?_)
 obtain ⟨r, hr, hxr⟩ := N0.1 hx
 exact (hw'.own r (List.mem_append_left _ hr) x hxr).1
def D18 (m : WoH) (x : XH) (a : ActV) (y : WoG × XH) : Prop := (m.ug y.1).ws = Q8 a m.ws x.xs ∧ y.2.b = x.b ∧ y.2.xs = N9 a x.xs ∧ y.1.ts = m.ts ∧ y.2.ts = x.ts
set_option maxHeartbeats 2000000 in
theorem C00 (w : World) (m : WoH) (x : XH) (a : ActV) (h : HapOk m x a) (hv : ∀ w', KS false (B6 (B9 m ++ K9 x)) w w' → G1 w' a.pv a.pool.length (a.pool.flatMap H0)) (hw : LW false (B6 (B9 m ++ K9 x)) w (B9 m ++ K9 x) w) :
  Fn PR B8 44 #[.pointer (some ⟨m.b, 0, none⟩), .pointer (some ⟨x.b, 0, none⟩), a.val] w (Rn (B6 (B9 m ++ K9 x)) w (fun (y : WoG × XH) u => u = .tuple #[] ∧ D18 m x a y) fun y => B9 (m.ug y.1) ++ K9 y.2) := by
 refine A3q (TW.goH (κ := false) ?_ hw)
 unfold p7
 obtain ⟨hcl, how, hls, hnow, hxnow, hlo, hsh, hcsl, hsl, hep, hpl⟩ := h
 obtain ⟨k, n, p, pa, pc⟩ := a
 simp only [ActV.pv] at hv
 simp only at hpl
 generalize hS : B6 (B9 m ++ K9 x) = S at *
 simp only [B9, K9, C8, D1, U5, Y5, ActV.val, ActV.pv, List.cons_append, List.nil_append]
 (have zz:=trivial;repeat((first|clear zz|with_reducible first|refine A3 ?_|refine A5 fun _=>?_|refine A4 fun _=>?_);try simp(disch:=first|omega|assumption|((repeat(first|exact A1|exact uH|apply A2|apply uT));first|done|fail)|(simp;first|done|omega|fail))[]))
 rename_i ba
 by_cases k1 : k = 1
 ·subst k1
  (have zz:=trivial;repeat((first|clear zz|with_reducible first|refine A3 ?_|refine A5 fun _=>?_|refine A4 fun _=>?_);try simp(disch:=first|omega|assumption|((repeat(first|exact A1|exact uH|apply A2|apply uT));first|done|fail)|(simp;first|done|omega|fail))[]))
  refine C7 (Hc := D0 m.bc m.cn m.cv m.ov m.cells m.own) A79 (fun w' _ hs => C4y w' m.bc m.cn m.cv m.ov m.cells m.own 0 1 hcl.2 (by omega) hs) (by unfold D0; (repeat' constructor)) ?_
  rintro n1 v rfl
  simp only [D0, List.cons_append, List.nil_append]
  (have zz:=trivial;repeat((first|clear zz|with_reducible first|refine A3 ?_|refine A5 fun _=>?_|refine A4 fun _=>?_);try simp(disch:=first|omega|assumption|((repeat(first|exact A1|exact uH|apply A2|apply uT));first|done|fail)|(simp;first|done|omega|fail))[]))
  refine B1 ({ m.dg with cn := n1, cells := K3 m.cells 0 (IntKind.i64.wrap (D9 m.cells 0 + 1)) }, { x with ep := x.ep + 1 }) ⟨rfl, rfl, rfl, rfl, rfl, rfl⟩ ?_
  simp only [B9, K9, C8, D1, U5, Y5, WoH.ug, WoH.dg, List.cons_append, List.nil_append]
  (repeat' constructor)
 by_cases k2 : k = 2
 ·subst k2
  by_cases g1 : 0 ≤ n
  case neg =>
   (have zz:=trivial;repeat((first|clear zz|with_reducible first|refine A3 ?_|refine A5 fun _=>?_|refine A4 fun _=>?_);try simp(disch:=first|omega|assumption|((repeat(first|exact A1|exact uH|apply A2|apply uT));first|done|fail)|(simp;first|done|omega|fail))[g1]))
   refine B1 (m.dg, x) ⟨rfl, by unfold Q8; simp [g1]; rfl, rfl, by unfold N9; simp [g1], rfl, rfl⟩ ?_
   simp only [B9, K9, C8, D1, U5, Y5, WoH.ug, WoH.dg, List.cons_append, List.nil_append]
   (repeat' constructor)
  by_cases g2 : n < x.c.sh
  case neg =>
   (have zz:=trivial;repeat((first|clear zz|with_reducible first|refine A3 ?_|refine A5 fun _=>?_|refine A4 fun _=>?_);try simp(disch:=first|omega|assumption|((repeat(first|exact A1|exact uH|apply A2|apply uT));first|done|fail)|(simp;first|done|omega|fail))[g1, g2]))
   refine B1 (m.dg, x) ⟨rfl, by unfold Q8; simp [XH.xs, g2]; rfl, rfl, by unfold N9; simp [XH.xs, g2], rfl, rfl⟩ ?_
   simp only [B9, K9, C8, D1, U5, Y5, WoH.ug, WoH.dg, List.cons_append, List.nil_append]
   (repeat' constructor)
  obtain ⟨i, rfl⟩ : ∃ i : Nat, n = i := ⟨n.toNat, by omega⟩
  have hi : i < x.locks.length := by omega
  have hi' : ¬ x.locks.length ≤ i := by omega
  have hg := A0T hi
  refine y9 (e := 3) (k := 1) (v := x.lov) (q := x.locks.length) (xs := E7 x.locks) (by (repeat constructor)) (by omega) fun g gc hgl => ?_
  rw [hgl]
  obtain ⟨z, hz⟩ : ∃ z, z = x.locks.getD i 0 := ⟨_, rfl⟩
  rw [← hz] at hg
  have hgg := (List.getElem?_eq_some_iff.1 hg).2
  by_cases g3 : z < 0
  case neg =>
   (have zz:=trivial;repeat((first|clear zz|with_reducible first|refine A3 ?_|refine A5 fun _=>?_|refine A4 fun _=>?_);try simp(disch:=first|omega|assumption|((repeat(first|exact A1|exact uH|apply A2|apply uT));first|done|fail)|(simp;first|done|omega|fail))[g1, g2, g3, hg, hgg, hi, hi']))
   refine B1 (m.dg, { x with lov := .slice (some ⟨g, 0, none⟩) x.locks.length gc }) ⟨rfl, ?_, rfl, ?_, rfl, rfl⟩ ?_
   ·unfold Q8; simp only [XH.xs, Int.toNat_natCast, ← hz]; simp [g3]; rfl
   ·unfold N9; simp only [XH.xs, Int.toNat_natCast, ← hz]; simp [g3]
   simp only [B9, K9, C8, D1, U5, Y5, WoH.ug, WoH.dg, List.cons_append, List.nil_append]
   (repeat' constructor)
  (have zz:=trivial;repeat((first|clear zz|with_reducible first|refine A3 ?_|refine A5 fun _=>?_|refine A4 fun _=>?_);try simp(disch:=first|omega|assumption|((repeat(first|exact A1|exact uH|apply A2|apply uT));first|done|fail)|(simp;first|done|omega|fail))[g1, g2, g3, hg, hgg, hi, hi']))
  refine C7 (Hc := D0 m.bc m.cn m.cv m.ov m.cells m.own) A0v (fun w' _ hs => B5v w' m.bc m.cn m.cv m.ov m.cells m.own (i : Nat) 99 how hs) (by unfold D0; (repeat' constructor)) ?_
  rintro n1 v ⟨r, rfl⟩
  simp only [D0, List.cons_append, List.nil_append]
  (have zz:=trivial;repeat((first|clear zz|with_reducible first|refine A3 ?_|refine A5 fun _=>?_|refine A4 fun _=>?_);try simp(disch:=first|omega|assumption|((repeat(first|exact A1|exact uH|apply A2|apply uT));first|done|fail)|(simp;first|done|omega|fail))[g1, hi, hi']))
  refine T5 (by (repeat constructor)) (by simp) (by simp; omega) (by simp) ?_
  have e : W6 (E7 x.locks) i (Value.int .i64 (99)).cells.toList = E7 (x.locks.set i (99)) := A1n hi _
  rw [e]
  refine B1 ({ m.dg with cn := n1, own := j5 m.own (i : Nat) 99 }, { x with lov := .slice (some ⟨g, 0, none⟩) x.locks.length gc, locks := x.locks.set i (99) }) ⟨rfl, ?_, rfl, ?_, rfl, rfl⟩ ?_
  ·unfold Q8; simp only [XH.xs, Int.toNat_natCast, ← hz]; simp [g2, g3]; rfl
  ·unfold N9; simp only [XH.xs, Int.toNat_natCast, ← hz]; simp [g2, g3]
  simp only [B9, K9, C8, D1, U5, Y5, WoH.ug, WoH.dg, List.cons_append, List.nil_append, List.length_set]
  (repeat' constructor)
 by_cases k3 : k = 3
 ·subst k3
  by_cases g1 : 0 ≤ n
  case neg =>
   (have zz:=trivial;repeat((first|clear zz|with_reducible first|refine A3 ?_|refine A5 fun _=>?_|refine A4 fun _=>?_);try simp(disch:=first|omega|assumption|((repeat(first|exact A1|exact uH|apply A2|apply uT));first|done|fail)|(simp;first|done|omega|fail))[g1]))
   refine B1 (m.dg, x) ⟨rfl, by unfold Q8; simp [g1]; rfl, rfl, by unfold N9; simp [g1], rfl, rfl⟩ ?_
   simp only [B9, K9, C8, D1, U5, Y5, WoH.ug, WoH.dg, List.cons_append, List.nil_append]
   (repeat' constructor)
  by_cases g2 : n < x.c.sh
  case neg =>
   (have zz:=trivial;repeat((first|clear zz|with_reducible first|refine A3 ?_|refine A5 fun _=>?_|refine A4 fun _=>?_);try simp(disch:=first|omega|assumption|((repeat(first|exact A1|exact uH|apply A2|apply uT));first|done|fail)|(simp;first|done|omega|fail))[g1, g2]))
   refine B1 (m.dg, x) ⟨rfl, by unfold Q8; simp [XH.xs, g2]; rfl, rfl, by unfold N9; simp [XH.xs, g2], rfl, rfl⟩ ?_
   simp only [B9, K9, C8, D1, U5, Y5, WoH.ug, WoH.dg, List.cons_append, List.nil_append]
   (repeat' constructor)
  obtain ⟨i, rfl⟩ : ∃ i : Nat, n = i := ⟨n.toNat, by omega⟩
  have hi : i < x.locks.length := by omega
  have hi' : ¬ x.locks.length ≤ i := by omega
  have hg := A0T hi
  refine y9 (e := 3) (k := 1) (v := x.lov) (q := x.locks.length) (xs := E7 x.locks) (by (repeat constructor)) (by omega) fun g gc hgl => ?_
  rw [hgl]
  obtain ⟨z, hz⟩ : ∃ z, z = x.locks.getD i 0 := ⟨_, rfl⟩
  rw [← hz] at hg
  have hgg := (List.getElem?_eq_some_iff.1 hg).2
  by_cases g3 : z = 99
  case neg =>
   (have zz:=trivial;repeat((first|clear zz|with_reducible first|refine A3 ?_|refine A5 fun _=>?_|refine A4 fun _=>?_);try simp(disch:=first|omega|assumption|((repeat(first|exact A1|exact uH|apply A2|apply uT));first|done|fail)|(simp;first|done|omega|fail))[g1, g2, g3, hg, hgg, hi, hi']))
   refine B1 (m.dg, { x with lov := .slice (some ⟨g, 0, none⟩) x.locks.length gc }) ⟨rfl, ?_, rfl, ?_, rfl, rfl⟩ ?_
   ·unfold Q8; simp only [XH.xs, Int.toNat_natCast, ← hz]; simp [g3]; rfl
   ·unfold N9; simp only [XH.xs, Int.toNat_natCast, ← hz]; simp [g3]
   simp only [B9, K9, C8, D1, U5, Y5, WoH.ug, WoH.dg, List.cons_append, List.nil_append]
   (repeat' constructor)
  (have zz:=trivial;repeat((first|clear zz|with_reducible first|refine A3 ?_|refine A5 fun _=>?_|refine A4 fun _=>?_);try simp(disch:=first|omega|assumption|((repeat(first|exact A1|exact uH|apply A2|apply uT));first|done|fail)|(simp;first|done|omega|fail))[g1, g2, g3, hg, hgg, hi, hi']))
  refine C7 (Hc := D0 m.bc m.cn m.cv m.ov m.cells m.own) x7 (fun w' _ hs => B23 w' m.bc m.cn m.cv m.ov m.cells m.own (i : Nat) 99 how hs) (by unfold D0; (repeat' constructor)) ?_
  rintro n1 v ⟨r, rfl⟩
  simp only [D0, List.cons_append, List.nil_append]
  (have zz:=trivial;repeat((first|clear zz|with_reducible first|refine A3 ?_|refine A5 fun _=>?_|refine A4 fun _=>?_);try simp(disch:=first|omega|assumption|((repeat(first|exact A1|exact uH|apply A2|apply uT));first|done|fail)|(simp;first|done|omega|fail))[g1, hi, hi']))
  refine T5 (by (repeat constructor)) (by simp) (by simp; omega) (by simp) ?_
  have e : W6 (E7 x.locks) i (Value.int .i64 (-1)).cells.toList = E7 (x.locks.set i (-1)) := A1n hi _
  rw [e]
  refine B1 ({ m.dg with cn := n1, own := Q5 m.own (i : Nat) 99 }, { x with lov := .slice (some ⟨g, 0, none⟩) x.locks.length gc, locks := x.locks.set i (-1) }) ⟨rfl, ?_, rfl, ?_, rfl, rfl⟩ ?_
  ·unfold Q8; simp only [XH.xs, Int.toNat_natCast, ← hz]; simp [g2, g3]; rfl
  ·unfold N9; simp only [XH.xs, Int.toNat_natCast, ← hz]; simp [g2, g3]
  simp only [B9, K9, C8, D1, U5, Y5, WoH.ug, WoH.dg, List.cons_append, List.nil_append, List.length_set]
  (repeat' constructor)
 by_cases k4 : k = 4
 ·subst k4
  (have zz:=trivial;repeat((first|clear zz|with_reducible first|refine A3 ?_|refine A5 fun _=>?_|refine A4 fun _=>?_);try simp(disch:=first|omega|assumption|((repeat(first|exact A1|exact uH|apply A2|apply uT));first|done|fail)|(simp;first|done|omega|fail))[]))
  refine C7 (Hc := G2 m.bs m.sv m.ls) A6Y (fun w' _ hs => C11 w' m.bs m.sv m.ls n hls hs) (by unfold G2; (repeat' constructor)) ?_
  rintro _ v hv'
  simp only [G2, List.cons_append, List.nil_append]
  (have zz:=trivial;repeat((first|clear zz|with_reducible first|refine A3 ?_|refine A5 fun _=>?_|refine A4 fun _=>?_);try simp(disch:=first|omega|assumption|((repeat(first|exact A1|exact uH|apply A2|apply uT));first|done|fail)|(simp;first|done|omega|fail))[]))
  refine C7 (Hc := G2 m.bs m.sv (S3 m.ls n .bld)) A7b (fun w' hw' hs => C24 w' m.bs m.sv (S3 m.ls n .bld) n (.slice pa p.length pc) p (by rw [B1k]; exact hls) hpl (B7x hv hw') hs) (by unfold G2; (repeat' constructor)) ?_
  rintro ls2 v2 ⟨hv2, hl2, hsp⟩
  rw [B0E] at hsp
  simp only [G2, List.cons_append, List.nil_append]
  (have zz:=trivial;repeat((first|clear zz|with_reducible first|refine A3 ?_|refine A5 fun _=>?_|refine A4 fun _=>?_);try simp(disch:=first|omega|assumption|((repeat(first|exact A1|exact uH|apply A2|apply uT));first|done|fail)|(simp;first|done|omega|fail))[]))
  refine H3 A3T (fun w' hw' => B9W w' x.slv x.sl n hsl (P7.own (e := 270) (k := 2) (by (repeat constructor)) w' hw')) ?_
  rintro r1 v3 rfl
  cases hi : n9 x.sl.length n with
  | false =>
   (have zz:=trivial;repeat((first|clear zz|with_reducible first|refine A3 ?_|refine A5 fun _=>?_|refine A4 fun _=>?_);try simp(disch:=first|omega|assumption|((repeat(first|exact A1|exact uH|apply A2|apply uT));first|done|fail)|(simp;first|done|omega|fail))[]))
   refine B1 ({ m.dg with ls := ls2 }, x) ⟨rfl, ?_, rfl, ?_, rfl, rfl⟩ ?_
   ·unfold Q8; simp [WoH.ws, WoH.ug, WoH.dg, hsp]; rfl
   ·unfold N9; simp [XH.xs, hi]
   simp only [B9, K9, C8, D1, U5, Y5, WoH.ug, WoH.dg, List.cons_append, List.nil_append]
   (repeat' constructor)
  | true =>
   simp only [if_true]
   have hbl : (S1 x.sl n).length = x.sl.length := A4S _ _ _
   refine P6 (e := 270) (k := 2) (v := r1) (q := (S1 x.sl n).length) (xs := (S1 x.sl n).flatMap V0) (by (repeat constructor)) fun sa sc hu => ?_
   subst hu
   (have zz:=trivial;repeat((first|clear zz|with_reducible first|refine A3 ?_|refine A5 fun _=>?_|refine A4 fun _=>?_);try simp(disch:=first|omega|assumption|((repeat(first|exact A1|exact uH|apply A2|apply uT));first|done|fail)|(simp;first|done|omega|fail))[]))
   refine H3 A4K (fun w' hw' => C0M w' (.slice sa (S1 x.sl n).length sc) (S1 x.sl n) n p pa pc (by omega) (by omega) (P7.own (e := 270) (k := 2) (by (repeat constructor)) w' hw') (hv w' hw'.ks)) ?_
   rintro r2 v4 rfl
   cases hfl : flR (S1 x.sl n) n p with
   | false =>
    (have zz:=trivial;repeat((first|clear zz|with_reducible first|refine A3 ?_|refine A5 fun _=>?_|refine A4 fun _=>?_);try simp(disch:=first|omega|assumption|((repeat(first|exact A1|exact uH|apply A2|apply uT));first|done|fail)|(simp;first|done|omega|fail))[]))
    refine B1 ({ m.dg with ls := ls2 }, { x with slv := .slice sa (S1 x.sl n).length sc, sl := S1 x.sl n }) ⟨rfl, ?_, rfl, ?_, rfl, rfl⟩ ?_
    ·unfold Q8; simp [WoH.ws, WoH.ug, WoH.dg, hsp]; rfl
    ·unfold N9; simp [XH.xs, hi, y6, hfl]
    simp only [B9, K9, C8, D1, U5, Y5, WoH.ug, WoH.dg, List.cons_append, List.nil_append]
    (repeat' constructor)
   | true =>
    simp only [if_true]
    refine P6 (e := 270) (k := 2) (v := r2) (q := (y6 (S1 x.sl n) n p (pa, p.length, pc)).length) (xs := (y6 (S1 x.sl n) n p (pa, p.length, pc)).flatMap V0) (by (repeat constructor)) fun ra rc hu => ?_
    subst hu
    (have zz:=trivial;repeat((first|clear zz|with_reducible first|refine A3 ?_|refine A5 fun _=>?_|refine A4 fun _=>?_);try simp(disch:=first|omega|assumption|((repeat(first|exact A1|exact uH|apply A2|apply uT));first|done|fail)|(simp;first|done|omega|fail))[]))
    refine B1 ({ m.dg with ls := ls2 }, { x with slv := .slice ra (y6 (S1 x.sl n) n p (pa, p.length, pc)).length rc, sl := y6 (S1 x.sl n) n p (pa, p.length, pc) }) ⟨rfl, ?_, rfl, ?_, rfl, rfl⟩ ?_
    ·unfold Q8; simp [WoH.ws, WoH.ug, WoH.dg, hsp]; rfl
    ·unfold N9; simp [XH.xs, hi]
    simp only [B9, K9, C8, D1, U5, Y5, WoH.ug, WoH.dg, List.cons_append, List.nil_append]
    (repeat' constructor)
 by_cases k5 : k = 5
 ·subst k5
  (have zz:=trivial;repeat((first|clear zz|with_reducible first|refine A3 ?_|refine A5 fun _=>?_|refine A4 fun _=>?_);try simp(disch:=first|omega|assumption|((repeat(first|exact A1|exact uH|apply A2|apply uT));first|done|fail)|(simp;first|done|omega|fail))[]))
  refine C7 (Hc := G2 m.bs m.sv m.ls) A6L (fun w' _ hs => C0W w' m.bs m.sv m.ls n hls hs) (by unfold G2; (repeat' constructor)) ?_
  rintro _ v hv'
  simp only [G2, List.cons_append, List.nil_append]
  (have zz:=trivial;repeat((first|clear zz|with_reducible first|refine A3 ?_|refine A5 fun _=>?_|refine A4 fun _=>?_);try simp(disch:=first|omega|assumption|((repeat(first|exact A1|exact uH|apply A2|apply uT));first|done|fail)|(simp;first|done|omega|fail))[]))
  refine H3 A3z (fun w' hw' => B9e w' x.slv x.sl n hsl (P7.own (e := 270) (k := 2) (by (repeat constructor)) w' hw')) ?_
  rintro r1 v3 rfl
  cases hi : n9 x.sl.length n with
  | false =>
   refine P6 (e := 270) (k := 2) (v := x.slv) (q := x.sl.length) (xs := x.sl.flatMap V0) (by (repeat constructor)) fun sa sc hu => ?_
   rw [hu]
   (have zz:=trivial;repeat((first|clear zz|with_reducible first|refine A3 ?_|refine A5 fun _=>?_|refine A4 fun _=>?_);try simp(disch:=first|omega|assumption|((repeat(first|exact A1|exact uH|apply A2|apply uT));first|done|fail)|(simp;first|done|omega|fail))[]))
   refine B1 ({ m.dg with ls := S3 m.ls n .no }, { x with slv := .slice sa x.sl.length sc }) ⟨rfl, ?_, rfl, ?_, rfl, rfl⟩ ?_
   ·unfold Q8; simp [WoH.ws, WoH.ug, WoH.dg, B0E]; rfl
   ·have e : l7 x.sl n = x.sl := by unfold l7 A3A; simp [n9] at hi; rw [if_neg (by omega)]
    unfold N9; simp [XH.xs, e]
   simp only [B9, K9, C8, D1, U5, Y5, WoH.ug, WoH.dg, List.cons_append, List.nil_append]
   (repeat' constructor)
  | true =>
   simp only [if_true]
   refine P6 (e := 270) (k := 2) (v := r1) (q := (l7 x.sl n).length) (xs := (l7 x.sl n).flatMap V0) (by (repeat constructor)) fun sa sc hu => ?_
   subst hu
   (have zz:=trivial;repeat((first|clear zz|with_reducible first|refine A3 ?_|refine A5 fun _=>?_|refine A4 fun _=>?_);try simp(disch:=first|omega|assumption|((repeat(first|exact A1|exact uH|apply A2|apply uT));first|done|fail)|(simp;first|done|omega|fail))[]))
   refine B1 ({ m.dg with ls := S3 m.ls n .no }, { x with slv := .slice sa (l7 x.sl n).length sc, sl := l7 x.sl n }) ⟨rfl, ?_, rfl, ?_, rfl, rfl⟩ ?_
   ·unfold Q8; simp [WoH.ws, WoH.ug, WoH.dg, B0E]; rfl
   ·unfold N9; simp [XH.xs]
   simp only [B9, K9, C8, D1, U5, Y5, WoH.ug, WoH.dg, List.cons_append, List.nil_append]
   (repeat' constructor)
 by_cases k6 : k = 6
 ·subst k6
  by_cases g1 : -1 ≤ n
  case neg =>
   (have zz:=trivial;repeat((first|clear zz|with_reducible first|refine A3 ?_|refine A5 fun _=>?_|refine A4 fun _=>?_);try simp(disch:=first|omega|assumption|((repeat(first|exact A1|exact uH|apply A2|apply uT));first|done|fail)|(simp;first|done|omega|fail))[g1]))
   refine B1 (m.dg, x) ⟨rfl, by unfold Q8; simp [g1]; rfl, rfl, by unfold N9; simp [g1], rfl, rfl⟩ ?_
   simp only [B9, K9, C8, D1, U5, Y5, WoH.ug, WoH.dg, List.cons_append, List.nil_append]
   (repeat' constructor)
  by_cases g2 : n < x.c.sl
  case neg =>
   (have zz:=trivial;repeat((first|clear zz|with_reducible first|refine A3 ?_|refine A5 fun _=>?_|refine A4 fun _=>?_);try simp(disch:=first|omega|assumption|((repeat(first|exact A1|exact uH|apply A2|apply uT));first|done|fail)|(simp;first|done|omega|fail))[g1, g2]))
   refine B1 (m.dg, x) ⟨rfl, by unfold Q8; simp [XH.xs, g2]; rfl, rfl, by unfold N9; simp [XH.xs, g2], rfl, rfl⟩ ?_
   simp only [B9, K9, C8, D1, U5, Y5, WoH.ug, WoH.dg, List.cons_append, List.nil_append]
   (repeat' constructor)
  (have zz:=trivial;repeat((first|clear zz|with_reducible first|refine A3 ?_|refine A5 fun _=>?_|refine A4 fun _=>?_);try simp(disch:=first|omega|assumption|((repeat(first|exact A1|exact uH|apply A2|apply uT));first|done|fail)|(simp;first|done|omega|fail))[g1, g2]))
  refine C7 (Hc := D0 m.bc m.cn m.cv m.ov m.cells m.own) j0 (fun w' _ hs => A9H w' m.bc m.cn m.cv m.ov m.cells m.own 1 (n + 1) hcl.2 hs) (by unfold D0; (repeat' constructor)) ?_
  rintro n1 v rfl
  simp only [D0, List.cons_append, List.nil_append]
  (have zz:=trivial;repeat((first|clear zz|with_reducible first|refine A3 ?_|refine A5 fun _=>?_|refine A4 fun _=>?_);try simp(disch:=first|omega|assumption|((repeat(first|exact A1|exact uH|apply A2|apply uT));first|done|fail)|(simp;first|done|omega|fail))[]))
  refine B1 ({ m.dg with cn := n1, cells := K3 m.cells 1 (n + 1) }, { x with cur := n + 1 }) ⟨rfl, ?_, rfl, ?_, rfl, rfl⟩ ?_
  ·unfold Q8; simp [XH.xs, g1, g2]; rfl
  ·unfold N9; simp [XH.xs, g1, g2]
  simp only [B9, K9, C8, D1, U5, Y5, WoH.ug, WoH.dg, List.cons_append, List.nil_append]
  (repeat' constructor)
 by_cases k7 : k = 7
 ·subst k7
  (have zz:=trivial;repeat((first|clear zz|with_reducible first|refine A3 ?_|refine A5 fun _=>?_|refine A4 fun _=>?_);try simp(disch:=first|omega|assumption|((repeat(first|exact A1|exact uH|apply A2|apply uT));first|done|fail)|(simp;first|done|omega|fail))[]))
  refine C7 (Hc := [C8 m.b m.c (.pointer (some ⟨m.bc, 0, none⟩)) (.pointer (some ⟨m.bs, 0, none⟩)) (.pointer (some ⟨m.bk, 0, none⟩)) m.tv m.pv (.int .i64 m.now)]) A6f (fun w' _ hs => C2s w' m.b m.c _ _ _ m.tv m.pv m.now n hnow hs) (by unfold C8 D1; (repeat' constructor)) ?_
  rintro _ v rfl
  simp only [C8, D1, List.cons_append, List.nil_append]
  (have zz:=trivial;repeat((first|clear zz|with_reducible first|refine A3 ?_|refine A5 fun _=>?_|refine A4 fun _=>?_);try simp(disch:=first|omega|assumption|((repeat(first|exact A1|exact uH|apply A2|apply uT));first|done|fail)|(simp;first|done|omega|fail))[]))
  refine C7 (Hc := [U5 x.b x.c x.ep x.cur x.piv x.lov x.slv x.kev x.tav x.plv x.now]) A1E (fun w' _ hs => C1B w' x.b x.c x.ep x.cur x.piv x.lov x.slv x.kev x.tav x.plv x.now n hxnow hs) (by unfold U5 Y5; (repeat' constructor)) ?_
  rintro _ v rfl
  simp only [U5, Y5, List.cons_append, List.nil_append]
  (have zz:=trivial;repeat((first|clear zz|with_reducible first|refine A3 ?_|refine A5 fun _=>?_|refine A4 fun _=>?_);try simp(disch:=first|omega|assumption|((repeat(first|exact A1|exact uH|apply A2|apply uT));first|done|fail)|(simp;first|done|omega|fail))[]))
  refine B1 ({ m.dg with now := Z3 m.now n }, { x with now := Z3 x.now n }) ⟨rfl, ?_, rfl, ?_, rfl, rfl⟩ ?_
  ·unfold Q8; simp; rfl
  ·unfold N9; simp [XH.xs]
  simp only [B9, K9, C8, D1, U5, Y5, WoH.ug, WoH.dg, List.cons_append, List.nil_append]
  (repeat' constructor)
 ·(have zz:=trivial;repeat((first|clear zz|with_reducible first|refine A3 ?_|refine A5 fun _=>?_|refine A4 fun _=>?_);try simp(disch:=first|omega|assumption|((repeat(first|exact A1|exact uH|apply A2|apply uT));first|done|fail)|(simp;first|done|omega|fail))[k1, k2, k3, k4, k5, k6, k7]))
  refine B1 (m.dg, x) ⟨rfl, by unfold Q8; simp [k1, k2, k3, k4, k5, k6, k7]; rfl, rfl, by unfold N9; simp [k1, k2, k3, k4, k5, k6, k7], rfl, rfl⟩ ?_
  simp only [B9, K9, C8, D1, U5, Y5, WoH.ug, WoH.dg, List.cons_append, List.nil_append]
  (repeat' constructor)
end Go.Proofs.YtjobgnabneddjaaGreat
namespace Go.Proofs.YtjobgnabneddjaaGreat
open Go
def A3c (a : ActV) : List Value := [.int .i64 a.k, .int .i64 a.n, a.pv]
def A0p (l : List ActV) : Bool := decide (l.length ≤ 40) && l.all fun a => decide (a.pool.length ≤ 8)
theorem C3p (w : World) (v : Value) (l : List ActV) (hn : l.length ≤ 9223372036854775807) (hv : G1 w v l.length (l.flatMap A3c)) :
  Fn PR B8 41 #[v] w (fun r w' => r = .bool (A0p l) ∧ C9 [] w w') := by
 refine Fn.pure (A5a (TW.go (κ := false) (S := []) ?_))
 unfold A0c
 obtain ⟨a, c, rfl, hr⟩ := hv.form
 by_cases c0 : l.length ≤ 40
 case neg =>
  have c0' : (40 : Int) < (l.length : Int) := by omega
  have c1 : 40 < l.length := by omega
  (have zz:=trivial;repeat((first|clear zz|with_reducible first|refine A3 ?_|refine A5 fun _=>?_|refine A4 fun _=>?_);try simp(disch:=first|omega|assumption|((repeat(first|exact A1|exact uH|apply A2|apply uT));first|done|fail)|(simp;first|done|omega|fail))[c0, c0', c1]))
  exact B0 (by simp [A0p]; intro h; omega)
 have c0' : ¬ (40 : Int) < (l.length : Int) := by omega
 have c1 : ¬ 40 < l.length := by omega
 (have zz:=trivial;repeat((first|clear zz|with_reducible first|refine A3 ?_|refine A5 fun _=>?_|refine A4 fun _=>?_);try simp(disch:=first|omega|assumption|((repeat(first|exact A1|exact uH|apply A2|apply uT));first|done|fail)|(simp;first|done|omega|fail))[c0, c0', c1]))
 refine q9 l.length (fun _ _ => .bool false) (fun _ (_ : Unit) => []) (fun i _ => ∀ (j : Nat) x, j < i → l[j]? = some x → x.pool.length ≤ 8) () (by intros; omega) ?_
 rintro i _ hi hφ L hL
 by_cases hlt : i < l.length
 ·have hx := List.getElem?_eq_getElem hlt
  obtain ⟨b, o, rfl, hrow⟩ := hr (by omega)
  have h2 := hrow.cellAt (f := A3c) (k := 3) (j := 2) (fun _ => rfl) hx rfl
  unfold ActV.pv at h2
  by_cases c2 : l[i].pool.length ≤ 8
  case neg =>
   have c2' : (8 : Int) < (l[i].pool.length : Int) := by omega
   have c3 : 8 < l[i].pool.length := by omega
   (have zz:=trivial;repeat((first|clear zz|with_reducible first|refine A3 ?_|refine A5 fun _=>?_|refine A4 fun _=>?_);try simp(disch:=first|omega|assumption|((repeat(first|exact A1|exact uH|apply A2|apply uT));first|done|fail)|(simp;first|done|omega|fail))[hlt, h2, c2, c2', c3]))
   refine B0 ?_
   have : A0p l = false := by
    unfold A0p
    rw [Bool.and_eq_false_iff]; right
    rw [List.all_eq_false]
    exact ⟨l[i], List.getElem_mem hlt, by simp; omega⟩
   rw [this]
  have c2' : ¬ (8 : Int) < (l[i].pool.length : Int) := by omega
  have c3 : ¬ 8 < l[i].pool.length := by omega
  (have zz:=trivial;repeat((first|clear zz|with_reducible first|refine A3 ?_|refine A5 fun _=>?_|refine A4 fun _=>?_);try simp(disch:=first|omega|assumption|((repeat(first|exact A1|exact uH|apply A2|apply uT));first|done|fail)|(simp;first|done|omega|fail))[hlt, h2, c2, c2', c3]))
  refine hL hlt () fun j x hj hx' => ?_
  by_cases e : j < i
  ·exact hφ j x e hx'
  ·obtain rfl : j = i := by omega
   rw [hx] at hx'; injection hx' with hx'; subst hx'
   exact c2
 ·(have zz:=trivial;repeat((first|clear zz|with_reducible first|refine A3 ?_|refine A5 fun _=>?_|refine A4 fun _=>?_);try simp(disch:=first|omega|assumption|((repeat(first|exact A1|exact uH|apply A2|apply uT));first|done|fail)|(simp;first|done|omega|fail))[hlt]))
  refine B0 ?_
  have : A0p l = true := by
   unfold A0p
   rw [Bool.and_eq_true]
   refine ⟨by simp; omega, ?_⟩
   rw [List.all_eq_true]
   intro x hx
   obtain ⟨j, hj, e⟩ := List.getElem_of_mem hx
   simp only [decide_eq_true_eq]
   exact hφ j x (by omega) (by simp [hj, e])
  rw [this]
theorem C0Z {l : List ActV} (h : A0p l = true) : l.length ≤ 40 := by simp [A0p] at h; exact h.1
theorem C2G {l : List ActV} (h : A0p l = true) {a : ActV} (ha : a ∈ l) : a.pool.length ≤ 8 := by simp [A0p] at h; exact h.2 a ha
end Go.Proofs.YtjobgnabneddjaaGreat
namespace Go.Proofs.YtjobgnabneddjaaGreat
open Go Go.ChangeShapes Go.WideShapes Go.ChangeAt Go.RowKit
set_option maxRecDepth 10000
section
variable {H : Type} {enc : TypeId × Value → H} {w : World} {base : Nat} {spare : Nat → Bool} {held : Bool} {fuel : Nat} {cs : List Value} {x : DataW H × List MemPlace}
theorem B9G (h : DataW.trod enc PR w base spare held fuel 79 cs = some x) : ∃ a : ActV, cs = A3c a ∧ G1 w a.pv a.pool.length (a.pool.flatMap H0) := by
 obtain ⟨xs, n, _, rfl, hl, hxl, hf⟩ := DataW.trod_struct B34.und h
 have hl4 : cs.length = 3 := hl.trans (by kernel_rfl)
 have hx4 : xs.length = 3 := hxl.trans (by kernel_rfl)
 match cs, hl4 with
 | [c0, c1, c2], _ =>
  have f0 := hf 0 _ rfl
  have f1 := hf 1 _ rfl
  have f2 := hf 2 _ rfl
  rw [List.getElem?_eq_getElem (by omega)] at f0 f1 f2
  obtain ⟨a0, e0, _⟩ := Z5 Tryz.underlying3 f0
  obtain ⟨a1, e1, _⟩ := Z5 Tryz.underlying3 f1
  obtain ⟨v, l, e2, hv, _⟩ := C23 f2
  obtain ⟨pa, pc, rfl, _⟩ := hv.form
  have e0 : [c0] = [.int .i64 a0] := e0
  have e1 : [c1] = [.int .i64 a1] := e1
  have e2 : [c2] = [.slice pa l.length pc] := e2
  cases e0; cases e1; cases e2
  exact ⟨⟨a0, a1, l, pa, pc⟩, rfl, hv⟩
theorem B1w {r : Reach} {b0 : Nat} {v : Value} {d : DataW H} {ps : List MemPlace} (hval : Value.okWide PR w r b0 71 v) (hd : DataW.Trod enc PR w base spare held 71 v d ps) :
  ∃ l : List ActV, G1 w v l.length (l.flatMap A3c) ∧ (∀ a ∈ l, G1 w a.pv a.pool.length (a.pool.flatMap H0)) ∧ l.length ≤ maxLen :=
 B9T Tryz.underlying71 hval hd fun _ _ _ h => B8V (f := A3c) (k := 3) (Q := fun a => G1 w a.pv a.pool.length (a.pool.flatMap H0)) (fun _ => rfl) (by omega) Tryz.underlying71 (by kernel_rfl) h (fun n cs' y hy => B9G hy)
end
end Go.Proofs.YtjobgnabneddjaaGreat
namespace Go.Proofs.YtjobgnabneddjaaGreat
open Go
def Z9 (X : Nat → Prop) (t0 t1 t2 t3 : Value) (R : Value → WP) : WP :=
 B2 PR X (Instr.box 23 t0) fun t4 =>
 B4 PR X 14 [] fun t21 =>
 jn (n := 1) (fun t8 =>
 A6 PR (Instr.loadAt 23 t4) fun t24 =>
 B4 PR X 15 [t24] fun t25 =>
 jn (n := 1) (fun t8_1 =>
 A6 PR (Instr.loadAt 23 t4) fun t48 =>
 B4 PR X 16 [t48] fun t49 =>
 A0 PR (Instr.extract t49 0) fun t50 =>
 A0 PR (Instr.extract t49 1) fun t51 =>
 jn (n := 1) (fun t8_2 =>
 B4 PR X 17 [t1, t2] fun t61 =>
 jn (n := 1) (fun t8_3 =>
 A6 PR (Instr.loadAt 23 t4) fun t69 =>
 B4 PR X 42 [t69] fun t70 =>
 jn (n := 4) (fun t15 t16 t8_4 t17 =>
 R t21) fun J1 =>
 lp (n := 4) (fun L2 t15_1 t16_1 t8_5 t17_1 =>
 jn (n := 0) (
 jn (n := 3) (fun t15_2 t16_2 t8_6 =>
 A0 PR (binOp .add 3 t17_1 (.int .i64 1)) fun t76 =>
 L2 t15_2 t16_2 t8_6 t76) fun J3 =>
 jn (n := 2) (fun t15_3 t8_7 =>
 B4 PR X 20 [t61, t50] fun t127 =>
 B4 PR X 56 [t50] fun t130 =>
 A0 PR (B5 t70) fun t131 =>
 A0 PR (Instr.fieldAt 106 t131 4) fun t132 =>
 C1 PR X (Instr.storeAt 37 t132 t130) <|
 B4 PR X 22 [t61] fun t134 =>
 jn (n := 1) (fun t8_8 =>
 jn (n := 2) (fun t19 t20 =>
 jn (n := 1) (fun t8_9 =>
 jn (n := 1) (fun t16_3 =>
 jn (n := 1) (fun t8_10 =>
 drw <|
 A0 PR (binOp .eql 3 t134 (.int .i64 10)) fun t207 =>
 gj t207 true (fun J => J t50) fun t209 =>
 gj t207 true (fun J => J t1) fun t210 =>
 gj t207 true (fun J => B4 PR X 57 [t209, t210] J) fun t211 =>
 gj t207 true (fun J => A0 PR (binOp .geq 3 t211 (.int .i64 0)) J) fun t212 =>
 A0 PR (do pure (if ← asBool t207 then t212 else (.bool false))) fun t213 =>
 gj t213 true (fun J => J t50) fun t215 =>
 gj t213 true (fun J => A0 PR (B5 t215) J) fun t216 =>
 gj t213 true (fun J => A0 PR (Instr.fieldAt 39 t216 1) J) fun t217 =>
 gj t213 true (fun J => A6 PR (Instr.loadAt 33 t217) J) fun t218 =>
 gj t213 true (fun J => J t50) fun t219 =>
 gj t213 true (fun J => J t1) fun t220 =>
 gj t213 true (fun J => B4 PR X 57 [t219, t220] J) fun t221 =>
 watch PR [((some (t213, true)), (Instr.loadAt 33 t217), t218)] <|
 gj t213 true (fun J => B4 PR X 35 [t218, t221] J) fun t222 =>
 gj t213 true (fun J => A0 PR (binOp .neq 3 t222 (.int .i64 0)) J) fun t223 =>
 A0 PR (do pure (if ← asBool t213 then t223 else (.bool false))) fun t224 =>
 C3 t224 (
 R (.bool false)) (
 J3 t15_3 t16_3 t8_10)) fun J4 =>
 drw <|
 A0 PR (binOp .geq 3 t134 (.int .i64 3)) fun t189 =>
 gj t189 true (fun J => J t134) fun t191 =>
 gj t189 true (fun J => A0 PR (binOp .leq 3 t191 (.int .i64 9)) J) fun t192 =>
 A0 PR (do pure (if ← asBool t189 then t192 else (.bool false))) fun t193 =>
 gj t193 true (fun J => J t50) fun t195 =>
 gj t193 true (fun J => A0 PR (B5 t195) J) fun t196 =>
 gj t193 true (fun J => A0 PR (Instr.fieldAt 39 t196 1) J) fun t197 =>
 gj t193 true (fun J => A6 PR (Instr.loadAt 33 t197) J) fun t198 =>
 gj t193 true (fun J => J t50) fun t199 =>
 gj t193 true (fun J => J t1) fun t200 =>
 gj t193 true (fun J => J t16_3) fun t203 =>
 gj t193 true (fun J => B4 PR X 57 [t199, t200] J) fun t201 =>
 watch PR [((some (t193, true)), (Instr.loadAt 33 t197), t198)] <|
 gj t193 true (fun J => B4 PR X 35 [t198, t201] J) fun t202 =>
 gj t193 true (fun J => A0 PR (binOp .neq 3 t202 t203) J) fun t204 =>
 A0 PR (do pure (if ← asBool t193 then t204 else (.bool false))) fun t205 =>
 C3 t205 (
 R (.bool false)) (
 J4 t8_9)) fun J5 =>
 A0 PR (binOp .eql 3 t134 (.int .i64 3)) fun t181 =>
 gj t181 true (fun J => J t16_1) fun t183 =>
 gj t181 true (fun J => A0 PR (binOp .eql 3 t183 (.int .i64 0)) J) fun t184 =>
 A0 PR (do pure (if ← asBool t181 then t184 else (.bool false))) fun t185 =>
 C3 t185 (
 A0 PR (binOp .add 3 t15_3 (.int .i64 1)) fun t187 =>
 J5 t187) (
 J5 t16_1)) fun J6 =>
 A0 PR (binOp .gtr 3 t19 (.int .i64 1)) fun t168 =>
 gj t168 false (fun J => J t19) fun t170 =>
 gj t168 false (fun J => A0 PR (binOp .eql 3 t170 (.int .i64 1)) J) fun t171 =>
 gj t168 false (fun J => J t134) fun t172 =>
 gj t168 false (fun J => A0 PR (binOp .geq 3 t172 (.int .i64 4)) J) fun t173 =>
 gj t168 false (fun J => J t173) fun t174 =>
 gj t174 true (fun J => J t134) fun t175 =>
 gj t174 true (fun J => A0 PR (binOp .leq 3 t175 (.int .i64 8)) J) fun t176 =>
 gj t168 false (fun J => A0 PR (do pure (if ← asBool t174 then t176 else (.bool false))) J) fun t177 =>
 gj t168 false (fun J => A0 PR (binOp .neq 4 t171 t177) J) fun t178 =>
 A0 PR (do pure (if ← asBool t168 then (.bool true) else t178)) fun t179 =>
 C3 t179 (
 R (.bool false)) (
 J6 t8_8)) fun J7 =>
 lp (n := 2) (fun L8 t19_1 t20_1 =>
 jn (n := 0) (
 jn (n := 1) (fun t19_2 =>
 A0 PR (binOp .add 3 t20_1 (.int .i64 1)) fun t156 =>
 L8 t19_2 t156) fun J9 =>
 A0 PR (B5 t50) fun t158 =>
 A0 PR (Instr.fieldAt 39 t158 1) fun t159 =>
 A6 PR (Instr.loadAt 33 t159) fun t160 =>
 B4 PR X 37 [t160, t20_1] fun t162 =>
 A0 PR (binOp .eql 3 t162 t1) fun t164 =>
 C3 t164 (
 A0 PR (binOp .add 3 t19_1 (.int .i64 1)) fun t166 =>
 J9 t166) (
 J9 t19_1)) fun J10 =>
 A0 PR (Instr.fieldAt 23 t4 1) fun t152 =>
 A6 PR (Instr.loadAt 3 t152) fun t153 =>
 A0 PR (binOp .lss 3 t20_1 t153) fun t154 =>
 C3 t154 (
 J10) (
 J7 t19_1 t20_1)) (.int .i64 0) (.int .i64 0)) fun J11 =>
 drw <|
 A0 PR (B5 t70) fun t136 =>
 A0 PR (Instr.fieldAt 106 t136 4) fun t137 =>
 A6 PR (Instr.loadAt 37 t137) fun t138 =>
 A0 PR (A8 .len #[37] 0 [t138]) fun t139 =>
 A0 PR (Instr.fieldAt 23 t4 1) fun t140 =>
 A6 PR (Instr.loadAt 3 t140) fun t141 =>
 A0 PR (binOp .neq 3 t139 t141) fun t142 =>
 gj t142 false (fun J => J t134) fun t144 =>
 gj t142 false (fun J => A0 PR (binOp .lss 3 t144 (.int .i64 0)) J) fun t145 =>
 A0 PR (do pure (if ← asBool t142 then (.bool true) else t145)) fun t146 =>
 gj t146 false (fun J => J t134) fun t148 =>
 gj t146 false (fun J => A0 PR (binOp .gtr 3 t148 (.int .i64 10)) J) fun t149 =>
 A0 PR (do pure (if ← asBool t146 then (.bool true) else t149)) fun t150 =>
 C3 t150 (
 R (.bool false)) (
 J11 t8_7)) fun J12 =>
 A0 PR (Instr.indexAt 71 t3 t17_1) fun t79 =>
 A0 PR (Instr.fieldAt 79 t79 0) fun t80 =>
 A6 PR (Instr.loadAt 3 t80) fun t81 =>
 A0 PR (binOp .neq 3 t81 (.int .i64 0)) fun t82 =>
 C3 t82 (
 A0 PR (Instr.indexAt 71 t3 t17_1) fun t87 =>
 A6 PR (Instr.loadAt 79 t87) fun t88 =>
 B4 PR X 44 [t50, t70, t88] fun t89 =>
 jn (n := 1) (fun t15_4 =>
 jn (n := 1) (fun t8_11 =>
 J3 t15_4 t16_1 t8_11) fun J13 =>
 A0 PR (Instr.indexAt 71 t3 t17_1) fun t100 =>
 A0 PR (Instr.fieldAt 79 t100 0) fun t101 =>
 A6 PR (Instr.loadAt 3 t101) fun t102 =>
 A0 PR (binOp .eql 3 t102 (.int .i64 2)) fun t103 =>
 gj t103 false (fun J => J t3) fun t105 =>
 gj t103 false (fun J => J t17_1) fun t106 =>
 gj t103 false (fun J => A0 PR (Instr.indexAt 71 t105 t106) J) fun t107 =>
 gj t103 false (fun J => A0 PR (Instr.fieldAt 79 t107 0) J) fun t108 =>
 gj t103 false (fun J => A6 PR (Instr.loadAt 3 t108) J) fun t109 =>
 gj t103 false (fun J => A0 PR (binOp .eql 3 t109 (.int .i64 3)) J) fun t110 =>
 A0 PR (do pure (if ← asBool t103 then (.bool true) else t110)) fun t111 =>
 C3 t111 (
 B4 PR X 56 [t50] fun t114 =>
 A0 PR (B5 t70) fun t115 =>
 A0 PR (Instr.fieldAt 106 t115 4) fun t116 =>
 C1 PR X (Instr.storeAt 37 t116 t114) <|
 drw <|
 A0 PR (B5 t70) fun t118 =>
 A0 PR (Instr.fieldAt 106 t118 4) fun t119 =>
 A6 PR (Instr.loadAt 37 t119) fun t120 =>
 A0 PR (A8 .len #[37] 0 [t120]) fun t121 =>
 A0 PR (Instr.fieldAt 23 t4 1) fun t122 =>
 A6 PR (Instr.loadAt 3 t122) fun t123 =>
 A0 PR (binOp .neq 3 t121 t123) fun t124 =>
 C3 t124 (
 R (.bool false)) (
 J13 t8_5)) (
 J13 t8_5)) fun J14 =>
 A0 PR (Instr.indexAt 71 t3 t17_1) fun t92 =>
 A0 PR (Instr.fieldAt 79 t92 0) fun t93 =>
 A6 PR (Instr.loadAt 3 t93) fun t94 =>
 A0 PR (binOp .eql 3 t94 (.int .i64 1)) fun t95 =>
 C3 t95 (
 A0 PR (binOp .add 3 t15_1 (.int .i64 1)) fun t97 =>
 J14 t97) (
 J14 t15_1)) (
 J12 t15_1 t8_5)) fun J15 =>
 A0 PR (A8 .len #[71] 0 [t3]) fun t73 =>
 A0 PR (binOp .lss 3 t17_1 t73) fun t74 =>
 C3 t74 (
 J15) (
 J1 t15_1 t16_1 t8_5 t17_1)) (.int .i64 0) (.int .i64 0) t8_3 (.int .i64 0)) fun J16 =>
 B4 PR X 18 [t50] fun t63 =>
 A0 PR (Op.unary .not t63) fun t64 =>
 gj t64 false (fun J => J t61) fun t66 =>
 gj t64 false (fun J => A6 PR (G9 .eql 30 (.tmp 66) (.const (.pointer none)) t66 (.pointer none)) J) fun t67 =>
 A0 PR (do pure (if ← asBool t64 then (.bool true) else t67)) fun t68 =>
 C3 t68 (
 R (.bool false)) (
 J16 t8_2)) fun J17 =>
 A0 PR (binOp .neq 27 t51 (.int .i64 0)) fun t53 =>
 C3 t53 (
 gj t21 true (fun J => J t50) fun t56 =>
 gj t21 true (fun J => A6 PR (G9 .eql 26 (.tmp 56) (.const (.pointer none)) t56 (.pointer none)) J) fun t57 =>
 A0 PR (do pure (if ← asBool t21 then t57 else (.bool false))) fun t58 =>
 R t58) (
 J17 t8_1)) fun J18 =>
 A0 PR (Op.unary .not t25) fun t27 =>
 gj t27 false (fun J => J t3) fun t29 =>
 gj t27 false (fun J => B4 PR X 41 [t29] J) fun t30 =>
 gj t27 false (fun J => A0 PR (Op.unary .not t30) J) fun t31 =>
 A0 PR (do pure (if ← asBool t27 then (.bool true) else t31)) fun t32 =>
 gj t32 false (fun J => J t2) fun t34 =>
 gj t32 false (fun J => A0 PR (A8 .len #[9] 0 [t34]) J) fun t35 =>
 gj t32 false (fun J => A0 PR (binOp .gtr 3 t35 (.int .i64 100)) J) fun t36 =>
 A0 PR (do pure (if ← asBool t32 then (.bool true) else t36)) fun t37 =>
 gj t37 false (fun J => J t1) fun t39 =>
 gj t37 false (fun J => A0 PR (binOp .lss 3 t39 (.int .i64 0)) J) fun t40 =>
 A0 PR (do pure (if ← asBool t37 then (.bool true) else t40)) fun t41 =>
 gj t41 false (fun J => J t1) fun t43 =>
 gj t41 false (fun J => A0 PR (binOp .gtr 3 t43 (.int .i64 60)) J) fun t44 =>
 A0 PR (do pure (if ← asBool t41 then (.bool true) else t44)) fun t45 =>
 C3 t45 (
 R t21) (
 J18 t8)) fun J19 =>
 A0 PR (Op.unary .not t21) fun t23 =>
 C3 t23 (
 R (.bool false)) (
 J19 (.bool false))
theorem A0x {X : Nat → Prop} {t0 t1 t2 t3 : Value} {R : Value → WP} {w : World} (h : Z9 X t0 t1 t2 t3 R w) : Fn PR X 10 #[t0, t1, t2, t3] w R := C6 (args := [t0, t1, t2, t3]) mixed Tryz.func10 (by kernel_rfl) h
end Go.Proofs.YtjobgnabneddjaaGreat
namespace Go.Proofs.YtjobgnabneddjaaGreat
open Go
def A7q (X : Nat → Prop) (t0 t1 : Value) (R : Value → WP) : WP :=
 A0 PR (Instr.build 128 #[(0, t1)]) fun t6 =>
 A0 PR (Instr.build 130 #[(0, t6), (1, t0)]) fun t8 =>
 B2 PR X (Instr.box 130 t8) fun t9 =>
 R t9
theorem A1y : A9 PR 17 := A7 Tryz.func17 (by kernel_rfl) rfl
theorem B4d {X : Nat → Prop} {t0 t1 : Value} {R : Value → WP} {w : World} (h : A7q X t0 t1 R w) : Fn PR X 17 #[t0, t1] w R := C6 (args := [t0, t1]) mixed Tryz.func17 (by kernel_rfl) h
def A2L (X : Nat → Prop) (t0 t1 : Value) (R : Value → WP) : WP :=
 B2 PR X (Instr.alloc 42 true (.tuple #[])) fun t4 =>
 jn (n := 0) (
 A0 PR (Instr.build 144 #[(0, (.func (.func 76) #[] #[])), (1, (.func (.func 77) #[] #[])), (2, (.func (.func 78) #[] #[])), (3, (.func (.func 79) #[] #[])), (4, (.func (.func 80) #[] #[])), (5, (.func (.func 81) #[] #[])), (6, (.func (.func 82) #[] #[])), (7, (.func (.func 83) #[] #[])), (8, (.func (.func 84) #[] #[])), (9, (.func (.func 85) #[] #[]))]) fun t12 =>
 B2 PR X (Instr.alloc 144 true (.tuple #[])) fun t5 =>
 C1 PR X (Instr.storeAt 144 t5 t12) <|
 A0 PR (B5 t0) fun t14 =>
 A0 PR (Instr.fieldAt 130 t14 2) fun t15 =>
 A6 PR (Instr.loadAt 3 t15) fun t16 =>
 A0 PR (B5 t0) fun t18 =>
 A0 PR (Instr.fieldAt 130 t18 2) fun t19 =>
 A6 PR (Instr.loadAt 3 t19) fun t20 =>
 A0 PR (binOp .add 3 t20 (.int .i64 1)) fun t21 =>
 A0 PR (B5 t0) fun t22 =>
 A0 PR (Instr.fieldAt 130 t22 2) fun t23 =>
 C1 PR X (Instr.storeAt 3 t23 t21) <|
 A0 PR (Instr.indexAt 144 t5 t16) fun t25 =>
 A6 PR (Instr.loadAt 143 t25) fun t26 =>
 K4 PR X t26 [t0, t1] fun t29 =>
 C1 PR X (Instr.storeAt 42 t4 t29) <|
 A6 PR (F6 [.c 42 t4]) R) fun J1 =>
 B4 PR X 23 [t0, t1] fun t9 =>
 A0 PR (Op.unary .not t9) fun t10 =>
 C3 t10 (
 A0 PR (Instr.build 42 #[]) fun t11 =>
 C1 PR X (Instr.storeAt 42 t4 t11) <|
 A6 PR (F6 [.c 42 t4]) R) (
 J1)
theorem m5 : A9 PR 20 := A7 Tryz.func20 (by kernel_rfl) rfl
theorem A8j {X : Nat → Prop} {t0 t1 : Value} {R : Value → WP} {w : World} (h : A2L X t0 t1 R w) : Fn PR X 20 #[t0, t1] w R := C6 (args := [t0, t1]) mixed Tryz.func20 (by kernel_rfl) h
def A1S (X : Nat → Prop) (t0 : Value) (R : Value → WP) : WP :=
 A0 PR (B5 t0) fun t4 =>
 A0 PR (Instr.fieldAt 130 t4 2) fun t5 =>
 A6 PR (Instr.loadAt 3 t5) fun t6 =>
 R t6
theorem k8 : A9 PR 22 := A7 Tryz.func22 (by kernel_rfl) rfl
theorem A8Q {X : Nat → Prop} {t0 : Value} {R : Value → WP} {w : World} (h : A1S X t0 R w) : Fn PR X 22 #[t0] w R := C6 (args := [t0]) mixed Tryz.func22 (by kernel_rfl) h
def A1T (X : Nat → Prop) (t0 t1 : Value) (R : Value → WP) : WP :=
 drw <|
 A0 PR (B5 t0) fun t6 =>
 A0 PR (Instr.fieldAt 130 t6 2) fun t7 =>
 A6 PR (Instr.loadAt 3 t7) fun t8 =>
 A0 PR (binOp .lss 3 t8 (.int .i64 10)) fun t9 =>
 gj t9 true (fun J => J t0) fun t11 =>
 gj t9 true (fun J => A0 PR (B5 t11) J) fun t12 =>
 gj t9 true (fun J => A0 PR (Instr.fieldAt 130 t12 2) J) fun t13 =>
 gj t9 true (fun J => A6 PR (Instr.loadAt 3 t13) J) fun t14 =>
 gj t9 true (fun J => A0 PR (binOp .neq 3 t14 (.int .i64 3)) J) fun t15 =>
 gj t9 true (fun J => J t15) fun t16 =>
 gj t16 false (fun J => J t1) fun t17 =>
 gj t16 false (fun J => A0 PR (B5 t17) J) fun t18 =>
 gj t16 false (fun J => A0 PR (Instr.fieldAt 39 t18 1) J) fun t19 =>
 gj t16 false (fun J => A6 PR (Instr.loadAt 33 t19) J) fun t20 =>
 gj t16 false (fun J => J t0) fun t21 =>
 gj t16 false (fun J => A0 PR (B5 t21) J) fun t22 =>
 gj t16 false (fun J => A0 PR (Instr.fieldAt 130 t22 0) J) fun t23 =>
 gj t16 false (fun J => A0 PR (Instr.fieldAt 128 t23 2) J) fun t24 =>
 gj t16 false (fun J => A6 PR (Instr.loadAt 3 t24) J) fun t25 =>
 gj t16 false (fun J => B4 PR X 37 [t20, t25] J) fun t26 =>
 gj t16 false (fun J => A0 PR (binOp .lss 3 t26 (.int .i64 0)) J) fun t27 =>
 gj t9 true (fun J => A0 PR (do pure (if ← asBool t16 then (.bool true) else t27)) J) fun t28 =>
 A0 PR (do pure (if ← asBool t9 then t28 else (.bool false))) fun t29 =>
 R t29
theorem Q0 : A9 PR 23 := A7 Tryz.func23 (by kernel_rfl) rfl
theorem A8K {X : Nat → Prop} {t0 t1 : Value} {R : Value → WP} {w : World} (h : A1T X t0 t1 R w) : Fn PR X 23 #[t0, t1] w R := C6 (args := [t0, t1]) mixed Tryz.func23 (by kernel_rfl) h
def A0w (X : Nat → Prop) (t0 : Value) (R : Value → WP) : WP :=
 B2 PR X (Instr.alloc 55 true (.tuple #[])) fun t2 =>
 A0 PR (B5 t0) fun t4 =>
 A0 PR (Instr.fieldAt 130 t4 7) fun t5 =>
 A6 PR (Instr.loadAt 55 t5) fun t6 =>
 C1 PR X (Instr.storeAt 55 t2 t6) <|
 A6 PR (F6 [.c 55 t2]) R
theorem A0W : A9 PR 27 := A7 Tryz.func27 (by kernel_rfl) rfl
theorem A7Z {X : Nat → Prop} {t0 : Value} {R : Value → WP} {w : World} (h : A0w X t0 R w) : Fn PR X 27 #[t0] w R := C6 (args := [t0]) mixed Tryz.func27 (by kernel_rfl) h
def A1b (X : Nat → Prop) (t0 t1 : Value) (R : Value → WP) : WP :=
 B2 PR X (Instr.alloc 42 true (.tuple #[])) fun t4 =>
 jn (n := 0) (
 jn (n := 0) (
 A0 PR (B5 t1) fun t28 =>
 A0 PR (Instr.fieldAt 39 t28 1) fun t29 =>
 A6 PR (Instr.loadAt 33 t29) fun t30 =>
 B4 PR X 35 [t30, (.int .i64 0)] fun t31 =>
 A0 PR (B5 t0) fun t32 =>
 A0 PR (Instr.fieldAt 130 t32 3) fun t33 =>
 C1 PR X (Instr.storeAt 3 t33 t31) <|
 A0 PR (Instr.build 42 #[]) fun t34 =>
 C1 PR X (Instr.storeAt 42 t4 t34) <|
 A6 PR (F6 [.c 42 t4]) R) fun J1 =>
 drw <|
 A0 PR (B5 t0) fun t15 =>
 A0 PR (Instr.fieldAt 130 t15 0) fun t16 =>
 A0 PR (B5 t1) fun t18 =>
 A0 PR (Instr.fieldAt 39 t18 0) fun t19 =>
 A0 PR (Instr.fieldAt 23 t19 1) fun t20 =>
 A6 PR (Instr.loadAt 3 t20) fun t21 =>
 B4 PR X 131 [t16, t21] fun t22 =>
 A0 PR (Op.unary .not t22) fun t23 =>
 C3 t23 (
 B4 PR X 130 [t0, (.int .i64 9)] fun t25 =>
 C1 PR X (Instr.storeAt 42 t4 t25) <|
 A6 PR (F6 [.c 42 t4]) R) (
 J1)) fun J2 =>
 A0 PR (B5 t0) fun t7 =>
 A0 PR (Instr.fieldAt 130 t7 1) fun t8 =>
 A6 PR (Instr.loadAt 3 t8) fun t9 =>
 B4 PR X 57 [t1, t9] fun t10 =>
 A0 PR (binOp .lss 3 t10 (.int .i64 0)) fun t11 =>
 C3 t11 (
 B4 PR X 130 [t0, (.int .i64 1)] fun t13 =>
 C1 PR X (Instr.storeAt 42 t4 t13) <|
 A6 PR (F6 [.c 42 t4]) R) (
 J2)
theorem A7N : A9 PR 76 := A7 Tryz.func76 (by kernel_rfl) rfl
theorem A8Y {X : Nat → Prop} {t0 t1 : Value} {R : Value → WP} {w : World} (h : A1b X t0 t1 R w) : Fn PR X 76 #[t0, t1] w R := C6 (args := [t0, t1]) mixed Tryz.func76 (by kernel_rfl) h
def A2s (X : Nat → Prop) (t0 t1 : Value) (R : Value → WP) : WP :=
 B2 PR X (Instr.alloc 42 true (.tuple #[])) fun t4 =>
 drw <|
 A0 PR (B5 t1) fun t6 =>
 A0 PR (Instr.fieldAt 39 t6 1) fun t7 =>
 A6 PR (Instr.loadAt 33 t7) fun t8 =>
 A0 PR (B5 t0) fun t11 =>
 A0 PR (Instr.fieldAt 130 t11 1) fun t12 =>
 A6 PR (Instr.loadAt 3 t12) fun t13 =>
 A0 PR (B5 t0) fun t16 =>
 A0 PR (Instr.fieldAt 130 t16 3) fun t17 =>
 A6 PR (Instr.loadAt 3 t17) fun t18 =>
 A0 PR (binOp .add 3 t18 (.int .i64 1)) fun t19 =>
 B4 PR X 57 [t1, t13] fun t14 =>
 watch PR [(none, (Instr.loadAt 3 t17), t18), (none, (Instr.loadAt 33 t7), t8)] <|
 B4 PR X 31 [t8, t14, t19] fun t20 =>
 A0 PR (Instr.build 42 #[]) fun t21 =>
 C1 PR X (Instr.storeAt 42 t4 t21) <|
 A6 PR (F6 [.c 42 t4]) R
theorem A87 : A9 PR 77 := A7 Tryz.func77 (by kernel_rfl) rfl
theorem B0Z {X : Nat → Prop} {t0 t1 : Value} {R : Value → WP} {w : World} (h : A2s X t0 t1 R w) : Fn PR X 77 #[t0, t1] w R := C6 (args := [t0, t1]) mixed Tryz.func77 (by kernel_rfl) h
def A1J (X : Nat → Prop) (t0 t1 : Value) (R : Value → WP) : WP :=
 B2 PR X (Instr.alloc 42 true (.tuple #[])) fun t4 =>
 jn (n := 0) (
 A0 PR (Instr.build 42 #[]) fun t24 =>
 C1 PR X (Instr.storeAt 42 t4 t24) <|
 A6 PR (F6 [.c 42 t4]) R) fun J1 =>
 A0 PR (B5 t1) fun t7 =>
 A0 PR (Instr.fieldAt 39 t7 1) fun t8 =>
 A6 PR (Instr.loadAt 33 t8) fun t9 =>
 B4 PR X 35 [t9, (.int .i64 0)] fun t10 =>
 A0 PR (B5 t0) fun t13 =>
 A0 PR (Instr.fieldAt 130 t13 3) fun t14 =>
 A6 PR (Instr.loadAt 3 t14) fun t15 =>
 A0 PR (binOp .neq 3 t10 t15) fun t16 =>
 C3 t16 (
 A0 PR (B5 t0) fun t20 =>
 A0 PR (Instr.fieldAt 130 t20 3) fun t21 =>
 C1 PR X (Instr.storeAt 3 t21 t10) <|
 A0 PR (B5 t0) fun t22 =>
 A0 PR (Instr.fieldAt 130 t22 2) fun t23 =>
 C1 PR X (Instr.storeAt 3 t23 (.int .i64 1)) <|
 J1) (
 J1)
theorem A6Z : A9 PR 78 := A7 Tryz.func78 (by kernel_rfl) rfl
theorem A77 {X : Nat → Prop} {t0 t1 : Value} {R : Value → WP} {w : World} (h : A1J X t0 t1 R w) : Fn PR X 78 #[t0, t1] w R := C6 (args := [t0, t1]) mixed Tryz.func78 (by kernel_rfl) h
def A2J (X : Nat → Prop) (t0 t1 : Value) (R : Value → WP) : WP :=
 B2 PR X (Instr.alloc 42 true (.tuple #[])) fun t4 =>
 drw <|
 A0 PR (B5 t1) fun t6 =>
 A0 PR (Instr.fieldAt 39 t6 1) fun t7 =>
 A6 PR (Instr.loadAt 33 t7) fun t8 =>
 A0 PR (B5 t0) fun t10 =>
 A0 PR (Instr.fieldAt 130 t10 0) fun t11 =>
 A0 PR (Instr.fieldAt 128 t11 2) fun t12 =>
 A6 PR (Instr.loadAt 3 t12) fun t13 =>
 A0 PR (B5 t0) fun t15 =>
 A0 PR (Instr.fieldAt 130 t15 1) fun t16 =>
 A6 PR (Instr.loadAt 3 t16) fun t17 =>
 B4 PR X 19 [t8, t13, t17] fun t18 =>
 A0 PR (Instr.build 42 #[]) fun t19 =>
 C1 PR X (Instr.storeAt 42 t4 t19) <|
 A6 PR (F6 [.c 42 t4]) R
theorem A8S : A9 PR 79 := A7 Tryz.func79 (by kernel_rfl) rfl
theorem A9K {X : Nat → Prop} {t0 t1 : Value} {R : Value → WP} {w : World} (h : A2J X t0 t1 R w) : Fn PR X 79 #[t0, t1] w R := C6 (args := [t0, t1]) mixed Tryz.func79 (by kernel_rfl) h
def A0Q (X : Nat → Prop) (t0 t1 : Value) (R : Value → WP) : WP :=
 B2 PR X (Instr.alloc 42 true (.tuple #[])) fun t4 =>
 drw <|
 A0 PR (B5 t1) fun t8 =>
 A0 PR (Instr.fieldAt 39 t8 1) fun t9 =>
 A6 PR (Instr.loadAt 33 t9) fun t10 =>
 A0 PR (B5 t1) fun t14 =>
 A0 PR (Instr.fieldAt 39 t14 6) fun t15 =>
 A6 PR (Instr.loadAt 3 t15) fun t16 =>
 B4 PR X 35 [t10, (.int .i64 1)] fun t11 =>
 watch PR [(none, (Instr.loadAt 3 t15), t16)] <|
 A0 PR (binOp .sub 3 t11 (.int .i64 1)) fun t12 =>
 A0 PR (B5 t0) fun t17 =>
 A0 PR (Instr.fieldAt 130 t17 4) fun t18 =>
 C1 PR X (Instr.storeAt 3 t18 t12) <|
 A0 PR (B5 t0) fun t19 =>
 A0 PR (Instr.fieldAt 130 t19 5) fun t20 =>
 C1 PR X (Instr.storeAt 3 t20 t16) <|
 A0 PR (Instr.build 42 #[(0, (.bool true))]) fun t21 =>
 C1 PR X (Instr.storeAt 42 t4 t21) <|
 A6 PR (F6 [.c 42 t4]) R
theorem A5Z : A9 PR 80 := A7 Tryz.func80 (by kernel_rfl) rfl
theorem A5l {X : Nat → Prop} {t0 t1 : Value} {R : Value → WP} {w : World} (h : A0Q X t0 t1 R w) : Fn PR X 80 #[t0, t1] w R := C6 (args := [t0, t1]) mixed Tryz.func80 (by kernel_rfl) h
def A2U (X : Nat → Prop) (t0 t1 : Value) (R : Value → WP) : WP :=
 B2 PR X (Instr.alloc 42 true (.tuple #[])) fun t4 =>
 drw <|
 A0 PR (B5 t1) fun t7 =>
 A0 PR (Instr.fieldAt 39 t7 4) fun t8 =>
 A6 PR (Instr.loadAt 36 t8) fun t9 =>
 A0 PR (B5 t0) fun t11 =>
 A0 PR (Instr.fieldAt 130 t11 0) fun t12 =>
 A0 PR (Instr.fieldAt 128 t12 2) fun t13 =>
 A6 PR (Instr.loadAt 3 t13) fun t14 =>
 A0 PR (Instr.indexAt 36 t9 t14) fun t15 =>
 A6 PR (Instr.loadAt 84 t15) fun t16 =>
 A0 PR (B5 t0) fun t17 =>
 A0 PR (Instr.fieldAt 130 t17 6) fun t18 =>
 C1 PR X (Instr.storeAt 84 t18 t16) <|
 A0 PR (Instr.build 42 #[]) fun t19 =>
 C1 PR X (Instr.storeAt 42 t4 t19) <|
 A6 PR (F6 [.c 42 t4]) R
theorem A8W : A9 PR 81 := A7 Tryz.func81 (by kernel_rfl) rfl
theorem A9r {X : Nat → Prop} {t0 t1 : Value} {R : Value → WP} {w : World} (h : A2U X t0 t1 R w) : Fn PR X 81 #[t0, t1] w R := C6 (args := [t0, t1]) mixed Tryz.func81 (by kernel_rfl) h
def A1C (X : Nat → Prop) (t0 t1 : Value) (R : Value → WP) : WP :=
 B2 PR X (Instr.box 30 t0) fun t2 =>
 B2 PR X (Instr.box 26 t1) fun t3 =>
 B2 PR X (Instr.alloc 42 true (.tuple #[])) fun t4 =>
 drw <|
 A6 PR (Instr.loadAt 26 t3) fun t14 =>
 A0 PR (B5 t14) fun t15 =>
 A0 PR (Instr.fieldAt 39 t15 2) fun t16 =>
 A6 PR (Instr.loadAt 34 t16) fun t17 =>
 A6 PR (Instr.loadAt 30 t2) fun t18 =>
 A0 PR (B5 t18) fun t19 =>
 A0 PR (Instr.fieldAt 130 t19 4) fun t20 =>
 A6 PR (Instr.loadAt 3 t20) fun t21 =>
 B4 PR X 50 [t17, t21] fun t22 =>
 A0 PR (Instr.extract t22 0) fun t23 =>
 A0 PR (Instr.extract t22 1) fun t24 =>
 A0 PR (Instr.makeFunc (.func 132) #[] #[t2, t3]) fun t25 =>
 K4 PR X t25 [] fun t28 =>
 A0 PR (Instr.extract t28 0) fun t29 =>
 A0 PR (Instr.extract t28 1) fun t30 =>
 jn (n := 1) (fun t8 =>
 A6 PR (Instr.loadAt 30 t2) fun t51 =>
 A0 PR (B5 t51) fun t52 =>
 A0 PR (Instr.fieldAt 130 t52 4) fun t53 =>
 A6 PR (Instr.loadAt 3 t53) fun t54 =>
 A0 PR (binOp .geq 3 t54 (.int .i64 0)) fun t55 =>
 gj t55 true (fun J => J t24) fun t57 =>
 gj t55 true (fun J => A0 PR (Op.unary .not t57) J) fun t58 =>
 A0 PR (do pure (if ← asBool t55 then t58 else (.bool false))) fun t59 =>
 A0 PR (Instr.build 42 #[(2, t59)]) fun t60 =>
 B2 PR X (Instr.alloc 42 true (.tuple #[])) fun t10 =>
 C1 PR X (Instr.storeAt 42 t10 t60) <|
 jn (n := 0) (
 A6 PR (Instr.loadAt 42 t10) fun t141 =>
 C1 PR X (Instr.storeAt 42 t4 t141) <|
 A6 PR (F6 [.c 42 t4]) R) fun J1 =>
 A0 PR (Op.unary .not t30) fun t105 =>
 gj t105 true (fun J => J t23) fun t107 =>
 gj t105 true (fun J => A0 PR (binOp .eql 3 t107 (.int .i64 0)) J) fun t108 =>
 A0 PR (do pure (if ← asBool t105 then t108 else (.bool false))) fun t109 =>
 C3 t109 (
 A6 PR (Instr.loadAt 30 t2) fun t110 =>
 A0 PR (Instr.build 55 #[(0, (.int .i64 11))]) fun t111 =>
 A0 PR (B5 t110) fun t112 =>
 A0 PR (Instr.fieldAt 130 t112 7) fun t113 =>
 C1 PR X (Instr.storeAt 55 t113 t111) <|
 J1) (
 A6 PR (Instr.loadAt 30 t2) fun t115 =>
 A0 PR (B5 t115) fun t116 =>
 A0 PR (Instr.fieldAt 130 t116 0) fun t117 =>
 A0 PR (Instr.fieldAt 128 t117 3) fun t118 =>
 A6 PR (Instr.loadAt 4 t118) fun t119 =>
 C3 t119 (
 drw <|
 A6 PR (Instr.loadAt 30 t2) fun t121 =>
 A6 PR (Instr.loadAt 30 t2) fun t122 =>
 A0 PR (B5 t122) fun t123 =>
 A0 PR (Instr.fieldAt 130 t123 6) fun t124 =>
 A6 PR (Instr.loadAt 84 t124) fun t125 =>
 A6 PR (Instr.loadAt 30 t2) fun t126 =>
 A0 PR (B5 t126) fun t127 =>
 A0 PR (Instr.fieldAt 130 t127 0) fun t128 =>
 A0 PR (Instr.fieldAt 128 t128 1) fun t129 =>
 A6 PR (Instr.loadAt 9 t129) fun t130 =>
 B4 PR X 136 [t125, t130] fun t131 =>
 watch PR [(none, (Instr.loadAt 30 t2), t121)] <|
 A0 PR (Instr.extract t131 0) fun t132 =>
 A0 PR (Instr.extract t131 1) fun t133 =>
 A0 PR (B5 t121) fun t134 =>
 A0 PR (Instr.fieldAt 130 t134 6) fun t135 =>
 C1 PR X (Instr.storeAt 84 t135 t132) <|
 A6 PR (Instr.loadAt 30 t2) fun t136 =>
 A0 PR (Instr.build 55 #[(1, t8)]) fun t138 =>
 A0 PR (B5 t136) fun t139 =>
 A0 PR (Instr.fieldAt 130 t139 7) fun t140 =>
 C1 PR X (Instr.storeAt 55 t140 t138) <|
 J1) (
 drw <|
 A6 PR (Instr.loadAt 30 t2) fun t62 =>
 A0 PR (B5 t62) fun t63 =>
 A0 PR (Instr.fieldAt 130 t63 6) fun t64 =>
 A6 PR (Instr.loadAt 84 t64) fun t65 =>
 A6 PR (Instr.loadAt 30 t2) fun t66 =>
 A0 PR (B5 t66) fun t67 =>
 A0 PR (Instr.fieldAt 130 t67 0) fun t68 =>
 A0 PR (Instr.fieldAt 128 t68 1) fun t69 =>
 A6 PR (Instr.loadAt 9 t69) fun t70 =>
 A6 PR (Instr.loadAt 30 t2) fun t72 =>
 A0 PR (B5 t72) fun t73 =>
 A0 PR (Instr.fieldAt 130 t73 5) fun t74 =>
 A6 PR (Instr.loadAt 3 t74) fun t75 =>
 A6 PR (Instr.loadAt 26 t3) fun t76 =>
 A0 PR (B5 t76) fun t77 =>
 A0 PR (Instr.fieldAt 39 t77 0) fun t78 =>
 A0 PR (Instr.fieldAt 23 t78 3) fun t79 =>
 A6 PR (Instr.loadAt 3 t79) fun t80 =>
 A0 PR (binOp .add 3 t75 t80) fun t81 =>
 B4 PR X 137 [t65, t70, t8, t81] fun t82 =>
 A0 PR (Instr.extract t82 0) fun t83 =>
 A0 PR (Instr.extract t82 1) fun t84 =>
 drw <|
 A6 PR (Instr.loadAt 30 t2) fun t85 =>
 A6 PR (Instr.loadAt 30 t2) fun t86 =>
 A0 PR (Op.unary .not t30) fun t90 =>
 A0 PR (Instr.build 55 #[(1, t8), (2, t90)]) fun t91 =>
 A0 PR (B5 t85) fun t92 =>
 A0 PR (Instr.fieldAt 130 t92 6) fun t93 =>
 C1 PR X (Instr.storeAt 84 t93 t83) <|
 watch PR [(none, (Instr.loadAt 30 t2), t86)] <|
 A0 PR (B5 t86) fun t94 =>
 A0 PR (Instr.fieldAt 130 t94 7) fun t95 =>
 C1 PR X (Instr.storeAt 55 t95 t91) <|
 A0 PR (binOp .neq 27 t84 (.int .i64 0)) fun t97 =>
 C3 t97 (
 A6 PR (Instr.loadAt 30 t2) fun t98 =>
 A0 PR (Instr.build 55 #[(0, t84)]) fun t100 =>
 A0 PR (B5 t98) fun t101 =>
 A0 PR (Instr.fieldAt 130 t101 7) fun t102 =>
 C1 PR X (Instr.storeAt 55 t102 t100) <|
 J1) (
 J1)))) fun J2 =>
 A0 PR (Op.unary .not t30) fun t32 =>
 C3 t32 (
 drw <|
 A6 PR (Instr.loadAt 26 t3) fun t34 =>
 A0 PR (B5 t34) fun t35 =>
 A0 PR (Instr.fieldAt 39 t35 2) fun t36 =>
 A6 PR (Instr.loadAt 34 t36) fun t37 =>
 A6 PR (Instr.loadAt 30 t2) fun t38 =>
 A0 PR (B5 t38) fun t39 =>
 A0 PR (Instr.fieldAt 130 t39 4) fun t40 =>
 A6 PR (Instr.loadAt 3 t40) fun t41 =>
 A6 PR (Instr.loadAt 30 t2) fun t42 =>
 A0 PR (B5 t42) fun t43 =>
 A0 PR (Instr.fieldAt 130 t43 0) fun t44 =>
 A0 PR (Instr.fieldAt 128 t44 1) fun t45 =>
 A6 PR (Instr.loadAt 9 t45) fun t46 =>
 B4 PR X 135 [t46] fun t47 =>
 watch PR [(none, (Instr.loadAt 3 t40), t41), (none, (Instr.loadAt 30 t2), t38), (none, (Instr.loadAt 34 t36), t37), (none, (Instr.loadAt 26 t3), t34)] <|
 B4 PR X 48 [t37, t41, t47] fun t48 =>
 A0 PR (Instr.extract t48 0) fun t49 =>
 A0 PR (Instr.extract t48 1) fun t50 =>
 J2 t49) (
 J2 t29)
theorem A57 : A9 PR 82 := A7 Tryz.func82 (by kernel_rfl) rfl
theorem A7M {X : Nat → Prop} {t0 t1 : Value} {R : Value → WP} {w : World} (h : A1C X t0 t1 R w) : Fn PR X 82 #[t0, t1] w R := C6 (args := [t0, t1]) mixed Tryz.func82 (by kernel_rfl) h
def A1L (X : Nat → Prop) (t0 t1 : Value) (R : Value → WP) : WP :=
 B2 PR X (Instr.alloc 42 true (.tuple #[])) fun t4 =>
 drw <|
 A0 PR (B5 t1) fun t6 =>
 A0 PR (Instr.fieldAt 39 t6 4) fun t7 =>
 A6 PR (Instr.loadAt 36 t7) fun t8 =>
 A0 PR (B5 t0) fun t10 =>
 A0 PR (Instr.fieldAt 130 t10 0) fun t11 =>
 A0 PR (Instr.fieldAt 128 t11 2) fun t12 =>
 A6 PR (Instr.loadAt 3 t12) fun t13 =>
 A0 PR (B5 t0) fun t15 =>
 A0 PR (Instr.fieldAt 130 t15 6) fun t16 =>
 A6 PR (Instr.loadAt 84 t16) fun t17 =>
 A0 PR (Instr.indexAt 36 t8 t13) fun t18 =>
 C1 PR X (Instr.storeAt 84 t18 t17) <|
 A0 PR (Instr.build 42 #[]) fun t19 =>
 C1 PR X (Instr.storeAt 42 t4 t19) <|
 A6 PR (F6 [.c 42 t4]) R
theorem A64 : A9 PR 83 := A7 Tryz.func83 (by kernel_rfl) rfl
theorem A8D {X : Nat → Prop} {t0 t1 : Value} {R : Value → WP} {w : World} (h : A1L X t0 t1 R w) : Fn PR X 83 #[t0, t1] w R := C6 (args := [t0, t1]) mixed Tryz.func83 (by kernel_rfl) h
def A08 (X : Nat → Prop) (t0 t1 : Value) (R : Value → WP) : WP :=
 B2 PR X (Instr.alloc 42 true (.tuple #[])) fun t4 =>
 drw <|
 A0 PR (B5 t1) fun t6 =>
 A0 PR (Instr.fieldAt 39 t6 1) fun t7 =>
 A6 PR (Instr.loadAt 33 t7) fun t8 =>
 A0 PR (B5 t0) fun t10 =>
 A0 PR (Instr.fieldAt 130 t10 0) fun t11 =>
 A0 PR (Instr.fieldAt 128 t11 2) fun t12 =>
 A6 PR (Instr.loadAt 3 t12) fun t13 =>
 A0 PR (B5 t0) fun t15 =>
 A0 PR (Instr.fieldAt 130 t15 1) fun t16 =>
 A6 PR (Instr.loadAt 3 t16) fun t17 =>
 B4 PR X 25 [t8, t13, t17] fun t18 =>
 A0 PR (Instr.build 42 #[]) fun t19 =>
 C1 PR X (Instr.storeAt 42 t4 t19) <|
 A6 PR (F6 [.c 42 t4]) R
theorem A59 : A9 PR 84 := A7 Tryz.func84 (by kernel_rfl) rfl
theorem A6k {X : Nat → Prop} {t0 t1 : Value} {R : Value → WP} {w : World} (h : A08 X t0 t1 R w) : Fn PR X 84 #[t0, t1] w R := C6 (args := [t0, t1]) mixed Tryz.func84 (by kernel_rfl) h
def A1V (X : Nat → Prop) (t0 t1 : Value) (R : Value → WP) : WP :=
 B2 PR X (Instr.alloc 42 true (.tuple #[])) fun t4 =>
 drw <|
 A0 PR (B5 t1) fun t6 =>
 A0 PR (Instr.fieldAt 39 t6 1) fun t7 =>
 A6 PR (Instr.loadAt 33 t7) fun t8 =>
 A0 PR (B5 t0) fun t11 =>
 A0 PR (Instr.fieldAt 130 t11 1) fun t12 =>
 A6 PR (Instr.loadAt 3 t12) fun t13 =>
 B4 PR X 57 [t1, t13] fun t14 =>
 watch PR [(none, (Instr.loadAt 33 t7), t8)] <|
 B4 PR X 31 [t8, t14, (.int .i64 0)] fun t15 =>
 A0 PR (Instr.build 42 #[(1, (.bool true))]) fun t16 =>
 C1 PR X (Instr.storeAt 42 t4 t16) <|
 A6 PR (F6 [.c 42 t4]) R
theorem A7U : A9 PR 85 := A7 Tryz.func85 (by kernel_rfl) rfl
theorem A8F {X : Nat → Prop} {t0 t1 : Value} {R : Value → WP} {w : World} (h : A1V X t0 t1 R w) : Fn PR X 85 #[t0, t1] w R := C6 (args := [t0, t1]) mixed Tryz.func85 (by kernel_rfl) h
def A0l (X : Nat → Prop) (t0 t1 : Value) (R : Value → WP) : WP :=
 B2 PR X (Instr.alloc 42 true (.tuple #[])) fun t4 =>
 A0 PR (Instr.build 55 #[(0, t1)]) fun t8 =>
 A0 PR (B5 t0) fun t9 =>
 A0 PR (Instr.fieldAt 130 t9 2) fun t10 =>
 C1 PR X (Instr.storeAt 3 t10 (.int .i64 10)) <|
 A0 PR (B5 t0) fun t11 =>
 A0 PR (Instr.fieldAt 130 t11 7) fun t12 =>
 C1 PR X (Instr.storeAt 55 t12 t8) <|
 A0 PR (Instr.build 42 #[(0, (.bool true)), (1, (.bool true))]) fun t13 =>
 C1 PR X (Instr.storeAt 42 t4 t13) <|
 A6 PR (F6 [.c 42 t4]) R
theorem A0Y : A9 PR 130 := A7 Tryz.func130 (by kernel_rfl) rfl
theorem A62 {X : Nat → Prop} {t0 t1 : Value} {R : Value → WP} {w : World} (h : A0l X t0 t1 R w) : Fn PR X 130 #[t0, t1] w R := C6 (args := [t0, t1]) mixed Tryz.func130 (by kernel_rfl) h
def A1M (X : Nat → Prop) (t0 t1 : Value) (R : Value → WP) : WP :=
 A0 PR (B5 t0) fun t9 =>
 A0 PR (Instr.fieldAt 128 t9 0) fun t10 =>
 A6 PR (Instr.loadAt 9 t10) fun t11 =>
 B4 PR X 21 [t11] fun t12 =>
 A0 PR (Instr.extract t12 0) fun t13 =>
 A0 PR (Instr.extract t12 1) fun t14 =>
 B2 PR X (Instr.alloc 47 true (.tuple #[])) fun t5 =>
 C1 PR X (Instr.storeAt 47 t5 t13) <|
 jn (n := 1) (fun t4 =>
 A0 PR (Instr.fieldAt 47 t5 0) fun t19 =>
 A6 PR (Instr.loadAt 45 t19) fun t20 =>
 B4 PR X 166 [t20] fun t21 =>
 A0 PR (Instr.extract t21 0) fun t22 =>
 A0 PR (Instr.extract t21 1) fun t23 =>
 A0 PR (B5 t0) fun t24 =>
 A0 PR (Instr.fieldAt 128 t24 1) fun t25 =>
 C1 PR X (Instr.storeAt 9 t25 t22) <|
 drw <|
 A0 PR (B5 t0) fun t29 =>
 A0 PR (Instr.fieldAt 128 t29 1) fun t30 =>
 A6 PR (Instr.loadAt 9 t30) fun t31 =>
 A6 PR (Instr.loadAt 47 t5) fun t34 =>
 B4 PR X 167 [t31, t1] fun t33 =>
 watch PR [(none, (Instr.loadAt 47 t5), t34)] <|
 B4 PR X 58 [t34] fun t35 =>
 A0 PR (B5 t0) fun t36 =>
 A0 PR (Instr.fieldAt 128 t36 2) fun t37 =>
 C1 PR X (Instr.storeAt 3 t37 t33) <|
 A0 PR (B5 t0) fun t38 =>
 A0 PR (Instr.fieldAt 128 t38 3) fun t39 =>
 C1 PR X (Instr.storeAt 4 t39 t35) <|
 R (.bool true)) fun J1 =>
 A0 PR (binOp .neq 27 t14 (.int .i64 0)) fun t16 =>
 C3 t16 (
 R (.bool false)) (
 J1 (.bool false))
theorem A0r : A9 PR 131 := A7 Tryz.func131 (by kernel_rfl) rfl
theorem A8A {X : Nat → Prop} {t0 t1 : Value} {R : Value → WP} {w : World} (h : A1M X t0 t1 R w) : Fn PR X 131 #[t0, t1] w R := C6 (args := [t0, t1]) mixed Tryz.func131 (by kernel_rfl) h
def u0 (X : Nat → Prop) (t0 t1 : Value) (R : Value → WP) : WP :=
 drw <|
 A6 PR (Instr.loadAt 30 t0) fun t7 =>
 A0 PR (B5 t7) fun t8 =>
 A0 PR (Instr.fieldAt 130 t8 6) fun t9 =>
 A6 PR (Instr.loadAt 84 t9) fun t10 =>
 A6 PR (Instr.loadAt 30 t0) fun t11 =>
 A0 PR (B5 t11) fun t12 =>
 A0 PR (Instr.fieldAt 130 t12 0) fun t13 =>
 A0 PR (Instr.fieldAt 128 t13 1) fun t14 =>
 A6 PR (Instr.loadAt 9 t14) fun t15 =>
 B4 PR X 133 [t10, t15] fun t16 =>
 jn (n := 2) (fun t2 t3 =>
 drw <|
 A6 PR (Instr.loadAt 26 t1) fun t35 =>
 A0 PR (B5 t35) fun t36 =>
 A0 PR (Instr.fieldAt 39 t36 2) fun t37 =>
 A6 PR (Instr.loadAt 34 t37) fun t38 =>
 A6 PR (Instr.loadAt 30 t0) fun t39 =>
 A0 PR (B5 t39) fun t40 =>
 A0 PR (Instr.fieldAt 130 t40 4) fun t41 =>
 A6 PR (Instr.loadAt 3 t41) fun t42 =>
 A6 PR (Instr.loadAt 30 t0) fun t43 =>
 A0 PR (B5 t43) fun t44 =>
 A0 PR (Instr.fieldAt 130 t44 6) fun t45 =>
 A6 PR (Instr.loadAt 84 t45) fun t46 =>
 A0 PR (Instr.indexAt 84 t46 t16) fun t48 =>
 A0 PR (Instr.fieldAt 218 t48 2) fun t49 =>
 A6 PR (Instr.loadAt 3 t49) fun t50 =>
 B4 PR X 134 [t38, t42, t50] fun t51 =>
 A0 PR (Instr.extract t51 0) fun t52 =>
 A0 PR (Instr.extract t51 1) fun t53 =>
 A6 PR (Instr.loadAt 30 t0) fun t54 =>
 A0 PR (B5 t54) fun t55 =>
 A0 PR (Instr.fieldAt 130 t55 6) fun t56 =>
 A6 PR (Instr.loadAt 84 t56) fun t57 =>
 A0 PR (Instr.indexAt 84 t57 t16) fun t59 =>
 A0 PR (Instr.fieldAt 218 t59 2) fun t60 =>
 A6 PR (Instr.loadAt 3 t60) fun t61 =>
 R (.tuple #[t61, t52])) fun J1 =>
 drw <|
 A0 PR (binOp .lss 3 t16 (.int .i64 0)) fun t18 =>
 gj t18 false (fun J => A6 PR (Instr.loadAt 30 t0) J) fun t20 =>
 gj t18 false (fun J => A0 PR (B5 t20) J) fun t21 =>
 gj t18 false (fun J => A0 PR (Instr.fieldAt 130 t21 6) J) fun t22 =>
 gj t18 false (fun J => A6 PR (Instr.loadAt 84 t22) J) fun t23 =>
 gj t18 false (fun J => J t16) fun t24 =>
 gj t18 false (fun J => A0 PR (Instr.indexAt 84 t23 t24) J) fun t25 =>
 gj t18 false (fun J => A0 PR (Instr.fieldAt 218 t25 3) J) fun t26 =>
 gj t18 false (fun J => A6 PR (Instr.loadAt 3 t26) J) fun t27 =>
 gj t18 false (fun J => A6 PR (Instr.loadAt 30 t0) J) fun t28 =>
 gj t18 false (fun J => A0 PR (B5 t28) J) fun t29 =>
 gj t18 false (fun J => A0 PR (Instr.fieldAt 130 t29 5) J) fun t30 =>
 gj t18 false (fun J => A6 PR (Instr.loadAt 3 t30) J) fun t31 =>
 gj t18 false (fun J => A0 PR (binOp .lss 3 t27 t31) J) fun t32 =>
 A0 PR (do pure (if ← asBool t18 then (.bool true) else t32)) fun t33 =>
 C3 t33 (
 R (.tuple #[(.int .i64 0), (.bool false)])) (
 J1 (.int .i64 0) (.bool false))
theorem A35 : A9 PR 132 := A7 Tryz.func132 (by kernel_rfl) rfl
theorem A4J {X : Nat → Prop} {t0 t1 : Value} {R : Value → WP} {w : World} (h : u0 X t0 t1 R w) : Fn PR X 132 #[t0, t1] w R := C6 (args := [t0, t1]) mixed Tryz.func132 (by kernel_rfl) h
end Go.Proofs.YtjobgnabneddjaaGreat
namespace Go.Proofs.YtjobgnabneddjaaGreat
open Go
structure JW where
 text : ByteArray
 key : ByteArray
 shard : Int
 closing : Bool
 who : Int
 st : Int
 ep : Int
 slot : Int
 now : Int
 table : List EnV
 ans : AnsV
def L4 (x : WS) (i : Int) : List F7 := match H8 x.sl i with | .rdy p => p | _ => []
def B99 (x : WS) (i : Int) : Bool := match H8 x.sl i with | .rdy _ => true | _ => false
def JW.refuse (j : JW) (e : Int) : JW := { j with st := 10, ans := ⟨e, 0, false, 0⟩ }
def JW.rd (j : JW) (sh : Int) : JW := { j with key := A42 (F5 j.text).1, shard := (Y7 (A42 (F5 j.text).1) sh : Nat), closing := A6a (F5 j.text).1 (F5 j.text).2.1 }
abbrev JwR := JW × WS × A10
def noT : A10 := (false, false, false)
def jw0 (j : JW) (x : WS) : JwR :=
 if F8 x.c j.who < 0 then (j.refuse 1, x, true, true, false)
 else if (F5 j.text).2.2 ≠ 0 then (j.refuse 9, x, true, true, false)
 else ({ j.rd x.c.sh with ep := D9 x.cells 0 }, x, noT)
def jw1 (j : JW) (x : WS) : JwR := (j, { x with cells := K3 x.cells (F8 x.c j.who) (IntKind.i64.wrap (j.ep + 1)) }, noT)
def jw2 (j : JW) (x : WS) : JwR := if D9 x.cells 0 = j.ep then (j, x, noT) else ({ j with ep := D9 x.cells 0, st := 1 }, x, noT)
def jw3 (j : JW) (x : WS) : JwR := (j, { x with own := j5 x.own j.shard j.who }, noT)
def jw4 (j : JW) (x : WS) : JwR := ({ j with slot := IntKind.i64.wrap (D9 x.cells 1 - 1), now := x.now }, x, true, false, false)
def jw5 (j : JW) (x : WS) : JwR := ({ j with table := x.tabs.getD j.shard.toNat [] }, x, noT)
def jw6 (j : JW) (x : WS) : JwR :=
 let r := Y0 j.table (L4 x j.slot) j.key j.closing j.now x.c.idle
 ({ j with table := r.1, ans := r.2.1 }, x, false, false, decide (0 ≤ j.slot) && !B99 x j.slot)
def jw7 (j : JW) (x : WS) : JwR := (j, { x with tabs := x.tabs.set j.shard.toNat j.table }, noT)
def jw8 (j : JW) (x : WS) : JwR := (j, { x with own := Q5 x.own j.shard j.who }, noT)
def jw9 (j : JW) (x : WS) : JwR := (j, { x with cells := K3 x.cells (F8 x.c j.who) 0 }, false, true, false)
def E0 : Nat → JW → WS → JwR
 | 0 => jw0
 | 1 => jw1
 | 2 => jw2
 | 3 => jw3
 | 4 => jw4
 | 5 => jw5
 | 6 => jw6
 | 7 => jw7
 | 8 => jw8
 | _ => jw9
def JW.ready (j : JW) (x : WS) : Bool := decide (j.st < 10) && (!decide (j.st = 3) || decide (z8 x.own j.shard < 0))
def JW.step (j : JW) (x : WS) : JwR := if j.ready x then E0 j.st.toNat { j with st := j.st + 1 } x else (j, x, noT)
def F4 (who : Int) (text : ByteArray) : JW := ⟨text, K6, 0, false, who, 0, 0, 0, 0, [], noA⟩
end Go.Proofs.YtjobgnabneddjaaGreat
namespace Go.Proofs.YtjobgnabneddjaaGreat
open Go
def G7 (j : JW) (tv : Value) : Array Value := #[.string j.text, .string j.key, .int .i64 j.shard, .bool j.closing, .int .i64 j.who, .int .i64 j.st, .int .i64 j.ep, .int .i64 j.slot, .int .i64 j.now, tv, .int .i64 j.ans.err, .int .i64 j.ans.bk, .bool j.ans.made, .int .i64 j.ans.count]
def F9 (b : Nat) (j : JW) (tv : Value) : Res := .pt b (.cells (G7 j tv) 130)
theorem B1g (w : World) (who : Int) (text : ByteArray) :
  Fn PR B8 17 #[.int .i64 who, .string text] w (Rn [] w (fun (b : Nat) u => u = .pointer (some ⟨b, 0, none⟩)) fun b => [F9 b (F4 who text) H9]) := by
 refine B4d (TW.go (κ := false) (S := []) ?_)
 unfold A7q
 (have zz:=trivial;repeat((first|clear zz|with_reducible first|refine A3 ?_|refine A5 fun _=>?_|refine A4 fun _=>?_);try simp(disch:=first|omega|assumption|((repeat(first|exact A1|exact uH|apply A2|apply uT));first|done|fail)|(simp;first|done|omega|fail))[]))
 rename_i b
 refine B1 b rfl ?_
 simp only [F9, G7, F4, H9, noA, K6]
 (repeat' constructor)
theorem C7J {w : World} {b : Nat} {j : JW} {tv : Value} (h : bl w b = some (.cells (G7 j tv) 130 (0, 0))) : w.cell? ⟨b, 5, none⟩ = some (.int .i64 j.st) := by rw [E1 h]; rfl
theorem A7B (w : World) (b : Nat) (j : JW) (tv : Value) (h : bl w b = some (.cells (G7 j tv) 130 (0, 0))) :
  Fn PR B8 22 #[.pointer (some ⟨b, 0, none⟩)] w (fun u w' => u = .int .i64 j.st ∧ C9 [] w w') := by
 refine Fn.pure (A8Q (TW.go (κ := false) (S := []) ?_))
 unfold A1S
 have h5 := C7J h
 (have zz:=trivial;repeat((first|clear zz|with_reducible first|refine A3 ?_|refine A5 fun _=>?_|refine A4 fun _=>?_);try simp(disch:=first|omega|assumption|((repeat(first|exact A1|exact uH|apply A2|apply uT));first|done|fail)|(simp;first|done|omega|fail))[h5]))
 exact B0 rfl
theorem B0q (w : World) (b : Nat) (j : JW) (tv : Value) (h : bl w b = some (.cells (G7 j tv) 130 (0, 0))) :
  Fn PR B8 27 #[.pointer (some ⟨b, 0, none⟩)] w (fun u w' => u = j.ans.val ∧ C9 [] w w') := by
 refine Fn.pure (A7Z (TW.go (κ := false) (S := []) ?_))
 unfold A0w
 have e2 : g4 w b 10 4 = some [.int .i64 j.ans.err, .int .i64 j.ans.bk, .bool j.ans.made, .int .i64 j.ans.count] := A1d (by rfl) (L9.bl h)
 (have zz:=trivial;repeat((first|clear zz|with_reducible first|refine A3 ?_|refine A5 fun _=>?_|refine A4 fun _=>?_);try simp(disch:=first|omega|assumption|((repeat(first|exact A1|exact uH|apply A2|apply uT));first|done|fail)|(simp;first|done|omega|fail))[e2]))
 exact B0 rfl
theorem B8s (w : World) (b : Nat) (j : JW) (tv : Value) (m : WoH) (h : bl w b = some (.cells (G7 j tv) 130 (0, 0))) (hm : WoAt w m) :
  Fn PR B8 23 #[.pointer (some ⟨b, 0, none⟩), .pointer (some ⟨m.b, 0, none⟩)] w (fun u w' => u = .bool (j.ready m.ws) ∧ C9 [] w w') := by
 refine Fn.pure (A8K (TW.go (κ := false) (S := []) ?_))
 unfold A1T
 have h5 := C7J h
 have h2 : w.cell? ⟨b, 2, none⟩ = some (.int .i64 j.shard) := by rw [E1 h]; rfl
 have hc : w.cell? ⟨m.b, 5, none⟩ = some (.pointer (some ⟨m.bc, 0, none⟩)) := by rw [E1 hm.b]; rfl
 have ho : m.ws.own = m.own := rfl
 unfold JW.ready
 by_cases c1 : j.st < 10
 case neg =>
  (have zz:=trivial;repeat((first|clear zz|with_reducible first|refine A3 ?_|refine A5 fun _=>?_|refine A4 fun _=>?_);try simp(disch:=first|omega|assumption|((repeat(first|exact A1|exact uH|apply A2|apply uT));first|done|fail)|(simp;first|done|omega|fail))[h5, c1]))
  exact B0 (by simp [c1])
 by_cases c2 : j.st = 3
 case neg =>
  (have zz:=trivial;repeat((first|clear zz|with_reducible first|refine A3 ?_|refine A5 fun _=>?_|refine A4 fun _=>?_);try simp(disch:=first|omega|assumption|((repeat(first|exact A1|exact uH|apply A2|apply uT));first|done|fail)|(simp;first|done|omega|fail))[h5, c1, c2]))
  exact B0 (by simp [c1, c2])
 (have zz:=trivial;repeat((first|clear zz|with_reducible first|refine A3 ?_|refine A5 fun _=>?_|refine A4 fun _=>?_);try simp(disch:=first|omega|assumption|((repeat(first|exact A1|exact uH|apply A2|apply uT));first|done|fail)|(simp;first|done|omega|fail))[h5, c1, c2, h2, hc]))
 refine C4 g6 (fun w' hw' => let g := hm.ks hw'.ks; A9u w' m.bc m.cn m.cv m.ov m.own j.shard g.c g.v) ?_
 (have zz:=trivial;repeat((first|clear zz|with_reducible first|refine A3 ?_|refine A5 fun _=>?_|refine A4 fun _=>?_);try simp(disch:=first|omega|assumption|((repeat(first|exact A1|exact uH|apply A2|apply uT));first|done|fail)|(simp;first|done|omega|fail))[c1, c2]))
 exact B0 (by simp [c2, ho])
theorem B0n (w : World) (b : Nat) (j : JW) (tv : Value) (e : Int) (hw : LW false [b] w [F9 b j tv] w) :
  Fn PR B8 130 #[.pointer (some ⟨b, 0, none⟩), .int .i64 e] w (Rn [b] w (fun (_ : Unit) u => u = M0 (true, true, false)) fun _ => [F9 b (j.refuse e) tv]) := by
 refine A62 (TW.goH (κ := false) (S := [b]) ?_ hw)
 unfold A0l
 simp only [F9, G7, JW.refuse]
 (have zz:=trivial;repeat((first|clear zz|with_reducible first|refine A3 ?_|refine A5 fun _=>?_|refine A4 fun _=>?_);try simp(disch:=first|omega|assumption|((repeat(first|exact A1|exact uH|apply A2|apply uT));first|done|fail)|(simp;first|done|omega|fail))[]))
 exact B1 () rfl (by (repeat' constructor))
theorem B4b (w : World) (b : Nat) (j : JW) (tv : Value) (sh : Int) (ht : j.text.size < 2 ^ 40) (hsh : sh < 2 ^ 63) (hw : LW false [b] w [F9 b j tv] w) :
  Fn PR B8 131 #[.pointer (some ⟨b, 0, none⟩), .int .i64 sh] w (Rn [b] w (fun (_ : Unit) u => u = .bool (decide ((F5 j.text).2.2 = 0))) fun _ => [F9 b (if (F5 j.text).2.2 = 0 then j.rd sh else j) tv]) := by
 refine A8A (TW.goH (κ := false) (S := [b]) ?_ hw)
 unfold A1M
 simp only [F9, G7]
 (have zz:=trivial;repeat((first|clear zz|with_reducible first|refine A3 ?_|refine A5 fun _=>?_|refine A4 fun _=>?_);try simp(disch:=first|omega|assumption|((repeat(first|exact A1|exact uH|apply A2|apply uT));first|done|fail)|(simp;first|done|omega|fail))[]))
 refine C4 B0y (fun w' hw' => B3Y w' j.text ht) ?_
 by_cases c1 : (F5 j.text).2.2 = 0
 case neg =>
  simp only [if_neg c1, decide_eq_false c1]
  (have zz:=trivial;repeat((first|clear zz|with_reducible first|refine A3 ?_|refine A5 fun _=>?_|refine A4 fun _=>?_);try simp(disch:=first|omega|assumption|((repeat(first|exact A1|exact uH|apply A2|apply uT));first|done|fail)|(simp;first|done|omega|fail))[packet.val, U8, c1]))
  exact B1 () rfl (by (repeat' constructor))
 simp only [if_pos c1, decide_eq_true c1]
 have hk := A8n (F5 j.text).1
 (have zz:=trivial;repeat((first|clear zz|with_reducible first|refine A3 ?_|refine A5 fun _=>?_|refine A4 fun _=>?_);try simp(disch:=first|omega|assumption|((repeat(first|exact A1|exact uH|apply A2|apply uT));first|done|fail)|(simp;first|done|omega|fail))[packet.val, U8, c1]))
 refine C4 (u := A53 (F5 j.text).1) B0z (fun w' hw' => C2e w' (F5 j.text).1) ?_
 (have zz:=trivial;repeat((first|clear zz|with_reducible first|refine A3 ?_|refine A5 fun _=>?_|refine A4 fun _=>?_);try simp(disch:=first|omega|assumption|((repeat(first|exact A1|exact uH|apply A2|apply uT));first|done|fail)|(simp;first|done|omega|fail))[A53]))
 rw [show (if W8 (F5 j.text).1 = true then A3L (F5 j.text).1 else K6) = A42 (F5 j.text).1 from rfl]
 refine C4 B2U (fun w' hw' => C32 w' _ sh hk hsh) ?_
 (have zz:=trivial;repeat((first|clear zz|with_reducible first|refine A3 ?_|refine A5 fun _=>?_|refine A4 fun _=>?_);try simp(disch:=first|omega|assumption|((repeat(first|exact A1|exact uH|apply A2|apply uT));first|done|fail)|(simp;first|done|omega|fail))[]))
 rw [A3W (by (repeat constructor)) (by rfl)]
 refine C4 A84 (fun w' _ => B92 w' (F5 j.text).1 (F5 j.text).2.1) ?_
 (have zz:=trivial;repeat((first|clear zz|with_reducible first|refine A3 ?_|refine A5 fun _=>?_|refine A4 fun _=>?_);try simp(disch:=first|omega|assumption|((repeat(first|exact A1|exact uH|apply A2|apply uT));first|done|fail)|(simp;first|done|omega|fail))[]))
 refine B1 () rfl ?_
 simp only [JW.rd]
 (repeat' constructor)
end Go.Proofs.YtjobgnabneddjaaGreat
namespace Go.Proofs.YtjobgnabneddjaaGreat
open Go
structure WoZ where
 cn : Int
 cells : List Int
 own : List Int
 tv : Value
 ts : Q9
def WoH.uz (m : WoH) (d : WoZ) : WoH := { m with cn := d.cn, cells := d.cells, own := d.own, tv := d.tv, ts := d.ts }
def WoH.dz (m : WoH) : WoZ := ⟨m.cn, m.cells, m.own, m.tv, m.ts⟩
structure JwOk (j : JW) (tv : Value) (m : WoH) (P : Q9) : Prop where
 ws : WsOk m.ws
 tabs : TabsOk m P
 tb : (tv, j.table) ∈ P
 shn : m.ts.length = m.c.sh
 text : j.text.size < 2 ^ 40
 key : j.key.size < 2 ^ 60
 shard : 0 ≤ j.shard ∧ j.shard < m.ts.length
 keys : P5 j.table
 len : j.table.length ≤ 1000000
 slot : -1 ≤ j.slot ∧ j.slot ≤ 1000
 ep : 0 ≤ D9 m.cells 0 ∧ D9 m.cells 0 ≤ 1000000
 cur : 0 ≤ D9 m.cells 1 ∧ D9 m.cells 1 ≤ 1000
abbrev JwY := Value × WoZ × Q9
def jwF (m : WoH) (P : Q9) (r : JwR) (y : JwY) : Prop := (m.uz y.2.1).ws = r.2.1 ∧ A3V y.2.1.ts y.2.2 ∧ (y.1, r.1.table) ∈ y.2.2 ∧ B2Q P y.2.2 r.1.table
def N1 (b : Nat) (m : WoH) (r : JwR) (y : JwY) : List Res := F9 b r.1 y.1 :: d6 y.2.2 :: B9 (m.uz y.2.1)
def E3 (b : Nat) (j : JW) (tv : Value) (m : WoH) (P : Q9) : List Res := F9 b j tv :: d6 P :: B9 m
abbrev A3P (f : FuncId) (w : World) (b : Nat) (j : JW) (tv : Value) (m : WoH) (P : Q9) (r : JwR) : Prop :=
 Fn PR B8 f #[.pointer (some ⟨b, 0, none⟩), .pointer (some ⟨m.b, 0, none⟩)] w (Rn (B6 (E3 b j tv m P)) w (fun (y : JwY) u => u = M0 r.2.2 ∧ jwF m P r y) (N1 b m r))
theorem L6 {m : WoH} {P : Q9} {tv : Value} {r : JwR} {d : WoZ} (h1 : (m.uz d).ws = r.2.1) (h2 : d.ts = m.ts) (hP : A3V m.ts P) (h3 : (tv, r.1.table) ∈ P) : jwF m P r (tv, d, P) := ⟨h1, by rw [h2]; exact hP, h3, .same _ _⟩
theorem C7H (w : World) (b : Nat) (j : JW) (tv : Value) (m : WoH) (P : Q9) (h : JwOk j tv m P) (hw : LW false (B6 (E3 b j tv m P)) w (E3 b j tv m P) w) : A3P 77 w b j tv m P (jw1 j m.ws) := by
 refine B0Z (TW.goH (κ := false) ?_ hw)
 unfold A2s
 have hwk := h.ws.wk
 have hcl : m.cells.length ≤ 1024 := by have := h.ws.cells; have e : m.ws.cells = m.cells := rfl; rw [e] at this; omega
 generalize hS : B6 (E3 b j tv m P) = S at *
 simp only [E3, F9, G7, B9, C8, D1]
 (have zz:=trivial;repeat((first|clear zz|with_reducible first|refine A3 ?_|refine A5 fun _=>?_|refine A4 fun _=>?_);try simp(disch:=first|omega|assumption|((repeat(first|exact A1|exact uH|apply A2|apply uT));first|done|fail)|(simp;first|done|omega|fail))[]))
 refine C4 G0 (fun w' hw' => A3D w' m.b m.c _ _ _ _ _ _ j.who hwk.2 (hw'.pt (b := m.b) (by unfold D1; (repeat constructor)))) ?_
 (have zz:=trivial;repeat((first|clear zz|with_reducible first|refine A3 ?_|refine A5 fun _=>?_|refine A4 fun _=>?_);try simp(disch:=first|omega|assumption|((repeat(first|exact A1|exact uH|apply A2|apply uT));first|done|fail)|(simp;first|done|omega|fail))[]))
 refine C7 (Hc := D0 m.bc m.cn m.cv m.ov m.cells m.own) j0 (fun w' _ hs => A9H w' m.bc m.cn m.cv m.ov m.cells m.own (F8 m.c j.who) (IntKind.i64.wrap (j.ep + 1)) hcl hs) (by unfold D0; (repeat' constructor)) ?_
 rintro n' v rfl
 simp only [D0, List.cons_append, List.nil_append]
 (have zz:=trivial;repeat((first|clear zz|with_reducible first|refine A3 ?_|refine A5 fun _=>?_|refine A4 fun _=>?_);try simp(disch:=first|omega|assumption|((repeat(first|exact A1|exact uH|apply A2|apply uT));first|done|fail)|(simp;first|done|omega|fail))[]))
 refine B1 (tv, { m.dz with cn := n', cells := K3 m.cells (F8 m.c j.who) (IntKind.i64.wrap (j.ep + 1)) }, P) ⟨rfl, L6 rfl rfl h.tabs.pool h.tb⟩ ?_
 simp only [N1, jw1, F9, G7, B9, C8, D1, WoH.uz, WoH.dz]
 (repeat' constructor)
theorem C55 (w : World) (b : Nat) (j : JW) (tv : Value) (m : WoH) (P : Q9) (h : JwOk j tv m P) (hw : LW false (B6 (E3 b j tv m P)) w (E3 b j tv m P) w) : A3P 85 w b j tv m P (jw9 j m.ws) := by
 refine A8F (TW.goH (κ := false) ?_ hw)
 unfold A1V
 have hwk := h.ws.wk
 have hcl : m.cells.length ≤ 1024 := by have := h.ws.cells; have e : m.ws.cells = m.cells := rfl; rw [e] at this; omega
 generalize hS : B6 (E3 b j tv m P) = S at *
 simp only [E3, F9, G7, B9, C8, D1]
 (have zz:=trivial;repeat((first|clear zz|with_reducible first|refine A3 ?_|refine A5 fun _=>?_|refine A4 fun _=>?_);try simp(disch:=first|omega|assumption|((repeat(first|exact A1|exact uH|apply A2|apply uT));first|done|fail)|(simp;first|done|omega|fail))[]))
 refine C4 G0 (fun w' hw' => A3D w' m.b m.c _ _ _ _ _ _ j.who hwk.2 (hw'.pt (b := m.b) (by unfold D1; (repeat constructor)))) ?_
 (have zz:=trivial;repeat((first|clear zz|with_reducible first|refine A3 ?_|refine A5 fun _=>?_|refine A4 fun _=>?_);try simp(disch:=first|omega|assumption|((repeat(first|exact A1|exact uH|apply A2|apply uT));first|done|fail)|(simp;first|done|omega|fail))[]))
 refine C7 (Hc := D0 m.bc m.cn m.cv m.ov m.cells m.own) j0 (fun w' _ hs => A9H w' m.bc m.cn m.cv m.ov m.cells m.own (F8 m.c j.who) 0 hcl hs) (by unfold D0; (repeat' constructor)) ?_
 rintro n' v rfl
 simp only [D0, List.cons_append, List.nil_append]
 (have zz:=trivial;repeat((first|clear zz|with_reducible first|refine A3 ?_|refine A5 fun _=>?_|refine A4 fun _=>?_);try simp(disch:=first|omega|assumption|((repeat(first|exact A1|exact uH|apply A2|apply uT));first|done|fail)|(simp;first|done|omega|fail))[]))
 refine B1 (tv, { m.dz with cn := n', cells := K3 m.cells (F8 m.c j.who) 0 }, P) ⟨rfl, L6 rfl rfl h.tabs.pool h.tb⟩ ?_
 simp only [N1, jw9, F9, G7, B9, C8, D1, WoH.uz, WoH.dz]
 (repeat' constructor)
theorem C6f (w : World) (b : Nat) (j : JW) (tv : Value) (m : WoH) (P : Q9) (h : JwOk j tv m P) (hw : LW false (B6 (E3 b j tv m P)) w (E3 b j tv m P) w) : A3P 79 w b j tv m P (jw3 j m.ws) := by
 refine A9K (TW.goH (κ := false) ?_ hw)
 unfold A2J
 have hol := h.tabs.own
 generalize hS : B6 (E3 b j tv m P) = S at *
 simp only [E3, F9, G7, B9, C8, D1]
 (have zz:=trivial;repeat((first|clear zz|with_reducible first|refine A3 ?_|refine A5 fun _=>?_|refine A4 fun _=>?_);try simp(disch:=first|omega|assumption|((repeat(first|exact A1|exact uH|apply A2|apply uT));first|done|fail)|(simp;first|done|omega|fail))[]))
 refine C7 (Hc := D0 m.bc m.cn m.cv m.ov m.cells m.own) A0v (fun w' _ hs => B5v w' m.bc m.cn m.cv m.ov m.cells m.own j.shard j.who hol hs) (by unfold D0; (repeat' constructor)) ?_
 rintro n' v ⟨r, rfl⟩
 simp only [D0, List.cons_append, List.nil_append]
 (have zz:=trivial;repeat((first|clear zz|with_reducible first|refine A3 ?_|refine A5 fun _=>?_|refine A4 fun _=>?_);try simp(disch:=first|omega|assumption|((repeat(first|exact A1|exact uH|apply A2|apply uT));first|done|fail)|(simp;first|done|omega|fail))[]))
 refine B1 (tv, { m.dz with cn := n', own := j5 m.own j.shard j.who }, P) ⟨rfl, L6 rfl rfl h.tabs.pool h.tb⟩ ?_
 simp only [N1, jw3, F9, G7, B9, C8, D1, WoH.uz, WoH.dz]
 (repeat' constructor)
theorem C58 (w : World) (b : Nat) (j : JW) (tv : Value) (m : WoH) (P : Q9) (h : JwOk j tv m P) (hw : LW false (B6 (E3 b j tv m P)) w (E3 b j tv m P) w) : A3P 84 w b j tv m P (jw8 j m.ws) := by
 refine A6k (TW.goH (κ := false) ?_ hw)
 unfold A08
 have hol := h.tabs.own
 generalize hS : B6 (E3 b j tv m P) = S at *
 simp only [E3, F9, G7, B9, C8, D1]
 (have zz:=trivial;repeat((first|clear zz|with_reducible first|refine A3 ?_|refine A5 fun _=>?_|refine A4 fun _=>?_);try simp(disch:=first|omega|assumption|((repeat(first|exact A1|exact uH|apply A2|apply uT));first|done|fail)|(simp;first|done|omega|fail))[]))
 refine C7 (Hc := D0 m.bc m.cn m.cv m.ov m.cells m.own) x7 (fun w' _ hs => B23 w' m.bc m.cn m.cv m.ov m.cells m.own j.shard j.who hol hs) (by unfold D0; (repeat' constructor)) ?_
 rintro n' v ⟨r, rfl⟩
 simp only [D0, List.cons_append, List.nil_append]
 (have zz:=trivial;repeat((first|clear zz|with_reducible first|refine A3 ?_|refine A5 fun _=>?_|refine A4 fun _=>?_);try simp(disch:=first|omega|assumption|((repeat(first|exact A1|exact uH|apply A2|apply uT));first|done|fail)|(simp;first|done|omega|fail))[]))
 refine B1 (tv, { m.dz with cn := n', own := Q5 m.own j.shard j.who }, P) ⟨rfl, L6 rfl rfl h.tabs.pool h.tb⟩ ?_
 simp only [N1, jw8, F9, G7, B9, C8, D1, WoH.uz, WoH.dz]
 (repeat' constructor)
theorem C7D (w : World) (b : Nat) (j : JW) (tv : Value) (m : WoH) (P : Q9) (h : JwOk j tv m P) (hw : LW false (B6 (E3 b j tv m P)) w (E3 b j tv m P) w) : A3P 78 w b j tv m P (jw2 j m.ws) := by
 refine A77 (TW.goH (κ := false) ?_ hw)
 unfold A1J
 have hwk := h.ws.wk
 have hcl : m.cells.length ≤ 1024 := by have := h.ws.cells; have e : m.ws.cells = m.cells := rfl; rw [e] at this; omega
 generalize hS : B6 (E3 b j tv m P) = S at *
 have e0 : D9 m.ws.cells 0 = D9 m.cells 0 := rfl
 unfold jw2
 rw [e0]
 by_cases c1 : D9 m.cells 0 = j.ep
 ·rw [if_pos c1]
  simp only [E3, F9, G7, B9, C8, D1]
  (have zz:=trivial;repeat((first|clear zz|with_reducible first|refine A3 ?_|refine A5 fun _=>?_|refine A4 fun _=>?_);try simp(disch:=first|omega|assumption|((repeat(first|exact A1|exact uH|apply A2|apply uT));first|done|fail)|(simp;first|done|omega|fail))[]))
  refine C7 (Hc := D0 m.bc m.cn m.cv m.ov m.cells m.own) P8 (fun w' _ hs => A3s w' m.bc m.cn m.cv m.ov m.cells m.own 0 hcl hs) (by unfold D0; (repeat' constructor)) ?_
  rintro n' v rfl
  rw [c1]
  simp only [D0, List.cons_append, List.nil_append]
  (have zz:=trivial;repeat((first|clear zz|with_reducible first|refine A3 ?_|refine A5 fun _=>?_|refine A4 fun _=>?_);try simp(disch:=first|omega|assumption|((repeat(first|exact A1|exact uH|apply A2|apply uT));first|done|fail)|(simp;first|done|omega|fail))[]))
  refine B1 (tv, { m.dz with cn := n' }, P) ⟨rfl, L6 rfl rfl h.tabs.pool h.tb⟩ ?_
  simp only [N1, F9, G7, B9, C8, D1, WoH.uz, WoH.dz]
  (repeat' constructor)
 ·rw [if_neg c1]
  simp only [E3, F9, G7, B9, C8, D1]
  (have zz:=trivial;repeat((first|clear zz|with_reducible first|refine A3 ?_|refine A5 fun _=>?_|refine A4 fun _=>?_);try simp(disch:=first|omega|assumption|((repeat(first|exact A1|exact uH|apply A2|apply uT));first|done|fail)|(simp;first|done|omega|fail))[]))
  refine C7 (Hc := D0 m.bc m.cn m.cv m.ov m.cells m.own) P8 (fun w' _ hs => A3s w' m.bc m.cn m.cv m.ov m.cells m.own 0 hcl hs) (by unfold D0; (repeat' constructor)) ?_
  rintro n' v rfl
  simp only [D0, List.cons_append, List.nil_append]
  (have zz:=trivial;repeat((first|clear zz|with_reducible first|refine A3 ?_|refine A5 fun _=>?_|refine A4 fun _=>?_);try simp(disch:=first|omega|assumption|((repeat(first|exact A1|exact uH|apply A2|apply uT));first|done|fail)|(simp;first|done|omega|fail))[c1]))
  refine B1 (tv, { m.dz with cn := n' }, P) ⟨rfl, L6 rfl rfl h.tabs.pool h.tb⟩ ?_
  simp only [N1, F9, G7, B9, C8, D1, WoH.uz, WoH.dz]
  (repeat' constructor)
theorem C59 (w : World) (b : Nat) (j : JW) (tv : Value) (m : WoH) (P : Q9) (h : JwOk j tv m P) (hw : LW false (B6 (E3 b j tv m P)) w (E3 b j tv m P) w) : A3P 80 w b j tv m P (jw4 j m.ws) := by
 refine A5l (TW.goH (κ := false) ?_ hw)
 unfold A0Q
 have hwk := h.ws.wk
 have hcl : m.cells.length ≤ 1024 := by have := h.ws.cells; have e : m.ws.cells = m.cells := rfl; rw [e] at this; omega
 generalize hS : B6 (E3 b j tv m P) = S at *
 simp only [E3, F9, G7, B9, C8, D1]
 (have zz:=trivial;repeat((first|clear zz|with_reducible first|refine A3 ?_|refine A5 fun _=>?_|refine A4 fun _=>?_);try simp(disch:=first|omega|assumption|((repeat(first|exact A1|exact uH|apply A2|apply uT));first|done|fail)|(simp;first|done|omega|fail))[]))
 refine C7 (Hc := D0 m.bc m.cn m.cv m.ov m.cells m.own) P8 (fun w' _ hs => A3s w' m.bc m.cn m.cv m.ov m.cells m.own 1 hcl hs) (by unfold D0; (repeat' constructor)) ?_
 rintro n' v rfl
 obtain ⟨z, hz⟩ : ∃ z, z = IntKind.i64.wrap (D9 m.cells 1 - 1) := ⟨_, rfl⟩
 have e4 : jw4 j m.ws = ({ j with slot := z, now := m.now }, m.ws, true, false, false) := by rw [hz]; rfl
 rw [e4]
 simp only [D0, List.cons_append, List.nil_append, C8V, ← hz]
 (have zz:=trivial;repeat((first|clear zz|with_reducible first|refine A3 ?_|refine A5 fun _=>?_|refine A4 fun _=>?_);try simp(disch:=first|omega|assumption|((repeat(first|exact A1|exact uH|apply A2|apply uT));first|done|fail)|(simp;first|done|omega|fail))[← hz]))
 refine B1 (tv, { m.dz with cn := n' }, P) ⟨rfl, L6 rfl rfl h.tabs.pool h.tb⟩ ?_
 simp only [N1, F9, G7, B9, C8, D1, WoH.uz, WoH.dz]
 (repeat' constructor)
theorem C6N (w : World) (b : Nat) (j : JW) (tv : Value) (m : WoH) (P : Q9) (h : JwOk j tv m P) (hsh : m.c.sh ≤ 1000) (hw : LW false (B6 (E3 b j tv m P)) w (E3 b j tv m P) w) : A3P 76 w b j tv m P (jw0 j m.ws) := by
 refine A8Y (TW.goH (κ := false) ?_ hw)
 unfold A1b
 have hwk := h.ws.wk
 have hcl : m.cells.length ≤ 1024 := by have := h.ws.cells; have e : m.ws.cells = m.cells := rfl; rw [e] at this; omega
 generalize hS : B6 (E3 b j tv m P) = S at *
 have e0 : m.ws.c = m.c := rfl
 have e1 : D9 m.ws.cells 0 = D9 m.cells 0 := rfl
 unfold jw0
 rw [e0, e1]
 by_cases c1 : F8 m.c j.who < 0
 ·rw [if_pos c1]
  simp only [E3, F9, G7, B9, C8, D1]
  (have zz:=trivial;repeat((first|clear zz|with_reducible first|refine A3 ?_|refine A5 fun _=>?_|refine A4 fun _=>?_);try simp(disch:=first|omega|assumption|((repeat(first|exact A1|exact uH|apply A2|apply uT));first|done|fail)|(simp;first|done|omega|fail))[]))
  refine C4 G0 (fun w' hw' => A3D w' m.b m.c _ _ _ _ _ _ j.who hwk.2 (hw'.pt (b := m.b) (by unfold D1; (repeat constructor)))) ?_
  (have zz:=trivial;repeat((first|clear zz|with_reducible first|refine A3 ?_|refine A5 fun _=>?_|refine A4 fun _=>?_);try simp(disch:=first|omega|assumption|((repeat(first|exact A1|exact uH|apply A2|apply uT));first|done|fail)|(simp;first|done|omega|fail))[c1]))
  refine C7 (Hc := [F9 b j tv]) A0Y (fun w' _ hs => B0n w' b j tv 1 hs) (by unfold F9 G7; (repeat' constructor)) ?_
  rintro _ v rfl
  simp only [List.cons_append, List.nil_append, M0, F9, G7]
  (have zz:=trivial;repeat((first|clear zz|with_reducible first|refine A3 ?_|refine A5 fun _=>?_|refine A4 fun _=>?_);try simp(disch:=first|omega|assumption|((repeat(first|exact A1|exact uH|apply A2|apply uT));first|done|fail)|(simp;first|done|omega|fail))[]))
  refine B1 (tv, m.dz, P) ⟨rfl, L6 rfl rfl h.tabs.pool h.tb⟩ ?_
  simp only [N1, F9, G7, B9, C8, D1, WoH.uz, WoH.dz]
  (repeat' constructor)
 rw [if_neg c1]
 by_cases c2 : (F5 j.text).2.2 = 0
 case neg =>
  rw [if_pos c2]
  simp only [E3, F9, G7, B9, C8, D1]
  (have zz:=trivial;repeat((first|clear zz|with_reducible first|refine A3 ?_|refine A5 fun _=>?_|refine A4 fun _=>?_);try simp(disch:=first|omega|assumption|((repeat(first|exact A1|exact uH|apply A2|apply uT));first|done|fail)|(simp;first|done|omega|fail))[]))
  refine C4 G0 (fun w' hw' => A3D w' m.b m.c _ _ _ _ _ _ j.who hwk.2 (hw'.pt (b := m.b) (by unfold D1; (repeat constructor)))) ?_
  (have zz:=trivial;repeat((first|clear zz|with_reducible first|refine A3 ?_|refine A5 fun _=>?_|refine A4 fun _=>?_);try simp(disch:=first|omega|assumption|((repeat(first|exact A1|exact uH|apply A2|apply uT));first|done|fail)|(simp;first|done|omega|fail))[c1]))
  refine C7 (Hc := [F9 b j tv]) A0r (fun w' _ hs => B4b w' b j tv m.c.sh h.text (by omega) hs) (by unfold F9 G7; (repeat' constructor)) ?_
  rintro _ v rfl
  rw [decide_eq_false c2, if_neg c2]
  simp only [List.cons_append, List.nil_append]
  (have zz:=trivial;repeat((first|clear zz|with_reducible first|refine A3 ?_|refine A5 fun _=>?_|refine A4 fun _=>?_);try simp(disch:=first|omega|assumption|((repeat(first|exact A1|exact uH|apply A2|apply uT));first|done|fail)|(simp;first|done|omega|fail))[]))
  refine C7 (Hc := [F9 b j tv]) A0Y (fun w' _ hs => B0n w' b j tv 9 hs) (by (repeat' constructor)) ?_
  rintro _ v rfl
  simp only [List.cons_append, List.nil_append, M0, F9, G7]
  (have zz:=trivial;repeat((first|clear zz|with_reducible first|refine A3 ?_|refine A5 fun _=>?_|refine A4 fun _=>?_);try simp(disch:=first|omega|assumption|((repeat(first|exact A1|exact uH|apply A2|apply uT));first|done|fail)|(simp;first|done|omega|fail))[]))
  refine B1 (tv, m.dz, P) ⟨rfl, L6 rfl rfl h.tabs.pool h.tb⟩ ?_
  simp only [N1, F9, G7, B9, C8, D1, WoH.uz, WoH.dz]
  (repeat' constructor)
 rw [if_neg (by simpa using c2)]
 simp only [E3, F9, G7, B9, C8, D1]
 (have zz:=trivial;repeat((first|clear zz|with_reducible first|refine A3 ?_|refine A5 fun _=>?_|refine A4 fun _=>?_);try simp(disch:=first|omega|assumption|((repeat(first|exact A1|exact uH|apply A2|apply uT));first|done|fail)|(simp;first|done|omega|fail))[]))
 refine C4 G0 (fun w' hw' => A3D w' m.b m.c _ _ _ _ _ _ j.who hwk.2 (hw'.pt (b := m.b) (by unfold D1; (repeat constructor)))) ?_
 (have zz:=trivial;repeat((first|clear zz|with_reducible first|refine A3 ?_|refine A5 fun _=>?_|refine A4 fun _=>?_);try simp(disch:=first|omega|assumption|((repeat(first|exact A1|exact uH|apply A2|apply uT));first|done|fail)|(simp;first|done|omega|fail))[c1]))
 refine C7 (Hc := [F9 b j tv]) A0r (fun w' _ hs => B4b w' b j tv m.c.sh h.text (by omega) hs) (by unfold F9 G7; (repeat' constructor)) ?_
 rintro _ v rfl
 rw [decide_eq_true c2, if_pos c2]
 have hrt : (j.rd m.c.sh).table = j.table := rfl
 generalize j.rd m.c.sh = j2 at *
 simp only [List.cons_append, List.nil_append, F9, G7]
 (have zz:=trivial;repeat((first|clear zz|with_reducible first|refine A3 ?_|refine A5 fun _=>?_|refine A4 fun _=>?_);try simp(disch:=first|omega|assumption|((repeat(first|exact A1|exact uH|apply A2|apply uT));first|done|fail)|(simp;first|done|omega|fail))[]))
 refine C7 (Hc := D0 m.bc m.cn m.cv m.ov m.cells m.own) P8 (fun w' _ hs => A3s w' m.bc m.cn m.cv m.ov m.cells m.own 0 hcl hs) (by unfold D0; (repeat' constructor)) ?_
 rintro n' v rfl
 simp only [D0, List.cons_append, List.nil_append]
 (have zz:=trivial;repeat((first|clear zz|with_reducible first|refine A3 ?_|refine A5 fun _=>?_|refine A4 fun _=>?_);try simp(disch:=first|omega|assumption|((repeat(first|exact A1|exact uH|apply A2|apply uT));first|done|fail)|(simp;first|done|omega|fail))[]))
 refine B1 (tv, { m.dz with cn := n' }, P) ⟨rfl, L6 rfl rfl h.tabs.pool (by simp only; rw [hrt]; exact h.tb)⟩ ?_
 simp only [N1, F9, G7, B9, C8, D1, WoH.uz, WoH.dz]
 (repeat' constructor)
end Go.Proofs.YtjobgnabneddjaaGreat
namespace Go.Proofs.YtjobgnabneddjaaGreat
open Go
abbrev pW (x : WS) : List Int := C4D x x.c.wk.toNat
abbrev kF (x : WS) : List (Int × Int) := A8q (pW x) x.keep
abbrev sF (x : WS) : List SlV := A8b (pW x) x.keep x.sl
theorem Q1 (P : List Int) (l : List (Int × Int)) : (A8q P l).length = l.length := by unfold A8q; simp
theorem A0q {P : List Int} {l : List (Int × Int)} {s : List SlV} (h : l.length = s.length) : (A8b P l s).length = s.length := by unfold A8b; simp [h]
theorem C5E {l : List SlV} {i : Int} {x : SlV} (h : 0 ≤ i ∧ i < l.length) : A06 l i x = l.set i.toNat x := if_pos h
def epW (x : WS) : Int := IntKind.i64.wrap (D9 x.cells 0 + 1)
def H7 (x : WS) (p : List F7) : WS :=
 { x with cells := K3 (K3 x.cells 1 (U3 (kF x) + 1)) 0 (epW x), sl := A06 (sF x) (U3 (kF x)) (.rdy p), keep := if 0 < D9 x.cells 1 then B6U (A0u (kF x)) (D9 x.cells 1 - 1) (epW x) else A0u (kF x) }
end Go.Proofs.YtjobgnabneddjaaGreat
namespace Go.Proofs.YtjobgnabneddjaaGreat
open Go
theorem B71 {α : Type} {l : List α} {d : α} {i : Nat} (h : i < l.length) : l.getD i d = l[i] := by rw [List.getD_eq_getElem?_getD, List.getElem?_eq_getElem h]; rfl
theorem C1q {x : WS} {i : Nat} (h : (i : Int) < x.c.wk) : F8 x.c (((i : Nat) : Int) + 1) = (i : Nat) + 2 := by unfold F8; rw [if_neg (by omega)]; omega
theorem C6C {x : WS} {p : Int} : p ∈ pW x ↔ ∃ i : Nat, (i : Int) < x.c.wk ∧ p = D9 x.cells ((i : Nat) + 2) := by
 unfold pW C4D
 rw [List.mem_map]
 constructor
 ·rintro ⟨i, hi, rfl⟩
  rw [List.mem_range] at hi
  exact ⟨i, by omega, by rw [C1q (by omega)]⟩
 ·rintro ⟨i, hi, rfl⟩
  exact ⟨i, List.mem_range.2 (by omega), by rw [C1q hi]⟩
theorem B9C {x : WS} (h : ∀ i : Nat, D9 x.cells ((i : Nat) + 2) = 0) (e : Int) : B60 (pW x) e = true := by
 unfold B60
 rw [List.all_eq_true]
 intro p hp
 obtain ⟨i, hi, rfl⟩ := C6C.1 hp
 simp [h i]
def B9r (n t : Nat) : List (Int × Int) := (List.range n).map fun k => if k + 1 < t then (2, (k : Int) + 2) else if k + 1 = t then (1, 0) else (0, 0)
theorem C0U (n t : Nat) : (B9r n t).length = n := by simp [B9r]
theorem B6z {l : List (Int × Int)} {i : Nat} (h : i < l.length) : stK l (i : Nat) = l[i].1 := by
 unfold stK
 rw [if_pos (by omega), Int.toNat_natCast, List.getD_eq_getElem?_getD, List.getElem?_eq_getElem h]; rfl
structure BusyI (n t : Nat) (x : WS) : Prop where
 ok : WsOk x
 ep : D9 x.cells 0 = (t : Nat)
 cur : D9 x.cells 1 = (t : Nat)
 keep : x.keep = B9r n t
 sl : x.sl.length = n
 le : t ≤ n
theorem BusyI.kl {n t : Nat} {x : WS} (h : BusyI n t x) : x.keep.length = x.sl.length := by rw [h.sl, h.keep, C0U]
theorem C2N {x : WS} {p : List F7} (h : WsOk x) (hl : x.keep.length = x.sl.length) : WsOk (H7 x p) := by
 obtain ⟨w1, w2, w3, w4, w5⟩ := h
 refine ⟨w1, by simp only [H7, A0f]; exact w2, w3, by simp only [H7, A6l]; rw [A0q hl]; exact w4, ?_⟩
 simp only [H7]
 split
 ·simp only [B6U, C1U, B1n, Q1]; exact w5
 ·simp only [B1n, Q1]; exact w5
theorem C10 {x : WS} {p : List F7} (h : WsOk x) : D9 (H7 x p).cells 1 = U3 (kF x) + 1 := by
 have h1 := h.wk; have h2 := h.cells
 simp only [H7]
 rw [q8 _ _ (by omega), A3G, if_pos (by omega)]
theorem B4G {x : WS} {p : List F7} (i : Nat) : D9 (H7 x p).cells ((i : Nat) + 2) = D9 x.cells ((i : Nat) + 2) := by
 simp only [H7]
 rw [q8 _ _ (by omega), q8 _ _ (by omega)]
end Go.Proofs.YtjobgnabneddjaaGreat
namespace Go.Proofs.YtjobgnabneddjaaGreat
open Go
abbrev G6 (x : WS) : Int := D9 x.cells 1
theorem B5y {l : List (Int × Int)} {k : Nat} (hk : k < l.length) (h : l[k] = (0, 0)) : ¬ U3 l < 0 := by
 unfold U3
 have : l.findIdx (fun s => decide (s = (0, 0))) < l.length := List.findIdx_lt_length.2 ⟨_, List.getElem_mem hk, by simp [h]⟩
 rw [if_pos this]; omega
theorem C1w {l : List (Int × Int)} (h : ¬ U3 l < 0) : ∃ k : Nat, ∃ hk : k < l.length, U3 l = (k : Nat) ∧ l[k] = (0, 0) := by
 unfold U3 at *
 by_cases c : l.findIdx (fun s => decide (s = (0, 0))) < l.length
 ·rw [if_pos c]
  refine ⟨_, c, rfl, ?_⟩
  have := List.findIdx_getElem (w := c)
  simpa using this
 ·rw [if_neg c] at h; omega
theorem C1Q {l : List (Int × Int)} {k : Nat} (hk : k < l.length) (h : U3 l = (k : Nat)) (h0 : l[k] = (0, 0)) : A0u l = l.set k (1, 0) := by
 unfold A0u
 rw [h, if_neg (by omega), Int.toNat_natCast, B71 hk, h0]
theorem A5n {l : List SlV} {k : Nat} (h : k < l.length) : H8 l (k : Nat) = l[k] := by
 unfold H8; rw [if_pos (by omega), Int.toNat_natCast, B71 h]
structure CurI (x : WS) : Prop where
 ok : WsOk x
 kl : x.keep.length = x.sl.length
 two : 2 ≤ x.keep.length
 cur : 0 ≤ G6 x ∧ G6 x ≤ x.keep.length
 at1 : ∀ (k : Nat) (h : k < x.keep.length), (k : Int) + 1 = G6 x → (x.keep[k]).1 = 1 ∧ ∃ p, H8 x.sl (k : Nat) = .rdy p
 at2 : ∀ (k : Nat) (h : k < x.keep.length), (k : Int) + 1 ≠ G6 x → x.keep[k] = (0, 0) ∨ (x.keep[k]).1 = 2
theorem A83 {P : List Int} {l : List (Int × Int)} {k : Nat} (h : k < l.length) : (A8q P l)[k]'(by rw [Q1]; exact h) = if l0 P l[k] then (0, 0) else l[k] := by simp [A8q]
theorem C0J {P : List Int} {l : List (Int × Int)} {s : List SlV} {k : Nat} (h : k < l.length) (h2 : k < s.length) (hl : l.length = s.length) : (A8b P l s)[k]'(by rw [A0q hl]; exact h2) = if l0 P l[k] then .no else s[k] := by simp [A8b]
theorem B8L {P : List Int} {s : Int × Int} (h : s.1 ≠ 2) : l0 P s = false := by unfold l0; rw [decide_eq_false h]; rfl
theorem CurI.freed {x : WS} (h : CurI x) : CurI { x with sl := sF x, keep := kF x } ∧ H8 (sF x) (G6 x - 1) = H8 x.sl (G6 x - 1) := by
 have hg : ∀ (k : Nat) (hk : k < x.keep.length), (k : Int) + 1 = G6 x → H8 (sF x) (k : Nat) = H8 x.sl (k : Nat) := fun k hk hc => by
  have h1 := (h.at1 k hk hc).1
  have hs : k < x.sl.length := by rw [← h.kl]; exact hk
  rw [A5n (by rw [A0q h.kl]; exact hs), A5n hs, C0J hk hs h.kl, B8L (by omega)]; rfl
 have hok := h.ok
 refine ⟨⟨⟨hok.wk, hok.cells, hok.own, by simp only; rw [A0q h.kl]; exact hok.sl, by simp only; rw [Q1]; exact hok.keep⟩, by simp only; rw [Q1, A0q h.kl]; exact h.kl, by simp only; rw [Q1]; exact h.two, by simp only; rw [Q1]; exact h.cur, fun k hk hc => ?_, fun k hk hc => ?_⟩, ?_⟩
 ·simp only [Q1] at hk
  have h1 := h.at1 k hk hc
  simp only
  rw [A83 hk, B8L (by omega)]
  exact ⟨h1.1, by rw [hg k hk hc]; exact h1.2⟩
 ·simp only [Q1] at hk
  simp only
  rw [A83 hk]
  cases hr : l0 (pW x) x.keep[k] with
  | true => left; rfl
  | false => simpa using h.at2 k hk hc
 ·by_cases hc : G6 x = 0
  ·rw [hc]; rfl
  ·have h1 := h.cur
   obtain ⟨k, hk⟩ : ∃ k : Nat, G6 x - 1 = k := ⟨(G6 x - 1).toNat, by omega⟩
   rw [hk]
   exact hg k (by omega) (by omega)
theorem C5n {l : List (Int × Int)} {i k : Nat} {s : Int × Int} (hk : k < l.length) : stK (l.set i s) (k : Nat) = if i = k then s.1 else l[k].1 := by
 rw [B6z (by rw [List.length_set]; exact hk), List.getElem_set]; split <;> rfl
theorem CurI.after {x : WS} (h : CurI x) (p : List F7) (ht : ¬ U3 (kF x) < 0) : CurI (H7 x p) ∧ G6 (H7 x p) ≠ G6 x ∧ 1 ≤ G6 (H7 x p) ∧ H8 (H7 x p).sl (G6 (H7 x p) - 1) = .rdy p ∧ stK (H7 x p).keep (G6 (H7 x p) - 1) = 1
  ∧ (0 < G6 x → stK (H7 x p).keep (G6 x - 1) = 2) ∧ H8 (H7 x p).sl (G6 x - 1) = H8 x.sl (G6 x - 1) := by
 obtain ⟨hf, hgf⟩ := h.freed
 obtain ⟨s, hs, hts, hs0⟩ := C1w ht
 have hsl : s < (sF x).length := by have := hf.kl; simp only at this; omega
 have hcur' : G6 (H7 x p) = (s : Int) + 1 := by rw [show G6 (H7 x p) = D9 (H7 x p).cells 1 from rfl, C10 h.ok, hts]
 have hcf : G6 { x with sl := sF x, keep := kF x } = G6 x := rfl
 have hne : (s : Int) + 1 ≠ G6 x := fun hc => by
  have := (hf.at1 s hs (by rw [hcf]; exact hc)).1
  simp only at this
  rw [hs0] at this
  simp at this
 have htk := C1Q hs hts hs0
 have hlen : (kF x).length = x.keep.length := Q1 _ _
 have hsl' : (H7 x p).sl = (sF x).set s (.rdy p) := by
  show A06 (sF x) (U3 (kF x)) (.rdy p) = _
  rw [hts, C5E (by omega), Int.toNat_natCast]
 have hkp : (H7 x p).keep = if 0 < G6 x then ((kF x).set s (1, 0)).set (G6 x - 1).toNat (2, epW x) else (kF x).set s (1, 0) := by
  show (if 0 < D9 x.cells 1 then B6U (A0u (kF x)) (D9 x.cells 1 - 1) (epW x) else A0u (kF x)) = _
  rw [htk]
  by_cases hc : 0 < G6 x
  ·rw [if_pos hc, if_pos hc]
   obtain ⟨k, hk⟩ : ∃ k : Nat, G6 x - 1 = k := ⟨(G6 x - 1).toNat, by omega⟩
   have hkl : k < (kF x).length := by have := h.cur; omega
   have h1 := (hf.at1 k hkl (by rw [hcf]; omega)).1
   unfold B6U B14
   have e3 : stK ((kF x).set s (1, 0)) (k : Nat) = 1 := by rw [C5n hkl, if_neg (by omega)]; exact h1
   rw [show D9 x.cells 1 - 1 = (k : Int) from hk, e3, if_pos ⟨rfl, by omega⟩]
  ·rw [if_neg hc, if_neg hc]
 have hgs : ∀ (k : Nat), k ≠ s → k < (sF x).length → H8 (H7 x p).sl (k : Nat) = H8 (sF x) (k : Nat) := fun k hk hl => by
  rw [hsl', A5n (by rw [List.length_set]; exact hl), A5n hl, List.getElem_set_ne (by omega)]
 have hgs0 : H8 (H7 x p).sl (s : Nat) = .rdy p := by rw [hsl', A5n (by rw [List.length_set]; exact hsl), List.getElem_set_self]
 have hold : H8 (H7 x p).sl (G6 x - 1) = H8 x.sl (G6 x - 1) := by
  rw [← hgf]
  by_cases hc : G6 x = 0
  ·rw [hc]; rfl
  ·have h1 := h.cur
   obtain ⟨k, hk⟩ : ∃ k : Nat, G6 x - 1 = k := ⟨(G6 x - 1).toNat, by omega⟩
   rw [hk]
   exact hgs k (by omega) (by have := hf.kl; simp only at this; omega)
 have hat : ∀ (k : Nat) (hk : k < (kF x).length), ∀ hk', (H7 x p).keep[k]'hk' = if (k : Int) + 1 = G6 x then (2, epW x) else if k = s then (1, 0) else (kF x)[k] := fun k hk hk' => by
  simp only [hkp]
  by_cases hc : 0 < G6 x
  ·simp only [if_pos hc]
   rw [List.getElem_set, List.getElem_set]
   by_cases h1 : (k : Int) + 1 = G6 x
   ·rw [if_pos h1, if_pos (by omega)]
   ·rw [if_neg h1, if_neg (by omega)]
    by_cases h2 : k = s
    ·rw [if_pos h2, if_pos h2.symm]
    ·rw [if_neg h2, if_neg (by omega)]
  ·simp only [if_neg hc]
   rw [List.getElem_set, if_neg (show ¬ (k : Int) + 1 = G6 x by omega)]
   by_cases h2 : k = s
   ·rw [if_pos h2, if_pos h2.symm]
   ·rw [if_neg h2, if_neg (by omega)]
 have hkl' : (H7 x p).keep.length = (kF x).length := by
  rw [hkp]; split <;> simp
 have hsll : (H7 x p).sl.length = (sF x).length := by rw [hsl', List.length_set]
 refine ⟨⟨C2N h.ok h.kl, by rw [hkl', hsll]; exact hf.kl, by rw [hkl']; exact hf.two, by rw [hcur', hkl']; omega, fun k hk hc => ?_, fun k hk hc => ?_⟩, by rw [hcur']; exact hne, by rw [hcur']; omega, ?_, ?_, fun hc => ?_, hold⟩
 ·rw [hcur'] at hc
  obtain rfl : k = s := by omega
  rw [hat k (by rw [hkl'] at hk; exact hk), if_neg hne, if_pos rfl]
  exact ⟨rfl, p, hgs0⟩
 ·rw [hcur'] at hc
  have hk2 : k < (kF x).length := by rw [hkl'] at hk; exact hk
  rw [hat k hk2]
  by_cases h1 : (k : Int) + 1 = G6 x
  ·rw [if_pos h1]; right; rfl
  ·rw [if_neg h1, if_neg (by omega)]
   exact hf.at2 k hk2 (by rw [hcf]; exact h1)
 ·rw [hcur', show (s : Int) + 1 - 1 = (s : Nat) by omega]; exact hgs0
 ·rw [hcur', show (s : Int) + 1 - 1 = (s : Nat) by omega, B6z (by rw [hkl']; exact hs), hat s hs, if_neg hne, if_pos rfl]
 ·have h1 := h.cur
  obtain ⟨k, hk⟩ : ∃ k : Nat, G6 x - 1 = k := ⟨(G6 x - 1).toNat, by omega⟩
  rw [hk, B6z (by rw [hkl', hlen]; omega), hat k (by omega), if_pos (by omega)]
theorem CurI.free {x : WS} (h : CurI x) (hz : ∀ i : Nat, D9 x.cells ((i : Nat) + 2) = 0) : ¬ U3 (kF x) < 0 := by
 have hlen : (kF x).length = x.keep.length := Q1 _ _
 have h2 := h.two
 have key : ∀ (k : Nat) (hk : k < x.keep.length), (k : Int) + 1 ≠ G6 x → (kF x)[k]'(by rw [hlen]; exact hk) = (0, 0) := fun k hk hc => by
  rw [A83 hk]
  rcases h.at2 k hk hc with h0 | h0
  ·rw [h0, C79]; rfl
  ·have : l0 (pW x) x.keep[k] = true := by unfold l0; rw [h0, B9C hz]; rfl
   rw [this]; rfl
 by_cases hc : G6 x = 1
 ·exact B5y (k := 1) (by omega) (key 1 (by omega) (by omega))
 ·exact B5y (k := 0) (by omega) (key 0 (by omega) (by omega))
theorem CurI.new {c : CfgV} (h : M9 c = true) (hw : WsOk (L0 c)) : CurI (L0 c) := by
 simp only [M9, W1, Bool.and_eq_true, decide_eq_true_eq] at h
 have hcur : G6 (L0 c) = 0 := by
  show D9 (List.replicate _ 0) 1 = 0
  unfold D9; split
  ·rw [List.getD_eq_getElem?_getD, List.getElem?_replicate]; split <;> rfl
  ·rfl
 refine ⟨hw, by simp [L0], by simp only [L0, List.length_replicate]; omega, by rw [hcur]; omega, fun k hk hc => ?_, fun k hk hc => ?_⟩
 ·rw [hcur] at hc; omega
 ·left; simp [L0]
end Go.Proofs.YtjobgnabneddjaaGreat
namespace Go.Proofs.YtjobgnabneddjaaGreat
open Go
theorem C62 (w : World) (b : Nat) (j : JW) (tv : Value) (m : WoH) (P : Q9) (h : JwOk j tv m P) (hw : LW false (B6 (E3 b j tv m P)) w (E3 b j tv m P) w) : A3P 81 w b j tv m P (jw5 j m.ws) := by
 refine A9r (TW.goH (κ := false) ?_ hw)
 unfold A2U
 obtain ⟨h1, h2, h3, h4, h5, h6⟩ := h.tabs
 obtain ⟨i, hi⟩ : ∃ i : Nat, j.shard = i := ⟨j.shard.toNat, by have := h.shard; omega⟩
 have hlt : i < m.ts.length := by have := h.shard; omega
 obtain ⟨⟨tv0, tl⟩, hx0⟩ : ∃ x, m.ts[i]? = some x := ⟨_, List.getElem?_eq_getElem hlt⟩
 have hxm := List.mem_of_getElem? hx0
 have g0 : (m.ts.map (·.1))[i]? = some tv0 := by rw [List.getElem?_map, hx0]; rfl
 have gg : m.ts[i]'hlt = (tv0, tl) := (List.getElem?_eq_some_iff.1 hx0).2
 have e5 : jw5 j m.ws = ({ j with table := tl }, m.ws, noT) := by
  unfold jw5
  have : m.ws.tabs.getD j.shard.toNat [] = tl := by simp [WoH.ws, hi, List.getD_eq_getElem?_getD, hx0]
  rw [this]
 rw [e5]
 generalize hS : B6 (E3 b j tv m P) = S at *
 simp only [E3, F9, G7, B9, C8, D1, hi]
 refine y9 (e := 84) (k := 1) (v := m.tv) (q := m.ts.length) (xs := m.ts.map (·.1)) (by (repeat constructor)) (by omega) fun tg tc hta => ?_
 refine A8l (P := P) (v := tv0) (l := tl) (by (repeat constructor)) (h6 _ hxm) fun xa xc hxa => ?_
 rw [hta]
 subst hxa
 (have zz:=trivial;repeat((first|clear zz|with_reducible first|refine A3 ?_|refine A5 fun _=>?_|refine A4 fun _=>?_);try simp(disch:=first|omega|assumption|((repeat(first|exact A1|exact uH|apply A2|apply uT));first|done|fail)|(simp;first|done|omega|fail))[hlt, g0, gg]))
 refine B1 (.slice xa tl.length xc, { m.dz with tv := .slice (some ⟨tg, 0, none⟩) m.ts.length tc }, P) ⟨rfl, L6 rfl rfl h6 (h6 _ hxm)⟩ ?_
 simp only [N1, F9, G7, B9, C8, D1, WoH.uz, WoH.dz, hi]
 (repeat' constructor)
theorem C6H (w : World) (b : Nat) (j : JW) (tv : Value) (m : WoH) (P : Q9) (h : JwOk j tv m P) (hw : LW false (B6 (E3 b j tv m P)) w (E3 b j tv m P) w) : A3P 83 w b j tv m P (jw7 j m.ws) := by
 refine A8D (TW.goH (κ := false) ?_ hw)
 unfold A1L
 obtain ⟨h1, h2, h3, h4, h5, h6⟩ := h.tabs
 have ht := h.tb
 obtain ⟨i, hi⟩ : ∃ i : Nat, j.shard = i := ⟨j.shard.toNat, by have := h.shard; omega⟩
 have hlt : i < m.ts.length := by have := h.shard; omega
 obtain ⟨⟨tv0, tl⟩, hx0⟩ : ∃ x, m.ts[i]? = some x := ⟨_, List.getElem?_eq_getElem hlt⟩
 have g0 : (m.ts.map (·.1))[i]? = some tv0 := by rw [List.getElem?_map, hx0]; rfl
 have gg : m.ts[i]'hlt = (tv0, tl) := (List.getElem?_eq_some_iff.1 hx0).2
 have e7 : jw7 j m.ws = (j, { m.ws with tabs := m.ws.tabs.set i j.table }, noT) := by unfold jw7; rw [hi, Int.toNat_natCast]
 rw [e7]
 generalize hS : B6 (E3 b j tv m P) = S at *
 simp only [E3, F9, G7, B9, C8, D1, hi]
 refine y9 (e := 84) (k := 1) (v := m.tv) (q := m.ts.length) (xs := m.ts.map (·.1)) (by (repeat constructor)) (by omega) fun tg tc hta => ?_
 refine A8l (P := P) (v := tv) (l := j.table) (by (repeat constructor)) ht fun xa xc hxa => ?_
 rw [hta]
 subst hxa
 (have zz:=trivial;repeat((first|clear zz|with_reducible first|refine A3 ?_|refine A5 fun _=>?_|refine A4 fun _=>?_);try simp(disch:=first|omega|assumption|((repeat(first|exact A1|exact uH|apply A2|apply uT));first|done|fail)|(simp;first|done|omega|fail))[hlt, g0, gg]))
 refine T5 (by (repeat constructor)) (by simp) (by simp; omega) (by simp) ?_
 have e1 : W6 (m.ts.map (·.1)) i (Value.slice xa j.table.length xc).cells.toList = (m.ts.set i (.slice xa j.table.length xc, j.table)).map (·.1) := C2Y (f := (·.1)) m.ts i (.slice xa j.table.length xc, j.table) hlt
 rw [e1]
 (have zz:=trivial;repeat((first|clear zz|with_reducible first|refine A3 ?_|refine A5 fun _=>?_|refine A4 fun _=>?_);try simp(disch:=first|omega|assumption|((repeat(first|exact A1|exact uH|apply A2|apply uT));first|done|fail)|(simp;first|done|omega|fail))[]))
 refine B1 (.slice xa j.table.length xc, { m.dz with tv := .slice (some ⟨tg, 0, none⟩) m.ts.length tc, ts := m.ts.set i (.slice xa j.table.length xc, j.table) }, P) ⟨rfl, by simp only [WoH.ws, WoH.uz, WoH.dz, List.map_set], fun t ht' => ?_, ht, .same _ _⟩ ?_
 ·rcases List.mem_or_eq_of_mem_set ht' with ht' | rfl
  ·exact h6 t ht'
  ·exact ht
 simp only [N1, F9, G7, B9, C8, D1, WoH.uz, WoH.dz, List.length_set, List.map_set, hi]
 (repeat' constructor)
def l4 (l : List EnV) (p : List F7) (key : ByteArray) (now : Int) : Int × Bool :=
 if E4 l key < 0 ∨ (n5 l key).dl < now then (0, false) else ((n5 l key).bk, decide (0 ≤ Q2 p (n5 l key).bk))
theorem C2j (l : List EnV) (p : List F7) (key : ByteArray) (now : Int) : (l4 l p key now).2 = (P1 l p key now).2 := by
 unfold l4 P1
 by_cases c1 : E4 l key < 0 ∨ (n5 l key).dl < now
 ·rw [if_pos c1, if_pos (by omega)]
 ·rw [if_neg c1]
  by_cases c2 : Q2 p (n5 l key).bk < 0
  ·rw [if_pos (by omega)]; simp; omega
  ·rw [if_neg (by omega)]; simp; omega
theorem C2V (l : List EnV) (p : List F7) (key : ByteArray) (now : Int) (h : (P1 l p key now).2 = true) : (l4 l p key now).1 = (P1 l p key now).1 := by
 unfold P1 at h ⊢
 by_cases c : E4 l key < 0 ∨ (n5 l key).dl < now ∨ Q2 p (n5 l key).bk < 0
 ·rw [if_pos c] at h; cases h
 ·rw [if_neg c]; unfold l4; rw [if_neg (by omega)]
theorem C0s (x : WS) (i id : Int) : (B62 x.sl i id).1 = decide (0 ≤ Q2 (L4 x i) id) := by
 unfold B62 L4
 cases H8 x.sl i with
 | rdy p => rfl
 | no => rfl
 | bld => rfl
theorem B81 (x : WS) (i : Int) : A6g x.sl i = ((((L4 x i).length : Nat) : Int), B99 x i) := by
 unfold A6g L4 B99
 cases H8 x.sl i <;> rfl
theorem B8a (x : WS) (i : Int) (h : Nat) (hp : L4 x i ≠ []) : (A4Q x.sl i h).1 = B2J (L4 x i) h := by
 unfold A4Q L4 at *
 cases hg : H8 x.sl i with
 | rdy p => rfl
 | no => rw [hg] at hp; exact absurd rfl hp
 | bld => rw [hg] at hp; exact absurd rfl hp
theorem B9g (w : World) (b b2 b3 : Nat) (j : JW) (tv : Value) (m : WoH) (hk : j.key.size < 2 ^ 60) (hn : j.table.length ≤ 1000000) (hl8 : m.ls.length ≤ 8)
  (h2 : w.cell? ⟨b2, 0, none⟩ = some (.pointer (some ⟨b, 0, none⟩))) (h3 : w.cell? ⟨b3, 0, none⟩ = some (.pointer (some ⟨m.b, 0, none⟩)))
  (hb : bl w b = some (.cells (G7 j tv) 130 (0, 0))) (hm : WoAt w m) (hsl : SlAt w m.bs m.sv m.ls) (hv : G1 w tv j.table.length (j.table.flatMap H5)) :
  Fn PR B8 132 #[.pointer (some ⟨b2, 0, none⟩), .pointer (some ⟨b3, 0, none⟩)] w (fun u w' => u = .tuple #[.int .i64 (l4 j.table (L4 m.ws j.slot) j.key j.now).1, .bool (l4 j.table (L4 m.ws j.slot) j.key j.now).2] ∧ C9 [] w w') := by
 refine Fn.pure (A4J (TW.go (κ := false) (S := []) ?_))
 unfold u0
 have g1 : w.cell? ⟨b, 1, none⟩ = some (.string j.key) := by rw [E1 hb]; rfl
 have g7 : w.cell? ⟨b, 7, none⟩ = some (.int .i64 j.slot) := by rw [E1 hb]; rfl
 have g8 : w.cell? ⟨b, 8, none⟩ = some (.int .i64 j.now) := by rw [E1 hb]; rfl
 have g9 : w.cell? ⟨b, 9, none⟩ = some tv := by rw [E1 hb]; rfl
 have gs : w.cell? ⟨m.b, 6, none⟩ = some (.pointer (some ⟨m.bs, 0, none⟩)) := by rw [E1 hm.b]; rfl
 obtain ⟨a, c, rfl, hr⟩ := hv.form
 (have zz:=trivial;repeat((first|clear zz|with_reducible first|refine A3 ?_|refine A5 fun _=>?_|refine A4 fun _=>?_);try simp(disch:=first|omega|assumption|((repeat(first|exact A1|exact uH|apply A2|apply uT));first|done|fail)|(simp;first|done|omega|fail))[h2, h3, g1, g9]))
 refine C4 s4 (fun w' hw' => A0y w' _ j.table j.key hk hn (hv.ks hw'.ks (by simp))) ?_
 by_cases c1 : E4 j.table j.key < 0
 ·(have zz:=trivial;repeat((first|clear zz|with_reducible first|refine A3 ?_|refine A5 fun _=>?_|refine A4 fun _=>?_);try simp(disch:=first|omega|assumption|((repeat(first|exact A1|exact uH|apply A2|apply uT));first|done|fail)|(simp;first|done|omega|fail))[c1, h2, h3, g1, g9]))
  exact B0 (by simp [l4, c1])
 obtain ⟨i, hi, hlt⟩ := C0f (l := j.table) (key := j.key) (by omega)
 have hx : j.table[i]? = some (n5 j.table j.key) := by rw [n5, hi, Int.toNat_natCast]; exact getD_some noE hlt
 obtain ⟨ba, o, rfl, hrow⟩ := hr (by omega)
 have k2 := hrow.cellAt (f := H5) (k := 4) (j := 2) (fun _ => rfl) hx rfl
 have k3 := hrow.cellAt (f := H5) (k := 4) (j := 3) (fun _ => rfl) hx rfl
 have hk1 : l4 j.table (L4 m.ws j.slot) j.key j.now = if (n5 j.table j.key).dl < j.now then (0, false) else ((n5 j.table j.key).bk, decide (0 ≤ Q2 (L4 m.ws j.slot) (n5 j.table j.key).bk)) := by simp [l4, c1]
 rw [hk1, hi]
 generalize n5 j.table j.key = x at *
 have hHas := fun (w' : World) => C5L w' m.bs m.sv m.ls j.slot x.bk hl8
 rw [show m.ls.map SlH.sp = m.ws.sl from rfl, C0s] at hHas
 obtain ⟨Q, hQ⟩ : ∃ Q, Q = decide (0 ≤ Q2 (L4 m.ws j.slot) x.bk) := ⟨_, rfl⟩
 rw [← hQ] at hHas ⊢
 clear hk1
 have n1 : ¬ ((i : Nat) : Int) < 0 := by omega
 by_cases c2 : x.dl < j.now
 ·(have zz:=trivial;repeat((first|clear zz|with_reducible first|refine A3 ?_|refine A5 fun _=>?_|refine A4 fun _=>?_);try simp(disch:=first|omega|assumption|((repeat(first|exact A1|exact uH|apply A2|apply uT));first|done|fail)|(simp;first|done|omega|fail))[n1, hlt, h2, h3, g1, g7, g8, g9, k3, c2]))
  exact B0 (by simp [c2])
 (have zz:=trivial;repeat((first|clear zz|with_reducible first|refine A3 ?_|refine A5 fun _=>?_|refine A4 fun _=>?_);try simp(disch:=first|omega|assumption|((repeat(first|exact A1|exact uH|apply A2|apply uT));first|done|fail)|(simp;first|done|omega|fail))[n1, hlt, h2, h3, g1, g7, g8, g9, gs, k3, k2, c2]))
 refine C4 A78 (fun w' hw' => hHas w' (hsl.ks hw'.ks)) ?_
 (have zz:=trivial;repeat((first|clear zz|with_reducible first|refine A3 ?_|refine A5 fun _=>?_|refine A4 fun _=>?_);try simp(disch:=first|omega|assumption|((repeat(first|exact A1|exact uH|apply A2|apply uT));first|done|fail)|(simp;first|done|omega|fail))[hlt, h2, h3, g1, g7, g8, g9, k3, k2, c2]))
 exact B0 (by simp [c2])
end Go.Proofs.YtjobgnabneddjaaGreat
