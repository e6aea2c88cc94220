/- The proof of a given statement, a part of it (Atm Ws Cells Cells2 ShEpoch Ep Ep2 ShSlots Slo Slo2 Wor Wor2 Wor3 Rw18 Rw16 ShControl Con Con2 Con3 Con4 Con5 Con6 Con7 ShL20 Upd Upd2 RunG Job). No condition but what each lemma says. -/
import Derived.Conc.AtomicLaws2
import Derived.Test.YtpnidmkaobfhiaaGreatJ15
set_option linter.unusedVariables false
set_option linter.unusedSimpArgs false
namespace Go.Proofs.YtpnidmkaobfhiaaGreat
open Go
theorem B54 {w : World} {b o : Nat} {c : Array Value} {T : TypeId} (v : Value) (hb : bl w b = some (.cells c T (0, 0))) : w.setCell ⟨b, o, none⟩ v = World.putb w b (.cells (c.setIfInBounds o v) T (0, 0)) := by
 unfold World.setCell World.putb
 congr 1
 apply Array.ext_getElem?
 intro r
 rw [Array.getElem?_modify]
 by_cases hr : b = r
 ·subst hr
  have : w.heap[b]? = some (.cells c T (0, 0)) := hb
  rw [Array.getElem?_setIfInBounds_self_of_lt (show b < w.heap.size from P7 hb)]
  simp [this]
 ·rw [Array.getElem?_setIfInBounds_ne hr]; simp [hr]
theorem C0Z {w : World} {b o : Nat} {c : Array Value} {T : TypeId} (hb : bl w b = some (.cells c T (0, 0))) : w.frozen? ⟨b, o, none⟩ = false := by
 have : w.heap[b]? = some (.cells c T (0, 0)) := hb
 simp [World.frozen?, this]
theorem B7M {w : World} {b o : Nat} {c : Array Value} {T : TypeId} {x d : Int} (hb : bl w b = some (.cells c T (0, 0))) (ho : c[o]? = some (.int .i64 x)) :
  (callFunc 159 #[.pointer (some ⟨b, o, none⟩), .int .i64 d]).run PR w = .ok (.value (.int .i64 (IntKind.i64.wrap (x + d)))) (World.putb w b (.cells (c.setIfInBounds o (.int .i64 (IntKind.i64.wrap (x + d)))) T (0, 0))) := by
 have h1 : Extern.findNext Tryz.f159 = none := by kernel_rfl
 have h2 : Extern.find Tryz.f159 = some (Extern.Atomic.update (Op.intArith .add) .i64 true) := by kernel_rfl
 have h3 : (Tryz.f159.name == "runtime.NumGoroutine") = false := by kernel_rfl
 have h4 : Tryz.f159.body.isNone = true := by kernel_rfl
 have h5 : PR.funcs[159]? = some Tryz.f159 := Tryz.func159
 have hc : w.cell? ⟨b, o, none⟩ = some (.int .i64 x) := by rw [D7 hb]; exact ho
 have hf := C0Z (o := o) hb
 simp only [callFunc, Sem.run_bind, run_program, Result.andThen_ok, h5, h3, h4, Bool.false_eq_true, if_false, if_true, h1, h2]
 have := Conc.run_add_entry (P := PR) (ad := ⟨b, o, none⟩) (k := .i64) (v := x) (d := d) hc hf
 rw [B54 _ hb] at this
 have hm : (mark (Mark.extern 159)).run PR w = .ok () w := rfl
 rw [hm, Result.andThen_ok, this]
 rfl
theorem C1e {κ : Bool} {X : Nat → Prop} {S : List Nat} {w0 : World} {H H' : List Res} {K : Value → WP} {b o : Nat} {c : Array Value} {T : TypeId} {x d : Int} (ho : c[o]? = some (.int .i64 x))
  (hu : Up (.pt b (.cells c T (0, 0))) (.pt b (.cells (c.setIfInBounds o (.int .i64 (IntKind.i64.wrap (x + d)))) T (0, 0))) H H')
  (hK : TW κ S w0 H' (K (.int .i64 (IntKind.i64.wrap (x + d))))) : TW κ S w0 H (B3 PR X 159 [.pointer (some ⟨b, o, none⟩), .int .i64 d] K) := fun w hw => by
 have hm : Res.pt b (.cells c T (0, 0)) ∈ H := by obtain ⟨A, B, rfl, _⟩ := hu.parts; simp
 have hb := hw.pt hm
 refine Or.inr ⟨_, _, B7M hb ho, Sk.putb _ hb, hK _ (hw.up hu ⟨KS.putb hb (by simp [Res.foot]), ?_, ?_, by simp⟩)⟩
 ·simp only [List.mem_singleton, forall_eq, Res.holds]; exact ⟨c8 (P7 hb), rfl⟩
 ·simp only [List.mem_singleton, forall_eq, Res.foot]; exact ⟨Or.inl (by simp), by have := P7 hb; simpa using this⟩
end Go.Proofs.YtpnidmkaobfhiaaGreat
namespace Go.Proofs.YtpnidmkaobfhiaaGreat
open Go
inductive SlV where
 | no
 | bld
 | rdy (p : List G8)
structure WS where
 c : CfgV
 cells : List Int
 own : List Int
 sl : List SlV
 keep : List (Int × Int)
 tabs : List (List EnV)
 places : List Nat
 now : Int
def D5 (l : List Int) (i : Int) : Int := if 0 ≤ i ∧ i < l.length then l.getD i.toNat 0 else 0
def K9 (l : List Int) (i v : Int) : List Int := if 0 ≤ i ∧ i < l.length then l.set i.toNat v else l
def A2c (l : List Int) (i : Int) : Int := if 0 ≤ i ∧ i < l.length then l.getD i.toNat 0 else -1
def A3q (l : List Int) (i a b : Int) : List Int := if 0 ≤ i ∧ i < l.length ∧ l.getD i.toNat 0 = a then l.set i.toNat b else l
def T4 (l : List Int) (i who : Int) : List Int := if 0 ≤ who then A3q l i (-1) who else l
def K7 (l : List Int) (i who : Int) : List Int := if 0 ≤ who then A3q l i who (-1) else l
def g5 (l : List SlV) (i : Int) (x : SlV) : List SlV := if 0 ≤ i ∧ i < l.length then l.set i.toNat x else l
def N4 (l : List SlV) (i : Int) : SlV := if 0 ≤ i ∧ i < l.length then l.getD i.toNat .no else .no
def r4 (l : List SlV) (i : Int) (p : List G8) : List SlV :=
 match N4 l i with
 | .bld => if G2 p = 0 then g5 l i (.rdy p) else l
 | _ => l
def A56 (l : List SlV) (i : Int) : Int × Bool :=
 match N4 l i with
 | .rdy p => (p.length, true)
 | _ => (0, false)
def Z5 (l : List (Int × Int)) (i : Int) : Int := if 0 ≤ i ∧ i < l.length then (l.getD i.toNat (0, 0)).1 else -1
def E5 (l : List (Int × Int)) : Int := if l.findIdx (· = (0, 0)) < l.length then (l.findIdx (· = (0, 0)) : Nat) else -1
def c7 (pins : List Int) (e : Int) : Bool := pins.all fun p => p = 0 || e < p
def K3 (pins : List Int) (s : Int × Int) : Bool := decide (s.1 = 2) && c7 pins s.2
def G3 (l : List (Int × Int)) (pins : List Int) : Int := if l.findIdx (K3 pins) < l.length then (l.findIdx (K3 pins) : Nat) else -1
def A1d (l : List (Int × Int)) (i a : Int) (s : Int × Int) : List (Int × Int) := if Z5 l i = a ∧ 0 ≤ i then l.set i.toNat s else l
def m4 (l : List (Int × Int)) (i : Int) : List (Int × Int) := A1d l i 2 (0, 0)
def l6 (l : List (Int × Int)) (i e : Int) : List (Int × Int) := A1d l i 1 (2, e)
def M6 (l : List (Int × Int)) : List (Int × Int) := if E5 l < 0 then l else l.set (E5 l).toNat (1, (l.getD (E5 l).toNat (0, 0)).2)
def F9 (c : CfgV) (who : Int) : Int := if who < 1 ∨ c.wk < who then -1 else 1 + who
abbrev A0N := Bool × Bool × Bool
structure JB where
 who : Int
 st : Int
 ans : AnsV
structure JU where
 b : JB
 pool : List G8
 pins : List Int
 slot : Int
 old : Int
def noA : AnsV := ⟨0, 0, false, 0⟩
def JB.refuse (b : JB) (e : Int) : JB := { b with st := -1, ans := ⟨e, 0, false, 0⟩ }
def T9 (j : JU) : Int := if j.b.who = 0 then G2 j.pool else 1
def U0 (j : JU) (x : WS) : JU × WS × A0N :=
 if 0 ≤ G3 x.keep j.pins then (j, { x with sl := g5 x.sl (G3 x.keep j.pins) .no, keep := m4 x.keep (G3 x.keep j.pins) }, false, false, false)
 else if E5 x.keep < 0 then ({ j with b := j.b.refuse 13, slot := E5 x.keep }, x, true, true, false)
 else ({ j with slot := E5 x.keep, b := { j.b with st := j.b.st + 1 } }, { x with sl := g5 x.sl (E5 x.keep) .bld, keep := M6 x.keep }, false, false, false)
def E4 (j : JU) : JU := { j with b := { j.b with st := j.b.st + 1 } }
def A5F (j : JU) (x : WS) : JU × WS × A0N :=
 let e := IntKind.i64.wrap (D5 x.cells 0 + 1)
 ({ j with b := { j.b with st := -1 } }, { x with cells := K9 x.cells 0 e, keep := if 0 < j.old then l6 x.keep (j.old - 1) e else x.keep }, false, true, false)
def H0 (j : JU) (x : WS) : JU × WS × A0N :=
 if j.b.st = 0 ∧ T9 j ≠ 0 then ({ j with b := j.b.refuse (T9 j) }, x, true, true, false)
 else if j.b.st = 0 ∨ j.b.st - x.c.wk < 0 then ({ E4 j with pins := j.pins ++ [D5 x.cells (F9 x.c (j.b.st + 1))] }, x, false, false, false)
 else if j.b.st - x.c.wk = 0 then U0 j x
 else if j.b.st - x.c.wk = 1 then (E4 j, { x with sl := r4 x.sl j.slot j.pool }, false, false, false)
 else if j.b.st - x.c.wk = 2 then ({ E4 j with old := D5 x.cells 1 }, x, false, false, false)
 else if j.b.st - x.c.wk = 3 then (E4 j, { x with cells := K9 x.cells 1 (j.slot + 1) }, true, false, false)
 else A5F (E4 j) x
structure JE where
 b : JB
 shard : Int
 place : Nat
 table : List EnV
def A2n (x : WS) (i : Int) : Bool := decide (0 ≤ i) && decide (i < x.tabs.length)
def Z2 (x : WS) (i : Int) : List EnV := x.tabs.getD i.toNat []
def A1L (x : WS) (i : Int) : Nat := x.places.getD i.toNat 0
def JE.up (j : JE) : JE := { j with b := { j.b with st := j.b.st + 1 } }
def M1 (j : JE) (x : WS) : JE × WS × A0N :=
 if A2n x j.shard = false then ({ j with b := j.b.refuse 1 }, x, true, true, false)
 else if j.b.st = 0 then (j.up, { x with own := T4 x.own j.shard j.b.who }, false, false, false)
 else if j.b.st = 1 then
  let s := H5 (Z2 x j.shard) (A1L x j.shard) 4 x.now
  ({ j with b := { j.b with st := j.b.st + 1, ans := { j.b.ans with count := (s.2.2 : Nat) } }, table := s.1, place := s.2.1 }, x, true, false, false)
 else if j.b.st = 2 then (j.up, { x with tabs := x.tabs.set j.shard.toNat j.table, places := x.places.set j.shard.toNat j.place }, false, false, false)
 else ({ j with b := { j.b with st := -1 } }, { x with own := K7 x.own j.shard j.b.who }, false, true, false)
def Q2 (b : JB) (x : WS) : JB × WS × A0N :=
 let n : Int := x.tabs.length
 let i := b.st % n
 if b.st < n then ({ b with st := b.st + 1 }, { x with own := T4 x.own i b.who }, decide (i = n - 1), false, false)
 else if b.st < 2 * n then ({ b with st := b.st + 1, ans := { b.ans with count := IntKind.i64.wrap (b.ans.count + (N3 (Z2 x i) 1 : Nat)) } }, x, false, false, false)
 else if i = n - 1 then ({ b with st := -1 }, { x with own := K7 x.own i b.who }, false, true, false)
 else ({ b with st := b.st + 1 }, { x with own := K7 x.own i b.who }, false, false, false)
inductive JV where
 | upd (j : JU)
 | exp (j : JE)
 | sta (b : JB)
 | non (b : JB)
def JV.b : JV → JB
 | .upd j => j.b
 | .exp j => j.b
 | .sta b => b
 | .non b => b
def JV.waits (j : JV) (x : WS) : Bool :=
 match j with
 | .upd _ => false
 | .exp j => decide (j.b.st = 0) && !decide (A2c x.own j.shard < 0)
 | .sta b => decide (b.st < x.tabs.length) && !decide (A2c x.own b.st < 0)
 | .non _ => false
def JV.ready (j : JV) (x : WS) : Bool := !decide (j.b.st = -1) && !j.waits x
def JV.step0 (j : JV) (x : WS) : JV × WS × A0N :=
 match j with
 | .upd j => (.upd (H0 j x).1, (H0 j x).2)
 | .exp j => (.exp (M1 j x).1, (M1 j x).2)
 | .sta b => (.sta (Q2 b x).1, (Q2 b x).2)
 | .non b => (.non (b.refuse 1), x, true, true, false)
def JV.step (j : JV) (x : WS) : JV × WS × A0N := if j.ready x then j.step0 x else (j, x, false, false, false)
structure RunV where
 j : JV
 x : WS
 n : Nat
 tk : Nat
 bad : Nat
def RunV.next (r : RunV) : RunV := ⟨(r.j.step0 r.x).1, (r.j.step0 r.x).2.1, r.n + 1, r.tk + (r.j.step0 r.x).2.2.1.toNat, r.bad + (r.j.step0 r.x).2.2.2.2.toNat⟩
def A1k : Nat → RunV → RunV
 | 0, r => r
 | f + 1, r => if r.j.ready r.x then A1k f r.next else r
end Go.Proofs.YtpnidmkaobfhiaaGreat
namespace Go.Proofs.YtpnidmkaobfhiaaGreat
open Go
def C1 (l : List Int) : List Value := l.map fun n => .int .i64 n
@[simp] theorem C3x (l : List Int) : (C1 l).length = l.length := by unfold C1; rw [List.length_map]
theorem W5 {l : List Int} {i : Nat} (h : i < l.length) : (C1 l)[i]? = some (.int .i64 (l.getD i 0)) := by
 unfold C1; rw [List.getElem?_map, List.getElem?_eq_getElem h, List.getD_eq_getElem?_getD, List.getElem?_eq_getElem h]; rfl
theorem l9 {l : List Int} {i : Nat} (h : i < l.length) (v : Int) : U7 (C1 l) i [.int .i64 v] = C1 (l.set i v) := by
 unfold U7 C1
 rw [List.map_set, List.set_eq_take_append_cons_drop, if_pos (by simpa using h)]
 simp
def C6 (b : Nat) (n : Int) (cv ov : Value) (cs os : List Int) : List Res := [.pt b (.cells #[.int .i64 n, cv, ov] 147), .own 3 1 cv cs.length (C1 cs), .own 3 1 ov os.length (C1 os)]
theorem C3B (w : World) (b : Nat) (n : Int) (cv ov : Value) (hw : LW false [b] w [.pt b (.cells #[.int .i64 n, cv, ov] 147)] w) :
  Fn PR B6 124 #[.pointer (some ⟨b, 0, none⟩), .int .i64 1] w (Rn [b] w (fun (_ : Unit) u => u = .int .i64 (IntKind.i64.wrap (n + 1))) fun _ => [.pt b (.cells #[.int .i64 (IntKind.i64.wrap (n + 1)), cv, ov] 147)]) := by
 refine A5Q (TW.goH (κ := false) (S := [b]) ?_ hw)
 unfold y3
 (have zz:=trivial;repeat((first|clear zz|with_reducible first|refine A3 ?_|refine A5 fun _=>?_|refine A4 fun _=>?_);try simp(disch:=first|omega|assumption|((repeat(first|exact A1|exact uH|apply A2|apply uT));first|done|fail)|(simp;first|done|omega|fail))[]))
 refine C1e (x := n) (c := #[.int .i64 n, cv, ov]) (o := 0) rfl Up.here ?_
 exact B0 () rfl (by (repeat' constructor))
theorem C1n (w : World) (b : Nat) (n : Int) (cv ov : Value) (hw : LW false [b] w [.pt b (.cells #[.int .i64 n, cv, ov] 147)] w) :
  Fn PR B6 97 #[.pointer (some ⟨b, 0, none⟩)] w (Rn [b] w (fun (n : Int) u => u = .tuple #[]) fun n => [.pt b (.cells #[.int .i64 n, cv, ov] 147)]) := by
 refine A7S (TW.goH (κ := false) (S := [b]) ?_ hw)
 unfold A1B
 (have zz:=trivial;repeat((first|clear zz|with_reducible first|refine A3 ?_|refine A5 fun _=>?_|refine A4 fun _=>?_);try simp(disch:=first|omega|assumption|((repeat(first|exact A1|exact uH|apply A2|apply uT));first|done|fail)|(simp;first|done|omega|fail))[]))
 refine C0 (Hc := [.pt b (.cells #[.int .i64 n, cv, ov] 147)]) A4f (fun w' _ hs => C3B w' b n cv ov hs) (by (repeat' constructor)) ?_
 rintro _ v rfl
 exact B0 (IntKind.i64.wrap (n + 1)) rfl (by (repeat' constructor))
def A4d (v : Value) (l : List Int) (i : Int) (u : Value) : Prop := if 0 ≤ i ∧ i < l.length then ∃ g c, v = .slice (some ⟨g, 0, none⟩) l.length c ∧ u = .pointer (some ⟨g, i.toNat, none⟩) else u = .pointer none
theorem A79 (w : World) (b : Nat) (n : Int) (cv ov : Value) (v : Value) (l : List Int) (i : Int) (hl : l.length ≤ 1024) (hv : U9 w 3 1 v l.length (C1 l)) (hw : LW false [b] w [.pt b (.cells #[.int .i64 n, cv, ov] 147)] w) :
  Fn PR B6 68 #[.pointer (some ⟨b, 0, none⟩), v, .int .i64 i] w (Rn [b] w (fun (n : Int) u => A4d v l i u) fun n => [.pt b (.cells #[.int .i64 n, cv, ov] 147)]) := by
 refine A90 (TW.goH (κ := false) (S := [b]) ?_ hw)
 unfold A3M
 obtain ⟨a, c, rfl⟩ := hv.form
 by_cases c1 : i < 0
 ·(have zz:=trivial;repeat((first|clear zz|with_reducible first|refine A3 ?_|refine A5 fun _=>?_|refine A4 fun _=>?_);try simp(disch:=first|omega|assumption|((repeat(first|exact A1|exact uH|apply A2|apply uT));first|done|fail)|(simp;first|done|omega|fail))[c1]))
  exact B0 n (by unfold A4d; rw [if_neg (by omega)]) (by (repeat' constructor))
 by_cases c2 : (l.length : Int) ≤ i
 ·(have zz:=trivial;repeat((first|clear zz|with_reducible first|refine A3 ?_|refine A5 fun _=>?_|refine A4 fun _=>?_);try simp(disch:=first|omega|assumption|((repeat(first|exact A1|exact uH|apply A2|apply uT));first|done|fail)|(simp;first|done|omega|fail))[c1, c2]))
  exact B0 n (by unfold A4d; rw [if_neg (by omega)]) (by (repeat' constructor))
 obtain ⟨j, rfl⟩ : ∃ j : Nat, i = j := ⟨i.toNat, by omega⟩
 have hj : j < l.length := by omega
 have hj2 : ¬ l.length ≤ j := by omega
 rcases hv.2 with ⟨h, e⟩ | ⟨g, cap, cur, e, h2⟩
 ·omega
 cases e
 (have zz:=trivial;repeat((first|clear zz|with_reducible first|refine A3 ?_|refine A5 fun _=>?_|refine A4 fun _=>?_);try simp(disch:=first|omega|assumption|((repeat(first|exact A1|exact uH|apply A2|apply uT));first|done|fail)|(simp;first|done|omega|fail))[c1, c2, hj, hj2]))
 refine C0 (Hc := [.pt b (.cells #[.int .i64 n, cv, ov] 147)]) A5s (fun w' _ hs => C1n w' b n cv ov hs) (by (repeat' constructor)) ?_
 rintro m v rfl
 (have zz:=trivial;repeat((first|clear zz|with_reducible first|refine A3 ?_|refine A5 fun _=>?_|refine A4 fun _=>?_);try simp(disch:=first|omega|assumption|((repeat(first|exact A1|exact uH|apply A2|apply uT));first|done|fail)|(simp;first|done|omega|fail))[c1, c2, hj, hj2]))
 exact B0 m (by unfold A4d; rw [if_pos (by omega)]; exact ⟨_, _, rfl, by simp⟩) (by (repeat' constructor))
theorem A9T (w : World) (b : Nat) (n : Int) (cv ov : Value) (cs os : List Int) (i : Int) (hl : cs.length ≤ 1024) (hw : LW false (B1 (C6 b n cv ov cs os)) w (C6 b n cv ov cs os) w) :
  Fn PR B6 25 #[.pointer (some ⟨b, 0, none⟩), .int .i64 i] w (Rn (B1 (C6 b n cv ov cs os)) w (fun (n : Int) u => u = .int .i64 (D5 cs i)) fun n => C6 b n cv ov cs os) := by
 refine A9s (TW.goH (κ := false) (S := B1 (C6 b n cv ov cs os)) ?_ hw)
 unfold A3N
 refine H7 (e := 3) (k := 1) (v := cv) (q := cs.length) (xs := C1 cs) (by simp only [C6]; (repeat constructor)) fun ca cc e => ?_
 subst e
 simp only [C6]
 (have zz:=trivial;repeat((first|clear zz|with_reducible first|refine A3 ?_|refine A5 fun _=>?_|refine A4 fun _=>?_);try simp(disch:=first|omega|assumption|((repeat(first|exact A1|exact uH|apply A2|apply uT));first|done|fail)|(simp;first|done|omega|fail))[]))
 refine C0 (Hc := [.pt b (.cells #[.int .i64 n, .slice ca cs.length cc, ov] 147)]) V2 (fun w' hw' hs => A79 w' b n (.slice ca cs.length cc) ov (.slice ca cs.length cc) cs i hl (hw'.hold (.own 3 1 (.slice ca cs.length cc) cs.length (C1 cs)) ?_) hs) (by (repeat' constructor)) ?_
 ·(repeat constructor)
 intro m u hu
 unfold A4d at hu
 by_cases c1 : 0 ≤ i ∧ i < cs.length
 ·rw [if_pos c1] at hu
  obtain ⟨g, c, e, rfl⟩ := hu
  cases e
  obtain ⟨j, rfl⟩ : ∃ j : Nat, i = j := ⟨i.toNat, by omega⟩
  have hj : j < cs.length := by omega
  have hg := W5 hj
  (have zz:=trivial;repeat((first|clear zz|with_reducible first|refine A3 ?_|refine A5 fun _=>?_|refine A4 fun _=>?_);try simp(disch:=first|omega|assumption|((repeat(first|exact A1|exact uH|apply A2|apply uT));first|done|fail)|(simp;first|done|omega|fail))[hg]))
  exact B0 m (by unfold D5; rw [if_pos c1, Int.toNat_natCast]; exact (List.getElem?_eq_some_iff.1 hg).2) (by (repeat' constructor))
 ·rw [if_neg c1] at hu
  subst hu
  (have zz:=trivial;repeat((first|clear zz|with_reducible first|refine A3 ?_|refine A5 fun _=>?_|refine A4 fun _=>?_);try simp(disch:=first|omega|assumption|((repeat(first|exact A1|exact uH|apply A2|apply uT));first|done|fail)|(simp;first|done|omega|fail))[]))
  exact B0 m (by unfold D5; rw [if_neg c1]) (by (repeat' constructor))
theorem B4p (w : World) (b : Nat) (n : Int) (cv ov : Value) (cs os : List Int) (i v : Int) (hl : cs.length ≤ 1024) (hw : LW false (B1 (C6 b n cv ov cs os)) w (C6 b n cv ov cs os) w) :
  Fn PR B6 52 #[.pointer (some ⟨b, 0, none⟩), .int .i64 i, .int .i64 v] w (Rn (B1 (C6 b n cv ov cs os)) w (fun (n : Int) u => u = .tuple #[]) fun n => C6 b n cv ov (K9 cs i v) os) := by
 refine A85 (TW.goH (κ := false) (S := B1 (C6 b n cv ov cs os)) ?_ hw)
 unfold A2l
 refine H7 (e := 3) (k := 1) (v := cv) (q := cs.length) (xs := C1 cs) (by simp only [C6]; (repeat constructor)) fun ca cc e => ?_
 subst e
 simp only [C6]
 (have zz:=trivial;repeat((first|clear zz|with_reducible first|refine A3 ?_|refine A5 fun _=>?_|refine A4 fun _=>?_);try simp(disch:=first|omega|assumption|((repeat(first|exact A1|exact uH|apply A2|apply uT));first|done|fail)|(simp;first|done|omega|fail))[]))
 refine C0 (Hc := [.pt b (.cells #[.int .i64 n, .slice ca cs.length cc, ov] 147)]) V2 (fun w' hw' hs => A79 w' b n (.slice ca cs.length cc) ov (.slice ca cs.length cc) cs i hl (hw'.hold (.own 3 1 (.slice ca cs.length cc) cs.length (C1 cs)) ?_) hs) (by (repeat' constructor)) ?_
 ·(repeat constructor)
 intro m u hu
 unfold A4d at hu
 by_cases c1 : 0 ≤ i ∧ i < cs.length
 ·rw [if_pos c1] at hu
  obtain ⟨g, c, e, rfl⟩ := hu
  cases e
  obtain ⟨j, rfl⟩ : ∃ j : Nat, i = j := ⟨i.toNat, by omega⟩
  have hj : j < cs.length := by omega
  (have zz:=trivial;repeat((first|clear zz|with_reducible first|refine A3 ?_|refine A5 fun _=>?_|refine A4 fun _=>?_);try simp(disch:=first|omega|assumption|((repeat(first|exact A1|exact uH|apply A2|apply uT));first|done|fail)|(simp;first|done|omega|fail))[]))
  refine N0 (by (repeat constructor)) (by simp) (by simp; omega) (by simp) ?_
  refine B0 m rfl ?_
  have e : U7 (C1 cs) ((j : Nat) : Int).toNat [.int .i64 v] = C1 (K9 cs j v) := by unfold K9; rw [if_pos c1, Int.toNat_natCast, l9 hj]
  have el : (K9 cs j v).length = cs.length := by unfold K9; rw [if_pos c1, List.length_set]
  rw [el, ← e]
  simp
  (repeat' constructor)
 ·rw [if_neg c1] at hu
  subst hu
  (have zz:=trivial;repeat((first|clear zz|with_reducible first|refine A3 ?_|refine A5 fun _=>?_|refine A4 fun _=>?_);try simp(disch:=first|omega|assumption|((repeat(first|exact A1|exact uH|apply A2|apply uT));first|done|fail)|(simp;first|done|omega|fail))[]))
  exact B0 m rfl (by unfold K9; rw [if_neg c1]; (repeat' constructor))
theorem B3W (w : World) (b : Nat) (n : Int) (cv ov : Value) (cs os : List Int) (i d : Int) (hl : cs.length ≤ 1024) (hi : 0 ≤ i ∧ i < cs.length) (hw : LW false (B1 (C6 b n cv ov cs os)) w (C6 b n cv ov cs os) w) :
  Fn PR B6 43 #[.pointer (some ⟨b, 0, none⟩), .int .i64 i, .int .i64 d] w (Rn (B1 (C6 b n cv ov cs os)) w (fun (n : Int) u => u = .int .i64 (IntKind.i64.wrap (D5 cs i + d))) fun n => C6 b n cv ov (K9 cs i (IntKind.i64.wrap (D5 cs i + d))) os) := by
 refine B03 (TW.goH (κ := false) (S := B1 (C6 b n cv ov cs os)) ?_ hw)
 unfold A3w
 refine H7 (e := 3) (k := 1) (v := cv) (q := cs.length) (xs := C1 cs) (by simp only [C6]; (repeat constructor)) fun ca cc e => ?_
 subst e
 simp only [C6]
 (have zz:=trivial;repeat((first|clear zz|with_reducible first|refine A3 ?_|refine A5 fun _=>?_|refine A4 fun _=>?_);try simp(disch:=first|omega|assumption|((repeat(first|exact A1|exact uH|apply A2|apply uT));first|done|fail)|(simp;first|done|omega|fail))[]))
 refine C0 (Hc := [.pt b (.cells #[.int .i64 n, .slice ca cs.length cc, ov] 147)]) V2 (fun w' hw' hs => A79 w' b n (.slice ca cs.length cc) ov (.slice ca cs.length cc) cs i hl (hw'.hold (.own 3 1 (.slice ca cs.length cc) cs.length (C1 cs)) ?_) hs) (by (repeat' constructor)) ?_
 ·(repeat constructor)
 intro m u hu
 unfold A4d at hu
 rw [if_pos hi] at hu
 obtain ⟨g, c, e, rfl⟩ := hu
 cases e
 obtain ⟨j, rfl⟩ : ∃ j : Nat, i = j := ⟨i.toNat, by omega⟩
 have hj : j < cs.length := by omega
 have hg := W5 hj
 have hld : D5 cs j = cs.getD j 0 := by unfold D5; rw [if_pos hi, Int.toNat_natCast]
 rw [hld]
 obtain ⟨z, hz⟩ : ∃ z, z = cs.getD j 0 := ⟨_, rfl⟩
 rw [← hz] at hg ⊢
 have hgg := (List.getElem?_eq_some_iff.1 hg).2
 (have zz:=trivial;repeat((first|clear zz|with_reducible first|refine A3 ?_|refine A5 fun _=>?_|refine A4 fun _=>?_);try simp(disch:=first|omega|assumption|((repeat(first|exact A1|exact uH|apply A2|apply uT));first|done|fail)|(simp;first|done|omega|fail))[hg, hgg]))
 refine N0 (by (repeat constructor)) (by simp) (by simp; omega) (by simp) ?_
 have e : ∀ v : Int, U7 (C1 cs) j (Value.int .i64 v).cells.toList = C1 (K9 cs j v) := fun v => by unfold K9; rw [if_pos hi, Int.toNat_natCast, ← l9 hj]; rfl
 have el : ∀ v : Int, (K9 cs j v).length = cs.length := fun v => by unfold K9; rw [if_pos hi, List.length_set]
 have hr : ∀ v : Int, (C1 (K9 cs j v))[j]? = some (.int .i64 v) := fun v => by
  rw [W5 (by rw [el]; exact hj)]; unfold K9; rw [if_pos hi, Int.toNat_natCast, List.getD_eq_getElem?_getD, List.getElem?_set_self hj]; rfl
 have hrr : ∀ v : Int, ∀ h, (C1 (K9 cs j v))[j]'h = .int .i64 v := fun v h => (List.getElem?_eq_some_iff.1 (hr v)).2
 simp only [Int.toNat_natCast, e]
 (have zz:=trivial;repeat((first|clear zz|with_reducible first|refine A3 ?_|refine A5 fun _=>?_|refine A4 fun _=>?_);try simp(disch:=first|omega|assumption|((repeat(first|exact A1|exact uH|apply A2|apply uT));first|done|fail)|(simp;first|done|omega|fail))[el, e, hr, hrr]))
 exact B0 m rfl (by (repeat' constructor))
theorem B5j (w : World) (v u : Value) (l : List Int) (i x y : Int) (hu : A4d v l i u) (hw : LW false (B1 [.own 3 1 v l.length (C1 l)]) w [.own 3 1 v l.length (C1 l)] w) :
  Fn PR B6 75 #[u, .int .i64 x, .int .i64 y] w (Rn (B1 [.own 3 1 v l.length (C1 l)]) w (fun (_ : Unit) r => r = .bool (decide (0 ≤ i ∧ i < l.length ∧ l.getD i.toNat 0 = x))) fun _ => [.own 3 1 v (A3q l i x y).length (C1 (A3q l i x y))]) := by
 refine B5H (TW.goH (κ := false) (S := B1 [.own 3 1 v l.length (C1 l)]) ?_ hw)
 unfold A9Y
 unfold A4d at hu
 by_cases c1 : 0 ≤ i ∧ i < l.length
 ·rw [if_pos c1] at hu
  obtain ⟨g, c, rfl, rfl⟩ := hu
  obtain ⟨j, rfl⟩ : ∃ j : Nat, i = j := ⟨i.toNat, by omega⟩
  have hj : j < l.length := by omega
  have hg := W5 hj
  unfold A3q
  simp only [Int.toNat_natCast]
  by_cases c2 : l.getD j 0 = x
  ·rw [if_pos ⟨c1.1, c1.2, c2⟩, decide_eq_true ⟨c1.1, c1.2, c2⟩]
   obtain ⟨z, hz⟩ : ∃ z, z = l.getD j 0 := ⟨_, rfl⟩
   rw [← hz] at hg c2
   have hgg := (List.getElem?_eq_some_iff.1 hg).2
   subst c2
   (have zz:=trivial;repeat((first|clear zz|with_reducible first|refine A3 ?_|refine A5 fun _=>?_|refine A4 fun _=>?_);try simp(disch:=first|omega|assumption|((repeat(first|exact A1|exact uH|apply A2|apply uT));first|done|fail)|(simp;first|done|omega|fail))[hg, hgg]))
   refine N0 (by (repeat constructor)) (by simp) (by simp; omega) (by simp) ?_
   refine B0 () rfl ?_
   have e : U7 (C1 l) j (Value.int .i64 y).cells.toList = C1 (l.set j y) := by rw [← l9 hj]; rfl
   rw [List.length_set, ← e]
   (repeat' constructor)
  ·rw [if_neg (fun h => c2 h.2.2), decide_eq_false (fun h => c2 h.2.2)]
   obtain ⟨z, hz⟩ : ∃ z, z = l.getD j 0 := ⟨_, rfl⟩
   rw [← hz] at hg c2
   have hgg := (List.getElem?_eq_some_iff.1 hg).2
   (have zz:=trivial;repeat((first|clear zz|with_reducible first|refine A3 ?_|refine A5 fun _=>?_|refine A4 fun _=>?_);try simp(disch:=first|omega|assumption|((repeat(first|exact A1|exact uH|apply A2|apply uT));first|done|fail)|(simp;first|done|omega|fail))[hg, hgg, c2]))
   exact B0 () rfl (by (repeat' constructor))
 ·rw [if_neg c1] at hu
  subst hu
  unfold A3q
  rw [if_neg (fun h => c1 ⟨h.1, h.2.1⟩), decide_eq_false (fun h => c1 ⟨h.1, h.2.1⟩)]
  (have zz:=trivial;repeat((first|clear zz|with_reducible first|refine A3 ?_|refine A5 fun _=>?_|refine A4 fun _=>?_);try simp(disch:=first|omega|assumption|((repeat(first|exact A1|exact uH|apply A2|apply uT));first|done|fail)|(simp;first|done|omega|fail))[]))
  exact B0 () rfl (by (repeat' constructor))
def A3j (u : Value) : Prop := ∃ r : Bool, u = .bool r
theorem Y9 (r : Bool) : A3j (.bool r) := ⟨r, rfl⟩
theorem B1z (w : World) (b : Nat) (n : Int) (cv ov : Value) (cs os : List Int) (i who : Int) (hl : os.length ≤ 1024) (hw : LW false (B1 (C6 b n cv ov cs os)) w (C6 b n cv ov cs os) w) :
  Fn PR B6 44 #[.pointer (some ⟨b, 0, none⟩), .int .i64 i, .int .i64 who] w (Rn (B1 (C6 b n cv ov cs os)) w (fun (n : Int) u => A3j u) fun n => C6 b n cv ov cs (T4 os i who)) := by
 refine A9x (TW.goH (κ := false) (S := B1 (C6 b n cv ov cs os)) ?_ hw)
 unfold A3G
 refine H7 (e := 3) (k := 1) (v := ov) (q := os.length) (xs := C1 os) (by simp only [C6]; (repeat constructor)) fun ca cc e => ?_
 subst e
 simp only [C6]
 (have zz:=trivial;repeat((first|clear zz|with_reducible first|refine A3 ?_|refine A5 fun _=>?_|refine A4 fun _=>?_);try simp(disch:=first|omega|assumption|((repeat(first|exact A1|exact uH|apply A2|apply uT));first|done|fail)|(simp;first|done|omega|fail))[]))
 refine C0 (Hc := [.pt b (.cells #[.int .i64 n, cv, .slice ca os.length cc] 147)]) V2 (fun w' hw' hs => A79 w' b n cv (.slice ca os.length cc) (.slice ca os.length cc) os i hl (hw'.hold (.own 3 1 (.slice ca os.length cc) os.length (C1 os)) ?_) hs) (by (repeat' constructor)) ?_
 ·(repeat constructor)
 intro m u hu
 unfold T4
 by_cases c1 : 0 ≤ who
 ·rw [if_pos c1]
  (have zz:=trivial;repeat((first|clear zz|with_reducible first|refine A3 ?_|refine A5 fun _=>?_|refine A4 fun _=>?_);try simp(disch:=first|omega|assumption|((repeat(first|exact A1|exact uH|apply A2|apply uT));first|done|fail)|(simp;first|done|omega|fail))[c1]))
  refine C0 (Hc := [.own 3 1 (.slice ca os.length cc) os.length (C1 os)]) A8B (fun w' _ hs => B5j w' _ u os i (-1) who hu hs) (by (repeat' constructor)) ?_
  rintro _ r rfl
  (have zz:=trivial;repeat((first|clear zz|with_reducible first|refine A3 ?_|refine A5 fun _=>?_|refine A4 fun _=>?_);try simp(disch:=first|omega|assumption|((repeat(first|exact A1|exact uH|apply A2|apply uT));first|done|fail)|(simp;first|done|omega|fail))[]))
  exact B0 m (Y9 _) (by (repeat' constructor))
 ·rw [if_neg c1]
  (have zz:=trivial;repeat((first|clear zz|with_reducible first|refine A3 ?_|refine A5 fun _=>?_|refine A4 fun _=>?_);try simp(disch:=first|omega|assumption|((repeat(first|exact A1|exact uH|apply A2|apply uT));first|done|fail)|(simp;first|done|omega|fail))[c1]))
  exact B0 m (Y9 _) (by (repeat' constructor))
theorem A4m (w : World) (b : Nat) (n : Int) (cv ov : Value) (cs os : List Int) (i who : Int) (hl : os.length ≤ 1024) (hw : LW false (B1 (C6 b n cv ov cs os)) w (C6 b n cv ov cs os) w) :
  Fn PR B6 45 #[.pointer (some ⟨b, 0, none⟩), .int .i64 i, .int .i64 who] w (Rn (B1 (C6 b n cv ov cs os)) w (fun (n : Int) u => A3j u) fun n => C6 b n cv ov cs (K7 os i who)) := by
 refine A8Y (TW.goH (κ := false) (S := B1 (C6 b n cv ov cs os)) ?_ hw)
 unfold A11
 refine H7 (e := 3) (k := 1) (v := ov) (q := os.length) (xs := C1 os) (by simp only [C6]; (repeat constructor)) fun ca cc e => ?_
 subst e
 simp only [C6]
 (have zz:=trivial;repeat((first|clear zz|with_reducible first|refine A3 ?_|refine A5 fun _=>?_|refine A4 fun _=>?_);try simp(disch:=first|omega|assumption|((repeat(first|exact A1|exact uH|apply A2|apply uT));first|done|fail)|(simp;first|done|omega|fail))[]))
 refine C0 (Hc := [.pt b (.cells #[.int .i64 n, cv, .slice ca os.length cc] 147)]) V2 (fun w' hw' hs => A79 w' b n cv (.slice ca os.length cc) (.slice ca os.length cc) os i hl (hw'.hold (.own 3 1 (.slice ca os.length cc) os.length (C1 os)) ?_) hs) (by (repeat' constructor)) ?_
 ·(repeat constructor)
 intro m u hu
 unfold K7
 by_cases c1 : 0 ≤ who
 ·rw [if_pos c1]
  (have zz:=trivial;repeat((first|clear zz|with_reducible first|refine A3 ?_|refine A5 fun _=>?_|refine A4 fun _=>?_);try simp(disch:=first|omega|assumption|((repeat(first|exact A1|exact uH|apply A2|apply uT));first|done|fail)|(simp;first|done|omega|fail))[c1]))
  refine C0 (Hc := [.own 3 1 (.slice ca os.length cc) os.length (C1 os)]) A8B (fun w' _ hs => B5j w' _ u os i who (-1) hu hs) (by (repeat' constructor)) ?_
  rintro _ r rfl
  (have zz:=trivial;repeat((first|clear zz|with_reducible first|refine A3 ?_|refine A5 fun _=>?_|refine A4 fun _=>?_);try simp(disch:=first|omega|assumption|((repeat(first|exact A1|exact uH|apply A2|apply uT));first|done|fail)|(simp;first|done|omega|fail))[]))
  exact B0 m (Y9 _) (by (repeat' constructor))
 ·rw [if_neg c1]
  (have zz:=trivial;repeat((first|clear zz|with_reducible first|refine A3 ?_|refine A5 fun _=>?_|refine A4 fun _=>?_);try simp(disch:=first|omega|assumption|((repeat(first|exact A1|exact uH|apply A2|apply uT));first|done|fail)|(simp;first|done|omega|fail))[c1]))
  exact B0 m (Y9 _) (by (repeat' constructor))
theorem B4m (w : World) (b : Nat) (n : Int) (cv ov : Value) (os : List Int) (i : Int) (hb : bl w b = some (.cells #[.int .i64 n, cv, ov] 147 (0, 0))) (hv : D2 w ov os.length (C1 os)) :
  Fn PR B6 29 #[.pointer (some ⟨b, 0, none⟩), .int .i64 i] w (fun u w' => u = .int .i64 (A2c os i) ∧ D6 [] w w') := by
 refine Fn.pure (A8g (TW.go (κ := false) (S := []) ?_))
 unfold A2U
 obtain ⟨a, c, rfl, hr⟩ := hv.form
 have h2 : w.cell? ⟨b, 2, none⟩ = some (.slice a os.length c) := by rw [D7 hb]; rfl
 by_cases c1 : i < 0
 ·(have zz:=trivial;repeat((first|clear zz|with_reducible first|refine A3 ?_|refine A5 fun _=>?_|refine A4 fun _=>?_);try simp(disch:=first|omega|assumption|((repeat(first|exact A1|exact uH|apply A2|apply uT));first|done|fail)|(simp;first|done|omega|fail))[c1, h2]))
  exact B4 (by unfold A2c; rw [if_neg (by omega)])
 by_cases c2 : (os.length : Int) ≤ i
 ·(have zz:=trivial;repeat((first|clear zz|with_reducible first|refine A3 ?_|refine A5 fun _=>?_|refine A4 fun _=>?_);try simp(disch:=first|omega|assumption|((repeat(first|exact A1|exact uH|apply A2|apply uT));first|done|fail)|(simp;first|done|omega|fail))[c1, c2, h2]))
  exact B4 (by unfold A2c; rw [if_neg (by omega)])
 obtain ⟨j, rfl⟩ : ∃ j : Nat, i = j := ⟨i.toNat, by omega⟩
 have hj : j < os.length := by omega
 have hj2 : ¬ os.length ≤ j := by omega
 obtain ⟨g, o, rfl, hrow⟩ := hr (by omega)
 have hx : w.cell? ⟨g, o + j, none⟩ = some (.int .i64 (os.getD j 0)) := hrow.get (W5 hj)
 obtain ⟨z, hz⟩ : ∃ z, z = os.getD j 0 := ⟨_, rfl⟩
 rw [← hz] at hx
 (have zz:=trivial;repeat((first|clear zz|with_reducible first|refine A3 ?_|refine A5 fun _=>?_|refine A4 fun _=>?_);try simp(disch:=first|omega|assumption|((repeat(first|exact A1|exact uH|apply A2|apply uT));first|done|fail)|(simp;first|done|omega|fail))[c1, c2, hj, hj2, h2, hx]))
 exact B4 (by unfold A2c; rw [if_pos (by omega), Int.toNat_natCast, hz])
end Go.Proofs.YtpnidmkaobfhiaaGreat
namespace Go.Proofs.YtpnidmkaobfhiaaGreat
open Go
theorem B1A (n : Nat) : (Builtin.zeroCells (Value.int .i64 0).cells n).toList = C1 (List.replicate n 0) := by
 have hz : (Builtin.zeroCells (Value.int .i64 0).cells n).toList.length = n := by simp [size_zeroCells]
 apply List.ext_getElem (by rw [hz]; simp)
 intro i h1 h2
 simp [Builtin.zeroCells, C1, Nat.mod_one]
theorem D1w {l i : Nat} (h : i < l) (a b : Int) : (List.replicate i a ++ List.replicate (l - i) b).set i a = List.replicate (i + 1) a ++ List.replicate (l - (i + 1)) b := by
 rw [List.set_append_right _ _ (by simp)]
 obtain ⟨k, hk⟩ : ∃ k, l - i = k + 1 := ⟨l - i - 1, by omega⟩
 have : l - (i + 1) = k := by omega
 rw [hk, this, List.replicate_succ' (n := i)]
 simp [List.replicate_succ]
theorem A8e (w : World) (n : Nat) (h : n ≤ 1024) : Fn PR B6 74 #[.int .i64 (n : Nat)] w (fun u w' => u = .int .i64 (n : Nat) ∧ D6 [] w w') := by
 refine Fn.pure (B2e (TW.go (κ := false) (S := []) ?_))
 unfold A6N
 have h1 : max ((n : Nat) : Int) 0 = n := by omega
 have h2 : min ((n : Nat) : Int) 1024 = n := by omega
 (have zz:=trivial;repeat((first|clear zz|with_reducible first|refine A3 ?_|refine A5 fun _=>?_|refine A4 fun _=>?_);try simp(disch:=first|omega|assumption|((repeat(first|exact A1|exact uH|apply A2|apply uT));first|done|fail)|(simp;first|done|omega|fail))[h1, h2]))
 exact B4 rfl
theorem B7N (w : World) (a l : Nat) (ha : a ≤ 1024) (hl : l ≤ 1024) : Fn PR B6 34 #[.int .i64 (a : Nat), .int .i64 (l : Nat)] w
  (Rn [] w (fun (x : Nat × Value × Value) u => u = .pointer (some ⟨x.1, 0, none⟩)) fun x => C6 x.1 0 x.2.1 x.2.2 (List.replicate a 0) (List.replicate l (-1))) := by
 refine B6C (TW.go (κ := false) (S := []) ?_)
 unfold B0r
 (have zz:=trivial;repeat((first|clear zz|with_reducible first|refine A3 ?_|refine A5 fun _=>?_|refine A4 fun _=>?_);try simp(disch:=first|omega|assumption|((repeat(first|exact A1|exact uH|apply A2|apply uT));first|done|fail)|(simp;first|done|omega|fail))[]))
 refine C4E (α := Nat × Nat × Nat) (fun _ => True) (fun x => C6 x.1 0 (.slice (some ⟨x.2.1, 0, none⟩) a a) (.slice (some ⟨x.2.2, 0, none⟩) l l) (List.replicate a 0) (List.replicate l 0)) (fun x => .pointer (some ⟨x.1, 0, none⟩)) ?_ ?_
 ·rintro ⟨b, bc, bo⟩ _
  simp only [C6]
  (have zz:=trivial;repeat((first|clear zz|with_reducible first|refine A3 ?_|refine A5 fun _=>?_|refine A4 fun _=>?_);try simp(disch:=first|omega|assumption|((repeat(first|exact A1|exact uH|apply A2|apply uT));first|done|fail)|(simp;first|done|omega|fail))[]))
  refine C6p l (fun i => [.pt b (.cells #[.int .i64 0, .slice (some ⟨bc, 0, none⟩) a a, .slice (some ⟨bo, 0, none⟩) l l] 147), .own 3 1 (.slice (some ⟨bc, 0, none⟩) a a) a (C1 (List.replicate a 0)), .own 3 1 (.slice (some ⟨bo, 0, none⟩) l l) l (C1 (List.replicate i (-1) ++ List.replicate (l - i) 0))]) ?_ (by simp)
  intro i hi L hL
  by_cases hlt : i < l
  ·(have zz:=trivial;repeat((first|clear zz|with_reducible first|refine A3 ?_|refine A5 fun _=>?_|refine A4 fun _=>?_);try simp(disch:=first|omega|assumption|((repeat(first|exact A1|exact uH|apply A2|apply uT));first|done|fail)|(simp;first|done|omega|fail))[hlt]))
   refine N0 (by (repeat constructor)) (by simp) (by simp; omega) (by simp) ?_
   have e : U7 (C1 (List.replicate i (-1) ++ List.replicate (l - i) 0)) i (Value.int .i64 (-1)).cells.toList = C1 (List.replicate (i + 1) (-1) ++ List.replicate (l - (i + 1)) 0) := by
    rw [← D1w hlt, ← l9 (by simp; omega)]; rfl
   rw [e]
   (have zz:=trivial;repeat((first|clear zz|with_reducible first|refine A3 ?_|refine A5 fun _=>?_|refine A4 fun _=>?_);try simp(disch:=first|omega|assumption|((repeat(first|exact A1|exact uH|apply A2|apply uT));first|done|fail)|(simp;first|done|omega|fail))[]))
   exact hL hlt
  ·obtain rfl : i = l := by omega
   (have zz:=trivial;repeat((first|clear zz|with_reducible first|refine A3 ?_|refine A5 fun _=>?_|refine A4 fun _=>?_);try simp(disch:=first|omega|assumption|((repeat(first|exact A1|exact uH|apply A2|apply uT));first|done|fail)|(simp;first|done|omega|fail))[]))
   refine B0 (b, .slice (some ⟨bc, 0, none⟩) a a, .slice (some ⟨bo, 0, none⟩) i i) rfl ?_
   simp only [List.length_replicate]
   (repeat' constructor)
 ·intro C hC
  have hC' : ∀ b bc bo, TW false [] w (C6 b 0 (.slice (some ⟨bc, 0, none⟩) a a) (.slice (some ⟨bo, 0, none⟩) l l) (List.replicate a 0) (List.replicate l 0)) (C (.pointer (some ⟨b, 0, none⟩))) := fun b bc bo => hC (b, bc, bo) trivial
  simp only [C6, List.length_replicate] at hC'
  refine D4 A1f (fun w' _ => A8e w' a ha) ?_
  (have zz:=trivial;repeat((first|clear zz|with_reducible first|refine A3 ?_|refine A5 fun _=>?_|refine A4 fun _=>?_);try simp(disch:=first|omega|assumption|((repeat(first|exact A1|exact uH|apply A2|apply uT));first|done|fail)|(simp;first|done|omega|fail))[]))
  refine ⟨?_, ?_, fun _ _ => trivial⟩
  ·refine A0r (by omega) (by omega) (by omega) (by omega) fun bc => ?_
   rw [Int.toNat_natCast, B1A]
   refine D4 A1f (fun w' _ => A8e w' l hl) ?_
   refine A0r (by omega) (by omega) (by omega) (by omega) fun bo => ?_
   rw [Int.toNat_natCast, B1A]
   (have zz:=trivial;repeat((first|clear zz|with_reducible first|refine A3 ?_|refine A5 fun _=>?_|refine A4 fun _=>?_);try simp(disch:=first|omega|assumption|((repeat(first|exact A1|exact uH|apply A2|apply uT));first|done|fail)|(simp;first|done|omega|fail))[]))
   rename_i b
   exact Sels.tw (by (repeat' constructor)) (hC' b bc bo)
  ·refine D4 A1f (fun w' _ => A8e w' l hl) ?_
   (have zz:=trivial;repeat((first|clear zz|with_reducible first|refine A3 ?_|refine A5 fun _=>?_|refine A4 fun _=>?_);try simp(disch:=first|omega|assumption|((repeat(first|exact A1|exact uH|apply A2|apply uT));first|done|fail)|(simp;first|done|omega|fail))[]))
   refine ⟨?_, ?_, fun _ _ => trivial⟩
   ·refine A0r (by omega) (by omega) (by omega) (by omega) fun bc => ?_
    rw [Int.toNat_natCast, B1A]
    refine A0r (by omega) (by omega) (by omega) (by omega) fun bo => ?_
    rw [Int.toNat_natCast, B1A]
    (have zz:=trivial;repeat((first|clear zz|with_reducible first|refine A3 ?_|refine A5 fun _=>?_|refine A4 fun _=>?_);try simp(disch:=first|omega|assumption|((repeat(first|exact A1|exact uH|apply A2|apply uT));first|done|fail)|(simp;first|done|omega|fail))[]))
    rename_i b
    exact Sels.tw (by (repeat' constructor)) (hC' b bc bo)
   ·refine A0r (by omega) (by omega) (by omega) (by omega) fun bo => ?_
    rw [Int.toNat_natCast, B1A]
    refine A0r (by omega) (by omega) (by omega) (by omega) fun bc => ?_
    rw [Int.toNat_natCast, B1A]
    (have zz:=trivial;repeat((first|clear zz|with_reducible first|refine A3 ?_|refine A5 fun _=>?_|refine A4 fun _=>?_);try simp(disch:=first|omega|assumption|((repeat(first|exact A1|exact uH|apply A2|apply uT));first|done|fail)|(simp;first|done|omega|fail))[]))
    rename_i b
    exact Sels.tw (by (repeat' constructor)) (hC' b bc bo)
end Go.Proofs.YtpnidmkaobfhiaaGreat
namespace Go.Proofs.YtpnidmkaobfhiaaGreat
open Go
def B0L (X : Nat → Prop) (t0 : Value) (R : Value → WP) : WP :=
 A0 PR (A8 .min #[3, 3] 0 [t0, (.int .i64 8)]) fun t4 =>
 A0 PR (A8 .max #[3, 3] 0 [(.int .i64 0), t4]) fun t5 =>
 A0 PR (Instr.build 167 #[(1, t5)]) fun t6 =>
 B9 PR X (Instr.box 167 t6) fun t7 =>
 R t7
theorem B49 : B2 PR 37 := A7 Tryz.func37 (by kernel_rfl) rfl
theorem B64 {X : Nat → Prop} {t0 : Value} {R : Value → WP} {w : World} (h : B0L X t0 R w) : Fn PR X 37 #[t0] w R := C9 (args := [t0]) mixed Tryz.func37 (by kernel_rfl) h
def A18 (X : Nat → Prop) (t0 t1 : Value) (R : Value → WP) : WP :=
 jn (n := 1) (fun t4 =>
 A0 PR (A9 t0) fun t17 =>
 A0 PR (Instr.fieldAt 167 t17 0) fun t18 =>
 A0 PR (Instr.indexAt 165 t18 t1) fun t19 =>
 A0 PR (Instr.fieldAt 164 t19 0) fun t20 =>
 A6 PR (Instr.loadAt 3 t20) fun t21 =>
 R t21) fun J1 =>
 A0 PR (binOp .lss 3 t1 (.int .i64 0)) fun t6 =>
 gj t6 false (fun J => J t1) fun t8 =>
 gj t6 false (fun J => J t0) fun t9 =>
 gj t6 false (fun J => A0 PR (A9 t9) J) fun t10 =>
 gj t6 false (fun J => A0 PR (Instr.fieldAt 167 t10 1) J) fun t11 =>
 gj t6 false (fun J => A6 PR (Instr.loadAt 3 t11) J) fun t12 =>
 gj t6 false (fun J => A0 PR (binOp .geq 3 t8 t12) J) fun t13 =>
 A0 PR (do pure (if ← asBool t6 then (.bool true) else t13)) fun t14 =>
 B7 t14 (
 R (.int .i64 (-1))) (
 J1 (.int .i64 0))
theorem A1W : B2 PR 61 := A7 Tryz.func61 (by kernel_rfl) rfl
theorem A7j {X : Nat → Prop} {t0 t1 : Value} {R : Value → WP} {w : World} (h : A18 X t0 t1 R w) : Fn PR X 61 #[t0, t1] w R := C9 (args := [t0, t1]) mixed Tryz.func61 (by kernel_rfl) h
def A2s (X : Nat → Prop) (t0 : Value) (R : Value → WP) : WP :=
 jn (n := 2) (fun t2 t13 =>
 R (.int .i64 (-1))) fun J1 =>
 drw <|
 A0 PR (A9 t0) fun t5 =>
 A0 PR (Instr.fieldAt 167 t5 0) fun t6 =>
 A0 PR (A9 t0) fun t8 =>
 A0 PR (Instr.fieldAt 167 t8 1) fun t9 =>
 A6 PR (Instr.loadAt 3 t9) fun t10 =>
 A0 PR (Instr.sliceAt 165 t6 none (some t10) none) fun t11 =>
 A0 PR (A8 .len #[371] 0 [t11]) fun t12 =>
 lp (n := 2) (fun L2 t2_1 t13_1 =>
 A0 PR (binOp .lss 3 t13_1 t12) fun t14 =>
 jn (n := 0) (
 jn (n := 1) (fun t2_2 =>
 A0 PR (binOp .add 3 t13_1 (.int .i64 1)) fun t31 =>
 L2 t2_2 t31) fun J3 =>
 A0 PR (A9 t0) fun t18 =>
 A0 PR (Instr.fieldAt 167 t18 0) fun t19 =>
 A0 PR (Instr.indexAt 165 t19 t13_1) fun t20 =>
 A6 PR (Instr.loadAt 164 t20) fun t21 =>
 A0 PR (Instr.build 164 #[]) fun t22 =>
 A6 PR (J0 .eql 164 (.tmp 21) (.tmp 22) t21 t22) fun t23 =>
 B7 t23 (
 A0 PR (A9 t0) fun t26 =>
 A0 PR (Instr.fieldAt 167 t26 0) fun t27 =>
 A0 PR (Instr.indexAt 165 t27 t13_1) fun t28 =>
 A0 PR (Instr.fieldAt 164 t28 0) fun t29 =>
 C2 PR X (Instr.storeAt 3 t29 (.int .i64 1)) <|
 R t13_1) (
 J3 t2_1)) fun J4 =>
 B7 t14 (
 J4) (
 J1 t2_1 t13_1)) (.int .i64 0) (.int .i64 0)
theorem A2D : B2 PR 233 := A7 Tryz.func233 (by kernel_rfl) rfl
theorem A8p {X : Nat → Prop} {t0 : Value} {R : Value → WP} {w : World} (h : A2s X t0 R w) : Fn PR X 233 #[t0] w R := C9 (args := [t0]) mixed Tryz.func233 (by kernel_rfl) h
def A01 (X : Nat → Prop) (t0 t1 t2 : Value) (R : Value → WP) : WP :=
 A0 PR (Instr.build 164 #[(0, (.int .i64 2)), (1, t2)]) fun t10 =>
 B3 PR X 244 [t0, t1, (.int .i64 1), t10] fun t11 =>
 R t11
theorem A52 : B2 PR 240 := A7 Tryz.func240 (by kernel_rfl) rfl
theorem A6e {X : Nat → Prop} {t0 t1 t2 : Value} {R : Value → WP} {w : World} (h : A01 X t0 t1 t2 R w) : Fn PR X 240 #[t0, t1, t2] w R := C9 (args := [t0, t1, t2]) mixed Tryz.func240 (by kernel_rfl) h
def A2b (X : Nat → Prop) (t0 t1 : Value) (R : Value → WP) : WP :=
 B9 PR X (Instr.box 71 t0) fun t2 =>
 B9 PR X (Instr.box 54 t1) fun t3 =>
 B9 PR X (Instr.alloc 3 true (.tuple #[])) fun t4 =>
 jn (n := 0) (
 C2 PR X (Instr.storeAt 3 t4 (.int .i64 (-1))) <|
 unw (A6 PR (F1 [.c 3 t4]) R)) fun J1 =>
 A6 PR (Instr.loadAt 71 t2) fun t8 =>
 B3 PR X 245 [t8, (.int .i64 2)] fun t9 =>
 rng (N := 1) PR X (fun t10 K2 =>
 bgn <|
 jn (n := 1) (fun t13 =>
 C2 PR (fun _ => False) (Instr.storeAt 3 t4 t10) <|
 K2 (some .ret)) fun J3 =>
 A6 PR (Instr.loadAt 54 t3) fun t11 =>
 A0 PR (A8 .len #[54] 0 [t11]) fun t12 =>
 lp (n := 1) (fun L4 t13_1 =>
 A0 PR (binOp .lss 3 t13_1 t12) fun t14 =>
 jn (n := 0) (
 jn (n := 0) (
 A0 PR (binOp .add 3 t13_1 (.int .i64 1)) fun t30 =>
 L4 t30) fun J5 =>
 A0 PR (Instr.indexAt 54 t11 t13_1) fun t15 =>
 A6 PR (Instr.loadAt 3 t15) fun t16 =>
 A0 PR (binOp .neq 3 t16 (.int .i64 0)) fun t18 =>
 gj t18 true (fun J => J t16) fun t20 =>
 gj t18 true (fun J => A6 PR (Instr.loadAt 71 t2) J) fun t21 =>
 gj t18 true (fun J => J t10) fun t22 =>
 gj t18 true (fun J => A0 PR (A9 t21) J) fun t23 =>
 gj t18 true (fun J => A0 PR (Instr.fieldAt 167 t23 0) J) fun t24 =>
 gj t18 true (fun J => A0 PR (Instr.indexAt 165 t24 t22) J) fun t25 =>
 gj t18 true (fun J => A0 PR (Instr.fieldAt 164 t25 1) J) fun t26 =>
 gj t18 true (fun J => A6 PR (Instr.loadAt 3 t26) J) fun t27 =>
 gj t18 true (fun J => A0 PR (binOp .leq 3 t20 t27) J) fun t28 =>
 A0 PR (do pure (if ← asBool t18 then t28 else (.bool false))) fun t29 =>
 B7 t29 (
 K2 none) (
 J5)) fun J6 =>
 B7 t14 (
 J6) (
 J3 t13_1)) (.int .i64 0)) t9 (fun j => match j with | none => (J1) | some (.exit i) => (match Nat.beq i 0 with | true => (J1) | false => (H8)) | some .ret => (unw (A6 PR (F1 [.c 3 t4]) R)) | some _ => H8)
theorem n9 : B2 PR 242 := A7 Tryz.func242 (by kernel_rfl) rfl
theorem A9U {X : Nat → Prop} {t0 t1 : Value} {R : Value → WP} {w : World} (h : A2b X t0 t1 R w) : Fn PR X 242 #[t0, t1] w R := C9 (args := [t0, t1]) mixed Tryz.func242 (by kernel_rfl) h
def A2e (X : Nat → Prop) (t0 t1 : Value) (R : Value → WP) : WP :=
 A0 PR (Instr.build 164 #[(0, (.int .i64 0))]) fun t7 =>
 B3 PR X 244 [t0, t1, (.int .i64 2), t7] fun t8 =>
 R t8
theorem A7z : B2 PR 243 := A7 Tryz.func243 (by kernel_rfl) rfl
theorem A9F {X : Nat → Prop} {t0 t1 : Value} {R : Value → WP} {w : World} (h : A2e X t0 t1 R w) : Fn PR X 243 #[t0, t1] w R := C9 (args := [t0, t1]) mixed Tryz.func243 (by kernel_rfl) h
def A2u (X : Nat → Prop) (t0 t1 t2 t3 : Value) (R : Value → WP) : WP :=
 B9 PR X (Instr.box 164 t3) fun t7 =>
 jn (n := 1) (fun t8 =>
 drw <|
 A6 PR (Instr.loadAt 164 t7) fun t16 =>
 A0 PR (A9 t0) fun t17 =>
 A0 PR (Instr.fieldAt 167 t17 0) fun t18 =>
 A0 PR (Instr.indexAt 165 t18 t1) fun t19 =>
 C2 PR X (Instr.storeAt 164 t19 t16) <|
 R (.bool true)) fun J1 =>
 B3 PR X 61 [t0, t1] fun t11 =>
 A0 PR (binOp .neq 3 t11 t2) fun t13 =>
 B7 t13 (
 R (.bool false)) (
 J1 (.bool false))
theorem A2A : B2 PR 244 := A7 Tryz.func244 (by kernel_rfl) rfl
theorem A89 {X : Nat → Prop} {t0 t1 t2 t3 : Value} {R : Value → WP} {w : World} (h : A2u X t0 t1 t2 t3 R w) : Fn PR X 244 #[t0, t1, t2, t3] w R := C9 (args := [t0, t1, t2, t3]) mixed Tryz.func244 (by kernel_rfl) h
def A22 (X : Nat → Prop) (t0 t1 : Value) (R : Value → WP) : WP :=
 B9 PR X (Instr.box 71 t0) fun t2 =>
 B9 PR X (Instr.box 3 t1) fun t3 =>
 A0 PR (Instr.makeFunc (.func 246) #[] #[t2, t3]) fun t5 =>
 R t5
theorem A8C : B2 PR 245 := A7 Tryz.func245 (by kernel_rfl) rfl
theorem A8a {X : Nat → Prop} {t0 t1 : Value} {R : Value → WP} {w : World} (h : A22 X t0 t1 R w) : Fn PR X 245 #[t0, t1] w R := C9 (args := [t0, t1]) mixed Tryz.func245 (by kernel_rfl) h
def A0T (X : Nat → Prop) (t0 t1 t2 : Value) (R : Value → WP) : WP :=
 A6 PR (Instr.loadAt 71 t1) fun t5 =>
 A0 PR (A9 t5) fun t6 =>
 A0 PR (Instr.fieldAt 167 t6 1) fun t7 =>
 A6 PR (Instr.loadAt 3 t7) fun t8 =>
 lp (n := 1) (fun L1 t9 =>
 A0 PR (binOp .lss 3 t9 t8) fun t10 =>
 jn (n := 0) (
 jn (n := 0) (
 A0 PR (binOp .add 3 t9 (.int .i64 1)) fun t27 =>
 L1 t27) fun J2 =>
 drw <|
 A6 PR (Instr.loadAt 71 t1) fun t12 =>
 A0 PR (A9 t12) fun t14 =>
 A0 PR (Instr.fieldAt 167 t14 0) fun t15 =>
 A0 PR (Instr.indexAt 165 t15 t9) fun t16 =>
 A0 PR (Instr.fieldAt 164 t16 0) fun t17 =>
 A6 PR (Instr.loadAt 3 t17) fun t18 =>
 A6 PR (Instr.loadAt 3 t2) fun t19 =>
 A0 PR (binOp .eql 3 t18 t19) fun t20 =>
 gj t20 true (fun J => J t0) fun t22 =>
 gj t20 true (fun J => J t9) fun t23 =>
 gj t20 true (fun J => q6 PR X t22 [t23] J) fun t24 =>
 gj t20 true (fun J => A0 PR (Op.unary .not t24) J) fun t25 =>
 A0 PR (do pure (if ← asBool t20 then t25 else (.bool false))) fun t26 =>
 B7 t26 (
 R (.tuple #[])) (
 J2)) fun J3 =>
 B7 t10 (
 J3) (
 R (.tuple #[]))) (.int .i64 0)
theorem A5D : B2 PR 246 := A7 Tryz.func246 (by kernel_rfl) rfl
theorem A5v {X : Nat → Prop} {t0 t1 t2 : Value} {R : Value → WP} {w : World} (h : A0T X t0 t1 t2 R w) : Fn PR X 246 #[t0, t1, t2] w R := C9 (args := [t0, t1, t2]) mixed Tryz.func246 (by kernel_rfl) h
theorem A54 {X : Nat → Prop} {t0 t1 t2 : Value} {K : Value → WP} {w : World} (h : Fn PR X 246 #[t0, t1, t2] w K) : A2W PR X 246 [t0, t1, t2] K w := ⟨A5D, h⟩
end Go.Proofs.YtpnidmkaobfhiaaGreat
namespace Go.Proofs.YtpnidmkaobfhiaaGreat
open Go
def A6P (s : Int × Int) : List Value := [.int .i64 s.1, .int .i64 s.2]
theorem A6H (s : Int × Int) : (A6P s).length = 2 := rfl
def A4N (l : List (Int × Int)) : List (Int × Int) := l ++ List.replicate (8 - l.length) (0, 0)
def j3 (l : List (Int × Int)) : Array Value := ((A4N l).flatMap A6P ++ [Value.int .i64 (l.length : Nat)]).toArray
theorem B5p {l : List (Int × Int)} (h : l.length ≤ 8) : (A4N l).length = 8 := by unfold A4N; simp; omega
theorem B2M {l : List (Int × Int)} (h : l.length ≤ 8) : ((A4N l).flatMap A6P).length = 16 := by rw [P0 A6H, B5p h]
theorem A8x {l : List (Int × Int)} (h : l.length ≤ 8) : (j3 l).size = 17 := by unfold j3; simp only [List.size_toArray, List.length_append, B2M h]; rfl
theorem B7z {l : List (Int × Int)} (h : l.length ≤ 8) : (j3 l)[16]? = some (.int .i64 (l.length : Nat)) := by
 unfold j3
 have := B2M h
 rw [List.getElem?_toArray, List.getElem?_append_right (by omega), this]; rfl
theorem C48 {l : List (Int × Int)} {i : Nat} (hi : i < l.length) : (A4N l)[i]? = some (l.getD i (0, 0)) := by
 unfold A4N
 rw [List.getElem?_append_left hi, List.getD_eq_getElem?_getD, List.getElem?_eq_getElem hi]; rfl
theorem A8z {l : List (Int × Int)} (h : l.length ≤ 8) {i : Nat} (hi : i < l.length) : (j3 l)[i * 2]? = some (.int .i64 (l.getD i (0, 0)).1) ∧ (j3 l)[i * 2 + 1]? = some (.int .i64 (l.getD i (0, 0)).2) := by
 have hl := B2M h
 have h0 := m0 A6H (A4N l) i 0 (by omega)
 have h1 := m0 A6H (A4N l) i 1 (by omega)
 rw [C48 hi] at h0 h1
 unfold j3
 constructor
 ·rw [List.getElem?_toArray, List.getElem?_append_left (by omega)]; simpa [A6P] using h0
 ·rw [List.getElem?_toArray, List.getElem?_append_left (by omega)]; simpa [A6P] using h1
theorem B4H {l : List (Int × Int)} (h : l.length ≤ 8) {i : Nat} (hi : i < l.length) (s : Int × Int) : F4 (j3 l) (i * 2) (A6P s) = j3 (l.set i s) := by
 unfold j3
 have := C2T A6H (A4N l) i s (by rw [B5p h]; omega) [.int .i64 (l.length : Nat)]
 rw [this]
 have e : (A4N l).set i s = A4N (l.set i s) := by unfold A4N; rw [List.set_append_left _ _ hi, List.length_set]
 rw [e, List.length_set]
def U6 (b : Nat) (l : List (Int × Int)) : Res := .pt b (.cells (j3 l) 167)
def w9 (w : World) (b : Nat) (l : List (Int × Int)) : Prop := bl w b = some (.cells (j3 l) 167 (0, 0))
theorem w9.n {w : World} {b : Nat} {l : List (Int × Int)} (h : w9 w b l) (hl : l.length ≤ 8) : w.cell? ⟨b, 16, none⟩ = some (.int .i64 (l.length : Nat)) := by rw [D7 h]; exact B7z hl
theorem w9.at {w : World} {b : Nat} {l : List (Int × Int)} (h : w9 w b l) (hl : l.length ≤ 8) {i : Nat} (hi : i < l.length) : w.cell? ⟨b, i * 2, none⟩ = some (.int .i64 (l.getD i (0, 0)).1) ∧ w.cell? ⟨b, i * 2 + 1, none⟩ = some (.int .i64 (l.getD i (0, 0)).2) := by
 rw [D7 h, D7 h]; exact A8z hl hi
theorem w9.ks {κ : Bool} {w w' : World} {b : Nat} {l : List (Int × Int)} {S : List Nat} (h : w9 w b l) (hk : KS κ S w w') (hS : b ∉ S) : w9 w' b l := hk.2.1 _ _ hS rfl h
theorem B42 (w : World) (b : Nat) (l : List (Int × Int)) (i : Int) (hl : l.length ≤ 8) (hb : w9 w b l) :
  Fn PR B6 61 #[.pointer (some ⟨b, 0, none⟩), .int .i64 i] w (fun u w' => u = .int .i64 (Z5 l i) ∧ D6 [] w w') := by
 refine Fn.pure (A7j (TW.go (κ := false) (S := []) ?_))
 unfold A18
 have hn := hb.n hl
 by_cases c1 : i < 0
 ·(have zz:=trivial;repeat((first|clear zz|with_reducible first|refine A3 ?_|refine A5 fun _=>?_|refine A4 fun _=>?_);try simp(disch:=first|omega|assumption|((repeat(first|exact A1|exact uH|apply A2|apply uT));first|done|fail)|(simp;first|done|omega|fail))[c1]))
  exact B4 (by unfold Z5; rw [if_neg (by omega)])
 by_cases c2 : (l.length : Int) ≤ i
 ·(have zz:=trivial;repeat((first|clear zz|with_reducible first|refine A3 ?_|refine A5 fun _=>?_|refine A4 fun _=>?_);try simp(disch:=first|omega|assumption|((repeat(first|exact A1|exact uH|apply A2|apply uT));first|done|fail)|(simp;first|done|omega|fail))[c1, c2, hn]))
  exact B4 (by unfold Z5; rw [if_neg (by omega)])
 obtain ⟨j, rfl⟩ : ∃ j : Nat, i = j := ⟨i.toNat, by omega⟩
 have hj : j < l.length := by omega
 have hj2 : ¬ l.length ≤ j := by omega
 have hx := (hb.at hl hj).1
 obtain ⟨z, hz⟩ : ∃ z, z = (l.getD j (0, 0)).1 := ⟨_, rfl⟩
 rw [← hz] at hx
 have hj8 : j < 8 := by omega
 (have zz:=trivial;repeat((first|clear zz|with_reducible first|refine A3 ?_|refine A5 fun _=>?_|refine A4 fun _=>?_);try simp(disch:=first|omega|assumption|((repeat(first|exact A1|exact uH|apply A2|apply uT));first|done|fail)|(simp;first|done|omega|fail))[c1, c2, hj, hj2, hn, hx, hj8]))
 exact B4 (by unfold Z5; rw [if_pos (by omega), Int.toNat_natCast, hz])
theorem w9.own {κ : Bool} {S : List Nat} {w0 w : World} {H : List Res} {b : Nat} {l : List (Int × Int)} (hw : LW κ S w0 H w) (hm : U6 b l ∈ H) : w9 w b l := hw.pt hm
theorem B5l (w : World) (b : Nat) (l : List (Int × Int)) (i a : Int) (s : Int × Int) (hl : l.length ≤ 8) (ha : 0 ≤ a) (hw : LW false [b] w [U6 b l] w) :
  Fn PR B6 244 #[.pointer (some ⟨b, 0, none⟩), .int .i64 i, .int .i64 a, .agg #[.int .i64 s.1, .int .i64 s.2]] w (Rn [b] w (fun (_ : Unit) u => u = .bool (decide (Z5 l i = a))) fun _ => [U6 b (A1d l i a s)]) := by
 refine A89 (TW.goH (κ := false) (S := [b]) ?_ hw)
 unfold A2u
 (have zz:=trivial;repeat((first|clear zz|with_reducible first|refine A3 ?_|refine A5 fun _=>?_|refine A4 fun _=>?_);try simp(disch:=first|omega|assumption|((repeat(first|exact A1|exact uH|apply A2|apply uT));first|done|fail)|(simp;first|done|omega|fail))[]))
 rename_i b1
 refine D4 A1W (fun w' hw' => B42 w' b l i hl (w9.own hw' (by (repeat constructor)))) ?_
 unfold A1d
 by_cases c1 : Z5 l i = a
 ·have h2 : 0 ≤ i ∧ i < l.length := by
   unfold Z5 at c1
   by_cases h : 0 ≤ i ∧ i < l.length
   ·exact h
   ·rw [if_neg h] at c1; omega
  obtain ⟨j, rfl⟩ : ∃ j : Nat, i = j := ⟨i.toNat, by omega⟩
  have hj : j < l.length := by omega
  have hj8 : j < 8 := by omega
  have hsz := A8x hl
  rw [if_pos ⟨c1, by omega⟩, decide_eq_true c1, Int.toNat_natCast]
  have hset := B4H hl hj s
  unfold A6P at hset
  simp only [U6]
  (have zz:=trivial;repeat((first|clear zz|with_reducible first|refine A3 ?_|refine A5 fun _=>?_|refine A4 fun _=>?_);try simp(disch:=first|omega|assumption|((repeat(first|exact A1|exact uH|apply A2|apply uT));first|done|fail)|(simp;first|done|omega|fail))[c1, hj8]))
  simp only [A87, B3c] at hset
  rw [hset]
  exact B0 () rfl (by (repeat' constructor))
 ·rw [if_neg (fun h => c1 h.1), decide_eq_false c1]
  (have zz:=trivial;repeat((first|clear zz|with_reducible first|refine A3 ?_|refine A5 fun _=>?_|refine A4 fun _=>?_);try simp(disch:=first|omega|assumption|((repeat(first|exact A1|exact uH|apply A2|apply uT));first|done|fail)|(simp;first|done|omega|fail))[c1]))
  exact B0 () rfl (by (repeat' constructor))
theorem B8N (w : World) (b : Nat) (l : List (Int × Int)) (i e : Int) (hl : l.length ≤ 8) (hw : LW false [b] w [U6 b l] w) :
  Fn PR B6 240 #[.pointer (some ⟨b, 0, none⟩), .int .i64 i, .int .i64 e] w (Rn [b] w (fun (_ : Unit) u => A3j u) fun _ => [U6 b (l6 l i e)]) := by
 refine A6e (TW.goH (κ := false) (S := [b]) ?_ hw)
 unfold A01
 (have zz:=trivial;repeat((first|clear zz|with_reducible first|refine A3 ?_|refine A5 fun _=>?_|refine A4 fun _=>?_);try simp(disch:=first|omega|assumption|((repeat(first|exact A1|exact uH|apply A2|apply uT));first|done|fail)|(simp;first|done|omega|fail))[]))
 refine C0 (Hc := [U6 b l]) A2A (fun w' _ hs => B5l w' b l i 1 (2, e) hl (by omega) hs) (by (repeat' constructor)) ?_
 rintro _ v rfl
 exact B0 () (Y9 _) (by (repeat' constructor))
theorem C3b (w : World) (b : Nat) (l : List (Int × Int)) (i : Int) (hl : l.length ≤ 8) (hw : LW false [b] w [U6 b l] w) :
  Fn PR B6 243 #[.pointer (some ⟨b, 0, none⟩), .int .i64 i] w (Rn [b] w (fun (_ : Unit) u => A3j u) fun _ => [U6 b (m4 l i)]) := by
 refine A9F (TW.goH (κ := false) (S := [b]) ?_ hw)
 unfold A2e
 (have zz:=trivial;repeat((first|clear zz|with_reducible first|refine A3 ?_|refine A5 fun _=>?_|refine A4 fun _=>?_);try simp(disch:=first|omega|assumption|((repeat(first|exact A1|exact uH|apply A2|apply uT));first|done|fail)|(simp;first|done|omega|fail))[]))
 refine C0 (Hc := [U6 b l]) A2A (fun w' _ hs => B5l w' b l i 2 (0, 0) hl (by omega) hs) (by (repeat' constructor)) ?_
 rintro _ v rfl
 exact B0 () (Y9 _) (by (repeat' constructor))
theorem C5U (w : World) (n : Nat) (hn : n ≤ 8) : Fn PR B6 37 #[.int .i64 (n : Nat)] w (Rn [] w (fun b u => u = .pointer (some ⟨b, 0, none⟩)) fun b => [U6 b (List.replicate n (0, 0))]) := by
 refine B64 (TW.go (κ := false) (S := []) ?_)
 unfold B0L
 have h1 : min ((n : Nat) : Int) 8 = n := by omega
 have h2 : max 0 ((n : Nat) : Int) = n := by omega
 (have zz:=trivial;repeat((first|clear zz|with_reducible first|refine A3 ?_|refine A5 fun _=>?_|refine A4 fun _=>?_);try simp(disch:=first|omega|assumption|((repeat(first|exact A1|exact uH|apply A2|apply uT));first|done|fail)|(simp;first|done|omega|fail))[h1, h2]))
 rename_i b
 have e : j3 (List.replicate n (0, 0)) = #[.int .i64 0, .int .i64 0, .int .i64 0, .int .i64 0, .int .i64 0, .int .i64 0, .int .i64 0, .int .i64 0, .int .i64 0, .int .i64 0, .int .i64 0, .int .i64 0, .int .i64 0, .int .i64 0, .int .i64 0, .int .i64 0, .int .i64 (n : Nat)] := by
  have h : n = 0 ∨ n = 1 ∨ n = 2 ∨ n = 3 ∨ n = 4 ∨ n = 5 ∨ n = 6 ∨ n = 7 ∨ n = 8 := by omega
  rcases h with rfl | rfl | rfl | rfl | rfl | rfl | rfl | rfl | rfl <;> rfl
 refine B0 b rfl ?_
 unfold U6
 rw [e]
 (repeat' constructor)
theorem B8g {l : List (Int × Int)} (h : l.length ≤ 8) {i : Nat} (hi : i < l.length) (a : Int) : (j3 l).setIfInBounds (i * 2) (.int .i64 a) = j3 (l.set i (a, (l.getD i (0, 0)).2)) := by
 rw [← B4H h hi]
 unfold A6P
 simp only [A87, B3c]
 apply Array.ext_getElem?
 intro r
 by_cases hr : i * 2 + 1 = r
 ·subst hr
  rw [Array.getElem?_setIfInBounds_ne (by omega), (A8z h hi).2, Array.getElem?_setIfInBounds_self_of_lt (by simp [A8x h]; omega)]
 ·rw [Array.getElem?_setIfInBounds_ne hr]
theorem C8p {xs : List Value} {o : Nat} {a b : Value} (h0 : xs[o]? = some a) (h1 : xs[o + 1]? = some b) : Y2 xs o 2 = some [a, b] := by
 obtain ⟨l0, e0⟩ := List.getElem?_eq_some_iff.1 h0
 obtain ⟨l1, e1⟩ := List.getElem?_eq_some_iff.1 h1
 rw [Y2, if_pos (by omega), List.drop_eq_getElem_cons l0, List.drop_eq_getElem_cons l1, e0, e1]; rfl
theorem C1f {l : List (Int × Int)} (h : l.length ≤ 8) {i : Nat} (hi : i < l.length) : Y2 (j3 l).toList (i * 2) 2 = some [.int .i64 (l.getD i (0, 0)).1, .int .i64 (l.getD i (0, 0)).2] := by
 obtain ⟨h0, h1⟩ := A8z h hi
 exact C8p (by simpa using h0) (by simpa using h1)
theorem C3M {l : List (Int × Int)} {i : Nat} (hi : i < l.length) (h0 : l.getD i (0, 0) = (0, 0)) (hp : ∀ k, k < i → l.getD k (0, 0) ≠ (0, 0)) : E5 l = (i : Nat) ∧ M6 l = l.set i (1, 0) := by
 have hf : l.findIdx (fun x => decide (x = (0, 0))) = i := by
  rw [List.findIdx_eq hi]
  constructor
  ·rw [List.getD_eq_getElem?_getD, List.getElem?_eq_getElem hi] at h0; simpa using h0
  ·intro j hj
   have := hp j hj
   rw [List.getD_eq_getElem?_getD, List.getElem?_eq_getElem (by omega)] at this
   simpa using this
 have ht : E5 l = (i : Nat) := by unfold E5; rw [hf, if_pos hi]
 refine ⟨ht, ?_⟩
 unfold M6
 rw [ht, if_neg (by omega), Int.toNat_natCast, h0]
theorem C3q {l : List (Int × Int)} (hp : ∀ k, k < l.length → l.getD k (0, 0) ≠ (0, 0)) : E5 l = -1 ∧ M6 l = l := by
 have hf : ¬ l.findIdx (fun x => decide (x = (0, 0))) < l.length := by
  rw [List.findIdx_lt_length]
  rintro ⟨x, hx, hx0⟩
  obtain ⟨k, hk, rfl⟩ := List.mem_iff_getElem.1 hx
  have := hp k hk
  rw [List.getD_eq_getElem?_getD, List.getElem?_eq_getElem hk] at this
  simp at hx0
  exact this hx0
 have ht : E5 l = -1 := by unfold E5; rw [if_neg hf]
 refine ⟨ht, ?_⟩
 unfold M6
 rw [ht, if_pos (by omega)]
theorem B5m (w : World) (b : Nat) (l : List (Int × Int)) (hl : l.length ≤ 8) (hw : LW false [b] w [U6 b l] w) :
  Fn PR B6 233 #[.pointer (some ⟨b, 0, none⟩)] w (Rn [b] w (fun (_ : Unit) u => u = .int .i64 (E5 l)) fun _ => [U6 b (M6 l)]) := by
 refine A8p (TW.goH (κ := false) (S := [b]) ?_ hw)
 unfold A2s
 have hkn := B7z hl
 have hle : ((l.length : Nat) : Int) ≤ 8 := by omega
 simp only [U6]
 (have zz:=trivial;repeat((first|clear zz|with_reducible first|refine A3 ?_|refine A5 fun _=>?_|refine A4 fun _=>?_);try simp(disch:=first|omega|assumption|((repeat(first|exact A1|exact uH|apply A2|apply uT));first|done|fail)|(simp;first|done|omega|fail))[hkn, hle]))
 refine Q6 (α := Unit) l.length (fun _ _ => .int .i64 0) (fun _ _ => [.pt b (.cells (j3 l) 167)]) (fun i _ => ∀ k, k < i → l.getD k (0, 0) ≠ (0, 0)) () (by simp) ?_
 intro j _ hj hpre L hL
 by_cases hlt : j < l.length
 ·obtain ⟨h0, h1⟩ := A8z hl hlt
  have hj8 : j < 8 := by omega
  obtain ⟨x, hx⟩ : ∃ x, x = l.getD j (0, 0) := ⟨_, rfl⟩
  have hset := B8g hl hlt 1
  have hrow := C1f hl hlt
  rw [← hx] at h0 h1 hset hrow
  by_cases c1 : x = (0, 0)
  ·obtain ⟨e1, e2⟩ := C3M hlt (hx.symm.trans c1) hpre
   rw [e1, e2]
   subst c1
   have hsz := A8x hl
   (have zz:=trivial;repeat((first|clear zz|with_reducible first|refine A3 ?_|refine A5 fun _=>?_|refine A4 fun _=>?_);try simp(disch:=first|omega|assumption|((repeat(first|exact A1|exact uH|apply A2|apply uT));first|done|fail)|(simp;first|done|omega|fail))[hlt, hj8, hrow]))
   rw [hset]
   exact B0 () rfl (by (repeat' constructor))
  ·have c2 : ¬ (x.1 = 0 ∧ x.2 = 0) := fun h => c1 (Prod.ext h.1 h.2)
   have c3 : x.1 = 0 → ¬ x.2 = 0 := fun h h' => c2 ⟨h, h'⟩
   have hn : ∀ k, k < j + 1 → l.getD k (0, 0) ≠ (0, 0) := fun k hk => by
    by_cases e : k = j
    ·subst e; rw [← hx]; exact c1
    ·exact hpre k (by omega)
   by_cases c4 : x.1 = 0
   ·have c5 := c3 c4
    (have zz:=trivial;repeat((first|clear zz|with_reducible first|refine A3 ?_|refine A5 fun _=>?_|refine A4 fun _=>?_);try simp(disch:=first|omega|assumption|((repeat(first|exact A1|exact uH|apply A2|apply uT));first|done|fail)|(simp;first|done|omega|fail))[hlt, hj8, hrow, c4, c5]))
    exact hL hlt () hn
   ·(have zz:=trivial;repeat((first|clear zz|with_reducible first|refine A3 ?_|refine A5 fun _=>?_|refine A4 fun _=>?_);try simp(disch:=first|omega|assumption|((repeat(first|exact A1|exact uH|apply A2|apply uT));first|done|fail)|(simp;first|done|omega|fail))[hlt, hj8, hrow, c4]))
    exact hL hlt () hn
 ·obtain rfl : j = l.length := by omega
  obtain ⟨e1, e2⟩ := C3q hpre
  rw [e1, e2]
  (have zz:=trivial;repeat((first|clear zz|with_reducible first|refine A3 ?_|refine A5 fun _=>?_|refine A4 fun _=>?_);try simp(disch:=first|omega|assumption|((repeat(first|exact A1|exact uH|apply A2|apply uT));first|done|fail)|(simp;first|done|omega|fail))[]))
  exact B0 () rfl (by (repeat' constructor))
end Go.Proofs.YtpnidmkaobfhiaaGreat
namespace Go.Proofs.YtpnidmkaobfhiaaGreat
open Go
def q8 (p : Nat → Bool) (n : Nat) : List Nat := (List.range n).filter p
theorem B0V (p : Nat → Bool) (n : Nat) : q8 p (n + 1) = if p n = true then q8 p n ++ [n] else q8 p n := by
 unfold q8
 rw [List.range_succ, List.filter_append]
 by_cases h : p n = true <;> simp [h]
theorem C3N (p : Nat → Bool) {m n : Nat} (h : m ≤ n) : ∃ t, q8 p n = q8 p m ++ t := by
 induction n with
 | zero =>
  obtain rfl : m = 0 := by omega
  exact ⟨[], by simp⟩
 | succ n ih =>
  by_cases e : m = n + 1
  ·subst e; exact ⟨[], by simp⟩
  ·obtain ⟨t, ht⟩ := ih (by omega)
   rw [B0V, ht]
   split
   ·exact ⟨t ++ [n], by simp⟩
   ·exact ⟨t, rfl⟩
theorem C5Y {p : Nat → Bool} {i n : Nat} (hi : i < n) (hp : p i = true) : (q8 p n)[(q8 p i).length]? = some i := by
 obtain ⟨t, ht⟩ := C3N p (show i + 1 ≤ n by omega)
 rw [ht, B0V, if_pos hp, List.append_assoc, List.getElem?_append_right (Nat.le_refl _), Nat.sub_self]
 rfl
def W2 (l : List (Int × Int)) (st : Int) (i : Nat) : Bool := decide ((l.getD i (0, 0)).1 = st)
abbrev C1D (b2 b3 : Nat) : Value := .func (.func 246) #[] #[.pointer (some ⟨b2, 0, none⟩), .pointer (some ⟨b3, 0, none⟩)]
theorem C3D (w : World) (b : Nat) (st : Int) : Fn PR B6 245 #[.pointer (some ⟨b, 0, none⟩), .int .i64 st] w (Rn [] w (fun (x : Nat × Nat) u => u = C1D x.1 x.2) fun x => [.pt x.2 (.cells #[.int .i64 st] 3), .pt x.1 (.cells #[.pointer (some ⟨b, 0, none⟩)] 71)]) := by
 refine A8a (TW.go (κ := false) (S := []) ?_)
 unfold A22
 (have zz:=trivial;repeat((first|clear zz|with_reducible first|refine A3 ?_|refine A5 fun _=>?_|refine A4 fun _=>?_);try simp(disch:=first|omega|assumption|((repeat(first|exact A1|exact uH|apply A2|apply uT));first|done|fail)|(simp;first|done|omega|fail))[]))
 rename_i b2 b3
 exact B0 (b2, b3) rfl (by (repeat' constructor))
def B5k (i : Nat) : List Value := [.int .i64 (i : Nat)]
theorem C2G (l : List Nat) : ∀ x ∈ l.map B5k, x.length = 1 := by
 intro x hx
 obtain ⟨p, _, rfl⟩ := List.mem_map.1 hx
 rfl
theorem C3c (b b2 b3 : Nat) (l : List (Int × Int)) (st : Int) (hl : l.length ≤ 8) : A57 (C1D b2 b3) [.pt b3 (.cells #[.int .i64 st] 3), .pt b2 (.cells #[.pointer (some ⟨b, 0, none⟩)] 71)] (fun F w => w9 w b l ∧ b ∉ B1 F) ((q8 (W2 l st) l.length).map B5k) := by
 refine ⟨_, _, _, rfl, fun y J E hJ hE stJ stE hy w0 h0 => ?_⟩
 have hR := (hJ _ _ _ h0).2
 have hn := hR.1.n hl
 have hnb := hR.2
 have n2 : b ≠ b2 := fun e => hnb (by subst e; simp [B1, Res.foot])
 have n3 : b ≠ b3 := fun e => hnb (by subst e; simp [B1, Res.foot])
 refine A54 (A5v (TW.at (κ := true) ?_ (hJ _ _ _ h0).1))
 unfold A0T
 (have zz:=trivial;repeat((first|clear zz|with_reducible first|refine A3 ?_|refine A5 fun _=>?_|refine A4 fun _=>?_);try simp(disch:=first|omega|assumption|((repeat(first|exact A1|exact uH|apply A2|apply uT));first|done|fail)|(simp;first|done|omega|fail))[hn, n2, n3]))
 refine A3v l.length (fun i => (q8 (W2 l st) i).length) (fun _ => _) hJ stJ (by simpa [q8] using h0) fun i a hi hJi hRi L hL => ?_
 by_cases hlt : i < l.length
 ·have hx := (hRi.1.at hl hlt).1
  have hi8 : i < 8 := by omega
  have hsu := B0V (W2 l st) i
  have hlen : ((q8 (W2 l st) l.length).map B5k).length = (q8 (W2 l st) l.length).length := by simp
  obtain ⟨z, hz⟩ : ∃ z, z = (l.getD i (0, 0)).1 := ⟨_, rfl⟩
  rw [← hz] at hx
  by_cases c1 : z = st
  ·have hp : W2 l st i = true := by unfold W2; rw [← hz]; exact decide_eq_true c1
   have hat := C5Y hlt hp
   rw [if_pos hp] at hsu
   obtain ⟨h1, h2⟩ := List.getElem?_eq_some_iff.1 hat
   rw [hsu, List.length_append, List.length_singleton] at hL
   (have zz:=trivial;repeat((first|clear zz|with_reducible first|refine A3 ?_|refine A5 fun _=>?_|refine A4 fun _=>?_);try simp(disch:=first|omega|assumption|((repeat(first|exact A1|exact uH|apply A2|apply uT));first|done|fail)|(simp;first|done|omega|fail))[hlt, hi8, hx, c1, n2, n3]))
   refine A8b hJ hE stJ hy hJi (by rw [hlen]; exact h1) (by rw [List.getElem_map]; exact congrArg B5k h2) (fun w3 h => ?_) (fun w3 h => ?_)
   ·(have zz:=trivial;repeat((first|clear zz|with_reducible first|refine A3 ?_|refine A5 fun _=>?_|refine A4 fun _=>?_);try simp(disch:=first|omega|assumption|((repeat(first|exact A1|exact uH|apply A2|apply uT));first|done|fail)|(simp;first|done|omega|fail))[c1]))
    exact fun w' hw' => hL hlt w' (stJ _ _ _ _ _ h hw')
   ·(have zz:=trivial;repeat((first|clear zz|with_reducible first|refine A3 ?_|refine A5 fun _=>?_|refine A4 fun _=>?_);try simp(disch:=first|omega|assumption|((repeat(first|exact A1|exact uH|apply A2|apply uT));first|done|fail)|(simp;first|done|omega|fail))[c1]))
    exact A4z stE h
  ·have hp : ¬ W2 l st i = true := by unfold W2; rw [← hz]; simpa using c1
   rw [if_neg hp] at hsu
   rw [hsu] at hL
   (have zz:=trivial;repeat((first|clear zz|with_reducible first|refine A3 ?_|refine A5 fun _=>?_|refine A4 fun _=>?_);try simp(disch:=first|omega|assumption|((repeat(first|exact A1|exact uH|apply A2|apply uT));first|done|fail)|(simp;first|done|omega|fail))[hlt, hi8, hx, c1, n2, n3]))
   exact fun w' hw' => hL hlt w' (stJ _ _ _ _ _ hJi hw')
 ·obtain rfl : i = l.length := by omega
  (have zz:=trivial;repeat((first|clear zz|with_reducible first|refine A3 ?_|refine A5 fun _=>?_|refine A4 fun _=>?_);try simp(disch:=first|omega|assumption|((repeat(first|exact A1|exact uH|apply A2|apply uT));first|done|fail)|(simp;first|done|omega|fail))[]))
  refine A5K stJ ?_
  simpa using hJi
theorem C2e {P : List Int} {l : List (Int × Int)} {i : Nat} (hi : i < l.length) (h0 : K3 P (l.getD i (0, 0)) = true) (hp : ∀ k, k < i → K3 P (l.getD k (0, 0)) = false) : G3 l P = (i : Nat) := by
 have hf : l.findIdx (K3 P) = i := by
  rw [List.findIdx_eq hi]
  constructor
  ·rw [List.getD_eq_getElem?_getD, List.getElem?_eq_getElem hi] at h0; exact h0
  ·intro j hj
   have := hp j hj
   rw [List.getD_eq_getElem?_getD, List.getElem?_eq_getElem (by omega)] at this
   exact this
 unfold G3; rw [hf, if_pos hi]
theorem C2Z {P : List Int} {l : List (Int × Int)} (hp : ∀ k, k < l.length → K3 P (l.getD k (0, 0)) = false) : G3 l P = -1 := by
 have hf : ¬ l.findIdx (K3 P) < l.length := by
  rw [List.findIdx_lt_length]
  rintro ⟨x, hx, hx0⟩
  obtain ⟨k, hk, rfl⟩ := List.mem_iff_getElem.1 hx
  have := hp k hk
  rw [List.getD_eq_getElem?_getD, List.getElem?_eq_getElem hk] at this
  rw [show (some l[k]).getD (0, 0) = l[k] from rfl, hx0] at this
  cases this
 unfold G3; rw [if_neg hf]
def A4e (l : List (Int × Int)) (P : List Int) : List Nat → Int
 | [] => -1
 | k :: t => if c7 P (l.getD k (0, 0)).2 = true then (k : Nat) else A4e l P t
theorem B27 {P : List Int} {l : List (Int × Int)} : ∀ (n s : Nat), s + n = l.length → (∀ k, k < s → K3 P (l.getD k (0, 0)) = false) → A4e l P ((List.range' s n).filter (W2 l 2)) = G3 l P
 | 0, s, hs, hp => by
  simp only [List.range'_zero, List.filter_nil, A4e]
  rw [C2Z (by intro k hk; exact hp k (by omega))]
 | n + 1, s, hs, hp => by
  rw [List.range'_succ, List.filter_cons]
  have step : K3 P (l.getD s (0, 0)) = false → A4e l P ((List.range' (s + 1) n).filter (W2 l 2)) = G3 l P := fun h => B27 n (s + 1) (by omega) fun k hk => by
   by_cases e : k = s
   ·rw [e]; exact h
   ·exact hp k (by omega)
  by_cases h1 : W2 l 2 s = true
  ·rw [if_pos h1, A4e]
   have h2 : (l.getD s (0, 0)).1 = 2 := by unfold W2 at h1; simpa using h1
   by_cases h3 : c7 P (l.getD s (0, 0)).2 = true
   ·rw [if_pos h3, C2e (i := s) (by omega) (by unfold K3; rw [h2, h3]; rfl) hp]
   ·rw [if_neg h3]
    exact step (by unfold K3; rw [Bool.eq_false_iff.2 h3]; simp)
  ·rw [if_neg h1]
   exact step (by
    unfold K3
    have : ¬ (l.getD s (0, 0)).1 = 2 := by unfold W2 at h1; simpa using h1
    rw [decide_eq_false this]; rfl)
theorem C0S (P : List Int) (l : List (Int × Int)) : A4e l P (q8 (W2 l 2) l.length) = G3 l P := by
 unfold q8
 rw [List.range_eq_range']
 exact B27 l.length 0 (by omega) (by intros; omega)
theorem C0F {P : List Int} {e : Int} (h : ∀ k, k < P.length → P.getD k 0 = 0 ∨ e < P.getD k 0) : c7 P e = true := by
 unfold c7
 rw [List.all_eq_true]
 intro x hx
 obtain ⟨k, hk, rfl⟩ := List.mem_iff_getElem.1 hx
 have := h k hk
 rw [List.getD_eq_getElem?_getD, List.getElem?_eq_getElem hk] at this
 simpa using this
theorem C3F {P : List Int} {e : Int} {k : Nat} (hk : k < P.length) (h0 : P.getD k 0 ≠ 0) (h1 : P.getD k 0 ≤ e) : c7 P e = false := by
 rw [Bool.eq_false_iff]
 intro h
 unfold c7 at h
 rw [List.all_eq_true] at h
 have := h _ (List.getElem_mem hk)
 rw [List.getD_eq_getElem?_getD, List.getElem?_eq_getElem hk] at h0 h1
 simp at this h0 h1
 omega
theorem C3Y (w : World) (b : Nat) (l : List (Int × Int)) (pv : Value) (P : List Int) (hl : l.length ≤ 8) (hb : w9 w b l) (hv : D2 w pv P.length (C1 P)) (hP : P.length ≤ 1000) :
  Fn PR B6 242 #[.pointer (some ⟨b, 0, none⟩), pv] w (fun u w' => u = .int .i64 (G3 l P) ∧ D6 [] w w') := by
 refine Fn.pure (A9U (TW.go (κ := false) (S := []) ?_))
 unfold A2b
 obtain ⟨pa, pc, rfl, hr⟩ := hv.form
 (have zz:=trivial;repeat((first|clear zz|with_reducible first|refine A3 ?_|refine A5 fun _=>?_|refine A4 fun _=>?_);try simp(disch:=first|omega|assumption|((repeat(first|exact A1|exact uH|apply A2|apply uT));first|done|fail)|(simp;first|done|omega|fail))[]))
 rename_i b2 b3 b4
 refine G7 A8C (fun w' _ => C3D w' b 2) ?_
 rintro ⟨x2, x3⟩ u rfl
 refine A6M (C3c b x2 x3 l 2 hl) (C2G _) (fun i (_ : Unit) => A4e l P ((q8 (W2 l 2) l.length).drop i) = G3 l P) (fun _ _ => [.pt b4 (.cells #[.int .i64 0] 3), .pt b3 (.cells #[.slice pa P.length pc] 54), .pt b2 (.cells #[.pointer (some ⟨b, 0, none⟩)] 71)])
  (fun c (y : Unit) => c = .ret) (fun y => [.pt b4 (.cells #[.int .i64 (G3 l P)] 3)]) () (by rw [List.drop_zero]; exact C0S P l) ?_ ?_ ?_ ?_ (by simp)
 ·intro i _ F w1 _ hw
  refine ⟨hb.ks hw.ks (by simp), ?_⟩
  exact hw.notin_old (P7 hb) (by simp)
 ·rintro i hi _ F hψ K' hK hE
  have hi' : i < (q8 (W2 l 2) l.length).length := by simpa using hi
  rw [B4B hi', A4e] at hψ
  have hqm := List.getElem_mem hi'
  simp only [List.getElem_map]
  generalize (q8 (W2 l 2) l.length)[i] = q at *
  have hq : q < l.length := by
   unfold q8 at hqm
   exact List.mem_range.1 (List.mem_filter.1 hqm).1
  have hq8 : q < 8 := by omega
  have hx := (hb.at hl hq).2
  obtain ⟨z, hz⟩ : ∃ z, z = (l.getD q (0, 0)).2 := ⟨_, rfl⟩
  rw [← hz] at hx hψ
  simp only [B5k, VF.app]
  (have zz:=trivial;repeat((first|clear zz|with_reducible first|refine A3 ?_|refine A5 fun _=>?_|refine A4 fun _=>?_);try simp(disch:=first|omega|assumption|((repeat(first|exact A1|exact uH|apply A2|apply uT));first|done|fail)|(simp;first|done|omega|fail))[]))
  refine B1H (α := Unit) P.length (fun _ _ => [.pt b4 (.cells #[.int .i64 0] 3), .pt b3 (.cells #[.slice pa P.length pc] 54), .pt b2 (.cells #[.pointer (some ⟨b, 0, none⟩)] 71)] ++ F) (fun j _ => ∀ k, k < j → P.getD k 0 = 0 ∨ z < P.getD k 0) () (by simp) ?_
  intro j _ hj hpre L hL
  by_cases hlt : j < P.length
  ·obtain ⟨g, o, rfl, hrow⟩ := hr (by omega)
   have hg : w.cell? ⟨g, o + j, none⟩ = some (.int .i64 (P.getD j 0)) := hrow.get (W5 hlt)
   obtain ⟨y, hy⟩ : ∃ y, y = P.getD j 0 := ⟨_, rfl⟩
   rw [← hy] at hg
   have hn : y = 0 ∨ z < y → ∀ k, k < j + 1 → P.getD k 0 = 0 ∨ z < P.getD k 0 := fun h k hk => by
    by_cases e : k = j
    ·subst e; rw [← hy]; exact h
    ·exact hpre k (by omega)
   by_cases c0 : y = 0
   ·subst c0
    (have zz:=trivial;repeat((first|clear zz|with_reducible first|refine A3 ?_|refine A5 fun _=>?_|refine A4 fun _=>?_);try simp(disch:=first|omega|assumption|((repeat(first|exact A1|exact uH|apply A2|apply uT));first|done|fail)|(simp;first|done|omega|fail))[hlt, hg]))
    exact hL hlt () (hn (Or.inl rfl))
   by_cases c1 : y ≤ z
   ·(have zz:=trivial;repeat((first|clear zz|with_reducible first|refine A3 ?_|refine A5 fun _=>?_|refine A4 fun _=>?_);try simp(disch:=first|omega|assumption|((repeat(first|exact A1|exact uH|apply A2|apply uT));first|done|fail)|(simp;first|done|omega|fail))[hlt, hg, c0, c1, hx, hq8]))
    refine hK () ?_
    rw [if_neg] at hψ
    ·exact hψ
    ·rw [C3F hlt (by rw [← hy]; exact c0) (by rw [← hy]; exact c1)]; simp
   ·(have zz:=trivial;repeat((first|clear zz|with_reducible first|refine A3 ?_|refine A5 fun _=>?_|refine A4 fun _=>?_);try simp(disch:=first|omega|assumption|((repeat(first|exact A1|exact uH|apply A2|apply uT));first|done|fail)|(simp;first|done|omega|fail))[hlt, hg, c0, c1, hx, hq8]))
    exact hL hlt () (hn (Or.inr (by omega)))
  ·obtain rfl : j = P.length := by omega
   rw [if_pos (C0F hpre)] at hψ
   (have zz:=trivial;repeat((first|clear zz|with_reducible first|refine A3 ?_|refine A5 fun _=>?_|refine A4 fun _=>?_);try simp(disch:=first|omega|assumption|((repeat(first|exact A1|exact uH|apply A2|apply uT));first|done|fail)|(simp;first|done|omega|fail))[]))
   refine TW.sub (hE .ret () rfl) ?_
   rw [← hψ]
   ((try simp only [List.cons_append, List.nil_append, List.append_assoc]); (repeat (first | exact List.Sublist.refl _ | exact List.nil_sublist _ | with_reducible apply List.Sublist.cons_cons | apply List.Sublist.cons)); first | done | fail)
 ·intro _ hψ
  (have zz:=trivial;repeat((first|clear zz|with_reducible first|refine A3 ?_|refine A5 fun _=>?_|refine A4 fun _=>?_);try simp(disch:=first|omega|assumption|((repeat(first|exact A1|exact uH|apply A2|apply uT));first|done|fail)|(simp;first|done|omega|fail))[]))
  rw [List.length_map, List.drop_length, A4e] at hψ
  exact B4 (by rw [← hψ])
 ·rintro _ _ rfl
  (have zz:=trivial;repeat((first|clear zz|with_reducible first|refine A3 ?_|refine A5 fun _=>?_|refine A4 fun _=>?_);try simp(disch:=first|omega|assumption|((repeat(first|exact A1|exact uH|apply A2|apply uT));first|done|fail)|(simp;first|done|omega|fail))[]))
  exact B4 rfl
end Go.Proofs.YtpnidmkaobfhiaaGreat
namespace Go.Proofs.YtpnidmkaobfhiaaGreat
open Go
def A3D (X : Nat → Prop) (t0 t1 : Value) (R : Value → WP) : WP :=
 B3 PR X 69 [t0, t1, (.func (.func 70) #[] #[])] fun t8 =>
 A0 PR (Instr.extract t8 0) fun t9 =>
 A0 PR (Instr.extract t8 1) fun t10 =>
 R (.tuple #[t9, t10])
theorem A9C : B2 PR 26 := A7 Tryz.func26 (by kernel_rfl) rfl
theorem A9v {X : Nat → Prop} {t0 t1 : Value} {R : Value → WP} {w : World} (h : A3D X t0 t1 R w) : Fn PR X 26 #[t0, t1] w R := C9 (args := [t0, t1]) mixed Tryz.func26 (by kernel_rfl) h
def B0F (X : Nat → Prop) (t0 : Value) (R : Value → WP) : WP :=
 A0 PR (A8 .min #[3, 3] 0 [t0, (.int .i64 8)]) fun t4 =>
 A0 PR (A8 .max #[3, 3] 0 [(.int .i64 0), t4]) fun t5 =>
 B9 PR X (Instr.makeSlice 160 t5 t5) fun t6 =>
 A0 PR (Instr.build 162 #[(0, t6)]) fun t7 =>
 B9 PR X (Instr.box 162 t7) fun t8 =>
 R t8
theorem B5E : B2 PR 36 := A7 Tryz.func36 (by kernel_rfl) rfl
theorem B6M {X : Nat → Prop} {t0 : Value} {R : Value → WP} {w : World} (h : B0F X t0 R w) : Fn PR X 36 #[t0] w R := C9 (args := [t0]) mixed Tryz.func36 (by kernel_rfl) h
def A2Z (X : Nat → Prop) (t0 t1 : Value) (R : Value → WP) : WP :=
 A0 PR (Instr.build 170 #[]) fun t7 =>
 A0 PR (Instr.makeInterface 170 t7) fun t8 =>
 B3 PR X 76 [t0, t1, t8] fun t9 =>
 R t9
theorem A2N : B2 PR 46 := A7 Tryz.func46 (by kernel_rfl) rfl
theorem A8v {X : Nat → Prop} {t0 t1 : Value} {R : Value → WP} {w : World} (h : A2Z X t0 t1 R w) : Fn PR X 46 #[t0, t1] w R := C9 (args := [t0, t1]) mixed Tryz.func46 (by kernel_rfl) h
def A3K (X : Nat → Prop) (t0 t1 t2 : Value) (R : Value → WP) : WP :=
 jn (n := 1) (fun t6 =>
 jn (n := 1) (fun t6_1 =>
 B3 PR X 72 [t2] fun t41 =>
 B3 PR X 78 [t2] fun t43 =>
 A0 PR (Instr.build 152 #[(0, t41), (1, t43)]) fun t44 =>
 A0 PR (Instr.makeInterface 152 t44) fun t45 =>
 B3 PR X 76 [t0, t1, t45] fun t46 =>
 R t46) fun J1 =>
 A0 PR (A9 t0) fun t27 =>
 A0 PR (Instr.fieldAt 162 t27 0) fun t28 =>
 A6 PR (Instr.loadAt 160 t28) fun t29 =>
 A0 PR (Instr.indexAt 160 t29 t1) fun t31 =>
 A6 PR (Instr.loadAt 174 t31) fun t32 =>
 A0 PR (Instr.typeAssert t32 174 170 true) fun t33 =>
 A0 PR (Instr.extract t33 0) fun t34 =>
 A0 PR (Instr.extract t33 1) fun t35 =>
 B9 PR X (Instr.alloc 170 true (.tuple #[])) fun t7 =>
 C2 PR X (Instr.storeAt 170 t7 t34) <|
 A0 PR (Op.unary .not t35) fun t37 =>
 B7 t37 (
 R (.bool false)) (
 J1 t6)) fun J2 =>
 A0 PR (binOp .lss 3 t1 (.int .i64 0)) fun t10 =>
 gj t10 false (fun J => J t1) fun t12 =>
 gj t10 false (fun J => J t0) fun t13 =>
 gj t10 false (fun J => A0 PR (A9 t13) J) fun t14 =>
 gj t10 false (fun J => A0 PR (Instr.fieldAt 162 t14 0) J) fun t15 =>
 gj t10 false (fun J => A6 PR (Instr.loadAt 160 t15) J) fun t16 =>
 gj t10 false (fun J => A0 PR (A8 .len #[160] 0 [t16]) J) fun t17 =>
 gj t10 false (fun J => A0 PR (binOp .geq 3 t12 t17) J) fun t18 =>
 A0 PR (do pure (if ← asBool t10 then (.bool true) else t18)) fun t19 =>
 gj t19 false (fun J => J t2) fun t21 =>
 gj t19 false (fun J => B3 PR X 77 [t21] J) fun t22 =>
 gj t19 false (fun J => A0 PR (binOp .neq 31 t22 (.int .i64 0)) J) fun t23 =>
 A0 PR (do pure (if ← asBool t19 then (.bool true) else t23)) fun t24 =>
 B7 t24 (
 R (.bool false)) (
 J2 (.bool false))
theorem A25 : B2 PR 47 := A7 Tryz.func47 (by kernel_rfl) rfl
theorem A9y {X : Nat → Prop} {t0 t1 t2 : Value} {R : Value → WP} {w : World} (h : A3K X t0 t1 t2 R w) : Fn PR X 47 #[t0, t1, t2] w R := C9 (args := [t0, t1, t2]) mixed Tryz.func47 (by kernel_rfl) h
def A2d (X : Nat → Prop) (t0 t1 : Value) (R : Value → WP) : WP :=
 B3 PR X 76 [t0, t1, .nilIface] fun t7 =>
 R t7
theorem A1u : B2 PR 50 := A7 Tryz.func50 (by kernel_rfl) rfl
theorem A88 {X : Nat → Prop} {t0 t1 : Value} {R : Value → WP} {w : World} (h : A2d X t0 t1 R w) : Fn PR X 50 #[t0, t1] w R := C9 (args := [t0, t1]) mixed Tryz.func50 (by kernel_rfl) h
def A4S (X : Nat → Prop) (t0 t1 t2 : Value) (R : Value → WP) : WP :=
 jn (n := 2) (fun t6 t7 =>
 A0 PR (A9 t0) fun t25 =>
 A0 PR (Instr.fieldAt 162 t25 0) fun t26 =>
 A6 PR (Instr.loadAt 160 t26) fun t27 =>
 A0 PR (Instr.indexAt 160 t27 t1) fun t29 =>
 A6 PR (Instr.loadAt 174 t29) fun t30 =>
 A0 PR (Instr.typeAssert t30 174 152 true) fun t31 =>
 A0 PR (Instr.extract t31 0) fun t32 =>
 A0 PR (Instr.extract t31 1) fun t33 =>
 B9 PR X (Instr.alloc 152 true (.tuple #[])) fun t9 =>
 C2 PR X (Instr.storeAt 152 t9 t32) <|
 jn (n := 2) (fun t6_1 t7_1 =>
 A6 PR (Instr.loadAt 152 t9) fun t38 =>
 q6 PR X t2 [t38] fun t39 =>
 R (.tuple #[t39, (.bool true)])) fun J1 =>
 A0 PR (Op.unary .not t33) fun t35 =>
 B7 t35 (
 R (.tuple #[(.int .i64 0), (.bool false)])) (
 J1 t6 t7)) fun J2 =>
 A0 PR (binOp .lss 3 t1 (.int .i64 0)) fun t12 =>
 gj t12 false (fun J => J t1) fun t14 =>
 gj t12 false (fun J => J t0) fun t15 =>
 gj t12 false (fun J => A0 PR (A9 t15) J) fun t16 =>
 gj t12 false (fun J => A0 PR (Instr.fieldAt 162 t16 0) J) fun t17 =>
 gj t12 false (fun J => A6 PR (Instr.loadAt 160 t17) J) fun t18 =>
 gj t12 false (fun J => A0 PR (A8 .len #[160] 0 [t18]) J) fun t19 =>
 gj t12 false (fun J => A0 PR (binOp .geq 3 t14 t19) J) fun t20 =>
 A0 PR (do pure (if ← asBool t12 then (.bool true) else t20)) fun t21 =>
 B7 t21 (
 R (.tuple #[(.int .i64 0), (.bool false)])) (
 J2 (.int .i64 0) (.bool false))
theorem B0U : B2 PR 69 := A7 Tryz.func69 (by kernel_rfl) rfl
theorem B1Q {X : Nat → Prop} {t0 t1 t2 : Value} {R : Value → WP} {w : World} (h : A4S X t0 t1 t2 R w) : Fn PR X 69 #[t0, t1, t2] w R := C9 (args := [t0, t1, t2]) mixed Tryz.func69 (by kernel_rfl) h
def A0x (X : Nat → Prop) (t0 : Value) (R : Value → WP) : WP :=
 B9 PR X (Instr.box 152 t0) fun t1 =>
 A0 PR (Instr.fieldAt 152 t1 0) fun t3 =>
 A6 PR (Instr.loadAt 149 t3) fun t4 =>
 A0 PR (A8 .len #[149] 0 [t4]) fun t5 =>
 R t5
theorem A5k : B2 PR 70 := A7 Tryz.func70 (by kernel_rfl) rfl
theorem A7Y {X : Nat → Prop} {t0 : Value} {R : Value → WP} {w : World} (h : A0x X t0 R w) : Fn PR X 70 #[t0] w R := C9 (args := [t0]) mixed Tryz.func70 (by kernel_rfl) h
def A4E (X : Nat → Prop) (t0 t1 t2 : Value) (R : Value → WP) : WP :=
 jn (n := 1) (fun t6 =>
 A0 PR (A9 t0) fun t19 =>
 A0 PR (Instr.fieldAt 162 t19 0) fun t20 =>
 A6 PR (Instr.loadAt 160 t20) fun t21 =>
 A0 PR (Instr.indexAt 160 t21 t1) fun t24 =>
 C2 PR X (Instr.storeAt 174 t24 t2) <|
 R (.bool true)) fun J1 =>
 A0 PR (binOp .lss 3 t1 (.int .i64 0)) fun t8 =>
 gj t8 false (fun J => J t1) fun t10 =>
 gj t8 false (fun J => J t0) fun t11 =>
 gj t8 false (fun J => A0 PR (A9 t11) J) fun t12 =>
 gj t8 false (fun J => A0 PR (Instr.fieldAt 162 t12 0) J) fun t13 =>
 gj t8 false (fun J => A6 PR (Instr.loadAt 160 t13) J) fun t14 =>
 gj t8 false (fun J => A0 PR (A8 .len #[160] 0 [t14]) J) fun t15 =>
 gj t8 false (fun J => A0 PR (binOp .geq 3 t10 t15) J) fun t16 =>
 A0 PR (do pure (if ← asBool t8 then (.bool true) else t16)) fun t17 =>
 B7 t17 (
 R (.bool false)) (
 J1 (.bool false))
theorem A9w : B2 PR 76 := A7 Tryz.func76 (by kernel_rfl) rfl
theorem B0N {X : Nat → Prop} {t0 t1 t2 : Value} {R : Value → WP} {w : World} (h : A4E X t0 t1 t2 R w) : Fn PR X 76 #[t0, t1, t2] w R := C9 (args := [t0, t1, t2]) mixed Tryz.func76 (by kernel_rfl) h
end Go.Proofs.YtpnidmkaobfhiaaGreat
namespace Go.Proofs.YtpnidmkaobfhiaaGreat
open Go
section
variable {P : Program} {t x : TypeId} {d : TypeDesc} {n m : Nat} {z : Value} {K : Value → WP}
theorem B5q (h : TI P t d n m z) (hd : ∀ ms, d ≠ .interface ms) : A0 P (Instr.typeAssert .nilIface x t true) K = K (.tuple #[z, .bool false]) :=
 G6 (fun w => by
  simp only [Instr.typeAssert, Sem.run_bind, h.run_und, Result.andThen_ok]
  cases d <;> first | (simp [h.run_zero]; done) | exact absurd rfl (hd _)) K
theorem B6s (h : TI P t d n m z) (hd : ∀ ms, d ≠ .interface ms) (v : Value) : A0 P (Instr.typeAssert (.iface t v) x t true) K = K (.tuple #[v, .bool true]) :=
 G6 (fun w => by
  simp only [Instr.typeAssert, Sem.run_bind, h.run_und, Result.andThen_ok]
  cases d <;> first | (simp; done) | exact absurd rfl (hd _)) K
theorem B76 (h : TI P t d n m z) (hd : ∀ ms, d ≠ .interface ms) {u : TypeId} (hu : u ≠ t) (v : Value) : A0 P (Instr.typeAssert (.iface u v) x t true) K = K (.tuple #[z, .bool false]) :=
 G6 (fun w => by
  simp only [Instr.typeAssert, Sem.run_bind, h.run_und, Result.andThen_ok]
  cases d <;> first | (simp [hu, h.run_zero]; done) | exact absurd rfl (hd _)) K
end
@[simp] theorem C7Y (x : TypeId) (K : Value → WP) : A0 PR (Instr.typeAssert .nilIface x 170 true) K = K (.tuple #[.agg #[], .bool false]) := B5q B1K (by intro ms h; cases h)
@[simp] theorem C9D (x : TypeId) (v : Value) (K : Value → WP) : A0 PR (Instr.typeAssert (.iface 170 v) x 170 true) K = K (.tuple #[v, .bool true]) := B6s B1K (by intro ms h; cases h) v
@[simp] theorem C7S (x : TypeId) (v : Value) (K : Value → WP) : A0 PR (Instr.typeAssert (.iface 152 v) x 170 true) K = K (.tuple #[.agg #[], .bool false]) := B76 B1K (by intro ms h; cases h) (by decide) v
@[simp] theorem C7G (x : TypeId) (K : Value → WP) : A0 PR (Instr.typeAssert .nilIface x 152 true) K = K (.tuple #[.agg #[.slice none 0 0, .slice none 0 0], .bool false]) := B5q A8y (by intro ms h; cases h)
@[simp] theorem C7p (x : TypeId) (v : Value) (K : Value → WP) : A0 PR (Instr.typeAssert (.iface 152 v) x 152 true) K = K (.tuple #[v, .bool true]) := B6s A8y (by intro ms h; cases h) v
@[simp] theorem C7f (x : TypeId) (v : Value) (K : Value → WP) : A0 PR (Instr.typeAssert (.iface 170 v) x 152 true) K = K (.tuple #[.agg #[.slice none 0 0, .slice none 0 0], .bool false]) := B76 A8y (by intro ms h; cases h) (by decide) v
inductive SlH where
 | no
 | bld
 | rdy (p : List G8) (pv rv : Value)
def SlH.val : SlH → Value
 | .no => .nilIface
 | .bld => .iface 170 (.agg #[])
 | .rdy _ pv rv => .iface 152 (.agg #[pv, rv])
def SlH.sp : SlH → SlV
 | .no => .no
 | .bld => .bld
 | .rdy p _ _ => .rdy p
def SlH.fo : SlH → List Nat
 | .rdy _ pv rv => Q9 pv ++ Q9 rv
 | _ => []
def B3E (pv : Value) (p : List G8) : Res := .own 83 2 pv p.length (p.flatMap E6)
def B2v (rv : Value) (p : List G8) : Res := .own 216 2 rv (W8 (M0 p)).length ((W8 (M0 p)).flatMap L0)
def SlH.ok (w : World) : SlH → Prop
 | .rdy p pv rv => (B3E pv p).holds w ∧ (B2v rv p).holds w ∧ p.length ≤ 32
 | _ => True
theorem SlH.keep {w w' : World} {s : SlH} (hk : ∀ b ∈ s.fo, ∀ o, B3e o = true → bl w b = some o → bl w' b = some o) (h : s.ok w) : s.ok w' := by
 cases s with
 | no => trivial
 | bld => trivial
 | rdy p pv rv =>
  refine ⟨Res.stable (fun b hb => hk b ?_) h.1, Res.stable (fun b hb => hk b ?_) h.2.1, h.2.2⟩
  ·exact List.mem_append_left _ hb
  ·exact List.mem_append_right _ hb
def A1e (ls : List SlH) : List Nat := ls.flatMap SlH.fo
def A9S (ls : List SlH) (w : World) : Prop := ∀ s ∈ ls, s.ok w
def A0J (ls : List SlH) : Res := .ab (A1e ls) (A9S ls) fun w w' hk h s hs => SlH.keep (fun b hb => hk b (by rw [A1e, List.mem_flatMap]; exact ⟨s, hs, hb⟩)) (h s hs)
def V0 (ls : List SlH) (i : Int) (x : SlH) : List SlH := if 0 ≤ i ∧ i < ls.length then ls.set i.toNat x else ls
theorem B1y (ls : List SlH) (i : Int) (x : SlH) : (V0 ls i x).length = ls.length := by unfold V0; split <;> simp
theorem A4q (ls : List SlH) (i : Int) (x : SlH) : (V0 ls i x).map SlH.sp = g5 (ls.map SlH.sp) i x.sp := by
 unfold V0 g5
 rw [List.length_map]
 split
 ·rw [List.map_set]
 ·rfl
theorem A9Q {ls : List SlH} {i : Int} {x s : SlH} (h : s ∈ V0 ls i x) : s ∈ ls ∨ s = x := by
 unfold V0 at h
 split at h
 ·exact List.mem_or_eq_of_mem_set h
 ·exact Or.inl h
def F2 (b : Nat) (sv : Value) (ls : List SlH) : List Res := [.pt b (.cells #[sv] 162), .own 174 1 sv ls.length (ls.map SlH.val), A0J ls]
section
variable {κ : Bool} {S : List Nat} {w0 w : World} {H Hk Hc : List Res} {K0 : WP} {ls : List SlH}
theorem B8D {i : Int} {x : SlH} (hx : x.fo = [] ∧ ∀ w, x.ok w) (hp : Part [A0J ls] H Hk) (h : TW κ S w0 (A0J (V0 ls i x) :: Hk) K0) : TW κ S w0 H K0 := by
 refine A5E (r := A0J (V0 ls i x)) hp (fun w hh => (fun s hs => ?_ : A9S (V0 ls i x) w)) (fun b hb => ?_) h
 ·rcases A9Q hs with hs | rfl
  ·exact (hh _ (List.mem_cons_self ..) : A9S ls w) s hs
  ·exact hx.2 w
 ·have hb' : b ∈ A1e (V0 ls i x) := hb
  rw [A1e, List.mem_flatMap] at hb'
  obtain ⟨s, hs, hbs⟩ := hb'
  rcases A9Q hs with hs | rfl
  ·exact K5.2 ⟨A0J ls, by simp, by show b ∈ A1e ls; rw [A1e, List.mem_flatMap]; exact ⟨s, hs, hbs⟩⟩
  ·rw [hx.1] at hbs; cases hbs
theorem C4j {i : Int} {p : List G8} {pv rv : Value} (hl : p.length ≤ 32) (hp : Part [B3E pv p, B2v rv p, A0J ls] H Hk) (h : TW κ S w0 (A0J (V0 ls i (.rdy p pv rv)) :: Hk) K0) : TW κ S w0 H K0 := by
 refine A5E (r := A0J (V0 ls i (.rdy p pv rv))) hp (fun w hh => (fun s hs => ?_ : A9S (V0 ls i (.rdy p pv rv)) w)) (fun b hb => ?_) h
 ·rcases A9Q hs with hs | rfl
  ·exact (hh (A0J ls) (by simp) : A9S ls w) s hs
  ·exact ⟨hh (B3E pv p) (by simp), hh (B2v rv p) (by simp), hl⟩
 ·have hb' : b ∈ A1e (V0 ls i (.rdy p pv rv)) := hb
  rw [A1e, List.mem_flatMap] at hb'
  obtain ⟨s, hs, hbs⟩ := hb'
  rcases A9Q hs with hs | rfl
  ·exact K5.2 ⟨A0J ls, by simp, by show b ∈ A1e ls; rw [A1e, List.mem_flatMap]; exact ⟨s, hs, hbs⟩⟩
  ·rcases List.mem_append.1 hbs with hbs | hbs
   ·exact K5.2 ⟨B3E pv p, by simp, hbs⟩
   ·exact K5.2 ⟨B2v rv p, by simp, hbs⟩
end
theorem C5G (w : World) (b : Nat) (sv : Value) (xs : List Value) (i : Int) (x : Value) (hx : plain x = true) (hn : xs.length ≤ 1000) (hw : LW false (B1 [.pt b (.cells #[sv] 162), .own 174 1 sv xs.length xs]) w [.pt b (.cells #[sv] 162), .own 174 1 sv xs.length xs] w) :
  Fn PR B6 76 #[.pointer (some ⟨b, 0, none⟩), .int .i64 i, x] w (Rn (B1 [.pt b (.cells #[sv] 162), .own 174 1 sv xs.length xs]) w (fun (_ : Unit) u => A3j u) fun _ => [.pt b (.cells #[sv] 162), .own 174 1 sv xs.length (if 0 ≤ i ∧ i < xs.length then xs.set i.toNat x else xs)]) := by
 refine B0N (TW.goH (κ := false) ?_ hw)
 unfold A4E
 refine H7 (e := 174) (k := 1) (v := sv) (q := xs.length) (xs := xs) (by (repeat constructor)) fun a c e => ?_
 subst e
 by_cases c1 : i < 0
 ·(have zz:=trivial;repeat((first|clear zz|with_reducible first|refine A3 ?_|refine A5 fun _=>?_|refine A4 fun _=>?_);try simp(disch:=first|omega|assumption|((repeat(first|exact A1|exact uH|apply A2|apply uT));first|done|fail)|(simp;first|done|omega|fail))[c1]))
  rw [if_neg (by omega)]
  exact B0 () (Y9 _) (by (repeat' constructor))
 by_cases c2 : (xs.length : Int) ≤ i
 ·(have zz:=trivial;repeat((first|clear zz|with_reducible first|refine A3 ?_|refine A5 fun _=>?_|refine A4 fun _=>?_);try simp(disch:=first|omega|assumption|((repeat(first|exact A1|exact uH|apply A2|apply uT));first|done|fail)|(simp;first|done|omega|fail))[c1, c2]))
  rw [if_neg (by omega)]
  exact B0 () (Y9 _) (by (repeat' constructor))
 obtain ⟨j, rfl⟩ : ∃ j : Nat, i = j := ⟨i.toNat, by omega⟩
 have hj : j < xs.length := by omega
 have hj2 : ¬ xs.length ≤ j := by omega
 rw [if_pos (by omega)]
 refine P8 (e := 174) (k := 1) (v := .slice a xs.length c) (q := xs.length) (xs := xs) (by (repeat constructor)) (by omega) fun g gc hg => ?_
 cases hg
 (have zz:=trivial;repeat((first|clear zz|with_reducible first|refine A3 ?_|refine A5 fun _=>?_|refine A4 fun _=>?_);try simp(disch:=first|omega|assumption|((repeat(first|exact A1|exact uH|apply A2|apply uT));first|done|fail)|(simp;first|done|omega|fail))[c1, c2, hj, hj2]))
 have hxc : x.cells = #[x] := by cases x <;> first | rfl | cases hx
 refine N0 (by (repeat constructor)) (by rw [hxc]; rfl) (by omega) (by rw [hxc]; simpa using hx) ?_
 have e : U7 xs j x.cells.toList = xs.set j x := by
  rw [hxc, List.set_eq_take_append_cons_drop, if_pos hj]; simp [U7]
 refine B0 () (Y9 _) ?_
 rw [Int.toNat_natCast, ← e]
 (repeat' constructor)
theorem C47 (ls : List SlH) (i : Int) (x : SlH) : (if 0 ≤ i ∧ i < (ls.map SlH.val).length then (ls.map SlH.val).set i.toNat x.val else ls.map SlH.val) = (V0 ls i x).map SlH.val := by
 unfold V0
 rw [List.length_map]
 split
 ·rw [List.map_set]
 ·rfl
theorem SlH.plain (x : SlH) : Go.Proofs.YtpnidmkaobfhiaaGreat.plain x.val = true := by cases x <;> rfl
theorem B00 {κ : Bool} {X : Nat → Prop} {S : List Nat} {w0 : World} {H Hk : List Res} {K : Value → WP} {b : Nat} {sv : Value} {ls : List SlH} {i : Int} {x : SlH} (hl : ls.length ≤ 1000) (hp : Part [.pt b (.cells #[sv] 162), .own 174 1 sv ls.length (ls.map SlH.val)] H Hk)
  (hK : ∀ u, A3j u → TW κ S w0 (.pt b (.cells #[sv] 162) :: .own 174 1 sv (V0 ls i x).length ((V0 ls i x).map SlH.val) :: Hk) (K u)) :
  TW κ S w0 H (B3 PR X 76 [.pointer (some ⟨b, 0, none⟩), .int .i64 i, x.val] K) := by
 have hlm : (ls.map SlH.val).length = ls.length := List.length_map ..
 refine C0 (Hc := [.pt b (.cells #[sv] 162), .own 174 1 sv ls.length (ls.map SlH.val)]) A9w (fun w' _ hs => ?_) hp (fun _ u hu => ?_) (α := Unit) (φ := fun _ u => A3j u) (Hn := fun _ => [.pt b (.cells #[sv] 162), .own 174 1 sv (V0 ls i x).length ((V0 ls i x).map SlH.val)])
 ·have := C5G w' b sv (ls.map SlH.val) i x.val x.plain (by rw [hlm]; exact hl) (by rw [hlm]; exact hs)
  rw [C47, hlm] at this
  rw [B1y]
  exact this
 ·exact hK u hu
theorem B40 (w : World) (b : Nat) (sv : Value) (ls : List SlH) (i : Int) (hl : ls.length ≤ 8) (hw : LW false (B1 (F2 b sv ls)) w (F2 b sv ls) w) :
  Fn PR B6 46 #[.pointer (some ⟨b, 0, none⟩), .int .i64 i] w (Rn (B1 (F2 b sv ls)) w (fun (_ : Unit) u => A3j u) fun _ => F2 b sv (V0 ls i .bld)) := by
 refine A8v (TW.goH (κ := false) ?_ hw)
 unfold A2Z
 simp only [F2]
 (have zz:=trivial;repeat((first|clear zz|with_reducible first|refine A3 ?_|refine A5 fun _=>?_|refine A4 fun _=>?_);try simp(disch:=first|omega|assumption|((repeat(first|exact A1|exact uH|apply A2|apply uT));first|done|fail)|(simp;first|done|omega|fail))[]))
 refine B00 (x := .bld) (ls := ls) (sv := sv) (by omega) (by (repeat' constructor)) fun u hu => ?_
 refine B8D (ls := ls) (i := i) (x := .bld) ⟨rfl, fun _ => trivial⟩ (by (repeat' constructor)) ?_
 exact B0 () hu (by (repeat' constructor))
theorem B4d (w : World) (b : Nat) (sv : Value) (ls : List SlH) (i : Int) (hl : ls.length ≤ 8) (hw : LW false (B1 (F2 b sv ls)) w (F2 b sv ls) w) :
  Fn PR B6 50 #[.pointer (some ⟨b, 0, none⟩), .int .i64 i] w (Rn (B1 (F2 b sv ls)) w (fun (_ : Unit) u => A3j u) fun _ => F2 b sv (V0 ls i .no)) := by
 refine A88 (TW.goH (κ := false) ?_ hw)
 unfold A2d
 simp only [F2]
 (have zz:=trivial;repeat((first|clear zz|with_reducible first|refine A3 ?_|refine A5 fun _=>?_|refine A4 fun _=>?_);try simp(disch:=first|omega|assumption|((repeat(first|exact A1|exact uH|apply A2|apply uT));first|done|fail)|(simp;first|done|omega|fail))[]))
 refine B00 (x := .no) (ls := ls) (sv := sv) (by omega) (by (repeat' constructor)) fun u hu => ?_
 refine B8D (ls := ls) (i := i) (x := .no) ⟨rfl, fun _ => trivial⟩ (by (repeat' constructor)) ?_
 exact B0 () hu (by (repeat' constructor))
end Go.Proofs.YtpnidmkaobfhiaaGreat
namespace Go.Proofs.YtpnidmkaobfhiaaGreat
open Go
theorem C4b {κ : Bool} {H : List Res} {r : Res} (h : r ∈ H) : Up r r H H := by
 induction H with
 | nil => cases h
 | cons a H ih =>
  rcases List.mem_cons.1 h with rfl | h
  ·exact .here
  ·exact .there (ih h)
theorem B8P {κ : Bool} {X : Nat → Prop} {S : List Nat} {w0 : World} {H : List Res} {K0 : WP} {b : Nat} (hm : Res.pt b (.cells #[] 170) ∈ H) (hK : TW κ S w0 H K0) :
  TW κ S w0 H (C2 PR X (Instr.storeAt 170 (.pointer (some ⟨b, 0, none⟩)) (.agg #[])) K0) := by
 have h := D1Y (κ := κ) (X := X) (S := S) (w0 := w0) (K0 := K0) (t := 170) (v := .agg #[]) (b := b) (o := 0) (c := #[]) (T := 170) rfl (C4b (κ := κ) hm) (by simp) rfl
 exact h ▸ hK
def B0w (ls : List SlH) (i : Int) : SlH := if 0 ≤ i ∧ i < ls.length then ls.getD i.toNat .no else .no
theorem B71 (ls : List SlH) (i : Int) : N4 (ls.map SlH.sp) i = (B0w ls i).sp := by
 unfold N4 B0w
 rw [List.length_map]
 split
 ·rename_i h
  rw [List.getD_eq_getElem?_getD, List.getD_eq_getElem?_getD, List.getElem?_map, List.getElem?_eq_getElem (by omega)]; rfl
 ·rfl
theorem B77 {ls : List SlH} {i : Nat} (h : i < ls.length) : (ls.map SlH.val)[i]? = some (ls.getD i .no).val := by
 rw [List.getElem?_map, List.getD_eq_getElem?_getD, List.getElem?_eq_getElem h]; rfl
theorem C2m {l : List SlV} {i : Int} {p : List G8} (h : N4 l i ≠ .bld ∨ G2 p ≠ 0) : r4 l i p = l := by
 unfold r4
 cases hg : N4 l i with
 | no => rfl
 | rdy q => rfl
 | bld =>
  rcases h with h | h
  ·exact absurd hg h
  ·simp [h]
set_option maxHeartbeats 400000 in
theorem B6m (w : World) (b : Nat) (sv : Value) (ls : List SlH) (i : Int) (pv : Value) (p : List G8) (hl : ls.length ≤ 8) (hp : p.length ≤ 1000) (hv : ∀ w', KS false (B1 (F2 b sv ls)) w w' → D2 w' pv p.length (p.flatMap E6)) (hw : LW false (B1 (F2 b sv ls)) w (F2 b sv ls) w) :
  Fn PR B6 47 #[.pointer (some ⟨b, 0, none⟩), .int .i64 i, pv] w (Rn (B1 (F2 b sv ls)) w (fun (ls' : List SlH) u => A3j u ∧ ls'.length = ls.length ∧ ls'.map SlH.sp = r4 (ls.map SlH.sp) i p) fun ls' => F2 b sv ls') := by
 refine A9y (TW.goH (κ := false) ?_ hw)
 unfold A3K
 refine H7 (e := 174) (k := 1) (v := sv) (q := ls.length) (xs := ls.map SlH.val) (by simp only [F2]; (repeat constructor)) fun a c e => ?_
 subst e
 have no : N4 (ls.map SlH.sp) i ≠ .bld ∨ G2 p ≠ 0 → ∀ u, A3j u → A3j u ∧ ls.length = ls.length ∧ ls.map SlH.sp = r4 (ls.map SlH.sp) i p := fun h u hu => ⟨hu, rfl, (C2m h).symm⟩
 simp only [F2] at hv ⊢
 by_cases c1 : i < 0
 ·(have zz:=trivial;repeat((first|clear zz|with_reducible first|refine A3 ?_|refine A5 fun _=>?_|refine A4 fun _=>?_);try simp(disch:=first|omega|assumption|((repeat(first|exact A1|exact uH|apply A2|apply uT));first|done|fail)|(simp;first|done|omega|fail))[c1]))
  exact B0 ls (no (Or.inl (by unfold N4; rw [if_neg (by omega)]; simp)) _ (Y9 _)) (by (repeat' constructor))
 by_cases c2 : (ls.length : Int) ≤ i
 ·(have zz:=trivial;repeat((first|clear zz|with_reducible first|refine A3 ?_|refine A5 fun _=>?_|refine A4 fun _=>?_);try simp(disch:=first|omega|assumption|((repeat(first|exact A1|exact uH|apply A2|apply uT));first|done|fail)|(simp;first|done|omega|fail))[c1, c2]))
  exact B0 ls (no (Or.inl (by unfold N4; rw [if_neg (by simp; omega)]; simp)) _ (Y9 _)) (by (repeat' constructor))
 obtain ⟨j, rfl⟩ : ∃ j : Nat, i = j := ⟨i.toNat, by omega⟩
 have hj : j < ls.length := by omega
 have hj2 : ¬ ls.length ≤ j := by omega
 refine P8 (e := 174) (k := 1) (v := .slice a ls.length c) (q := ls.length) (xs := ls.map SlH.val) (by (repeat constructor)) (by omega) fun g gc hg => ?_
 cases hg
 (have zz:=trivial;repeat((first|clear zz|with_reducible first|refine A3 ?_|refine A5 fun _=>?_|refine A4 fun _=>?_);try simp(disch:=first|omega|assumption|((repeat(first|exact A1|exact uH|apply A2|apply uT));first|done|fail)|(simp;first|done|omega|fail))[c1, c2, hj, hj2]))
 refine D4 A7m (fun w' hw' => B0p w' pv p (by omega) (hv w' hw'.ks)) ?_
 by_cases c3 : G2 p = 0
 case neg =>
  (have zz:=trivial;repeat((first|clear zz|with_reducible first|refine A3 ?_|refine A5 fun _=>?_|refine A4 fun _=>?_);try simp(disch:=first|omega|assumption|((repeat(first|exact A1|exact uH|apply A2|apply uT));first|done|fail)|(simp;first|done|omega|fail))[c3]))
  exact B0 ls (no (Or.inr c3) _ (Y9 _)) (by (repeat' constructor))
 have hat := B77 hj
 have hget : N4 (ls.map SlH.sp) j = (ls.getD j .no).sp := by rw [B71]; unfold B0w; rw [if_pos (by omega), Int.toNat_natCast]
 obtain ⟨x, hx⟩ : ∃ x, x = ls.getD j .no := ⟨_, rfl⟩
 rw [← hx] at hat hget
 have hatt := (List.getElem?_eq_some_iff.1 hat).2
 cases x with
 | no =>
  simp only [SlH.val] at hat hatt
  (have zz:=trivial;repeat((first|clear zz|with_reducible first|refine A3 ?_|refine A5 fun _=>?_|refine A4 fun _=>?_);try simp(disch:=first|omega|assumption|((repeat(first|exact A1|exact uH|apply A2|apply uT));first|done|fail)|(simp;first|done|omega|fail))[c3, hat, hatt, hj, hj2]))
  refine B8P (by (repeat constructor)) ?_
  (have zz:=trivial;repeat((first|clear zz|with_reducible first|refine A3 ?_|refine A5 fun _=>?_|refine A4 fun _=>?_);try simp(disch:=first|omega|assumption|((repeat(first|exact A1|exact uH|apply A2|apply uT));first|done|fail)|(simp;first|done|omega|fail))[]))
  exact B0 ls (no (Or.inl (by rw [hget]; simp [SlH.sp])) _ (Y9 _)) (by (repeat' constructor))
 | rdy q qv rv =>
  simp only [SlH.val] at hat hatt
  (have zz:=trivial;repeat((first|clear zz|with_reducible first|refine A3 ?_|refine A5 fun _=>?_|refine A4 fun _=>?_);try simp(disch:=first|omega|assumption|((repeat(first|exact A1|exact uH|apply A2|apply uT));first|done|fail)|(simp;first|done|omega|fail))[c3, hat, hatt, hj, hj2]))
  refine B8P (by (repeat constructor)) ?_
  (have zz:=trivial;repeat((first|clear zz|with_reducible first|refine A3 ?_|refine A5 fun _=>?_|refine A4 fun _=>?_);try simp(disch:=first|omega|assumption|((repeat(first|exact A1|exact uH|apply A2|apply uT));first|done|fail)|(simp;first|done|omega|fail))[]))
  exact B0 ls (no (Or.inl (by rw [hget]; simp [SlH.sp])) _ (Y9 _)) (by (repeat' constructor))
 | bld =>
  simp only [SlH.val] at hat hatt
  have hp32 : p.length ≤ 32 := by
   unfold G2 at c3
   by_cases h : n5 p && decide (p.length ≤ 32)
   ·simp at h; exact h.2
   ·rw [if_neg h] at c3; omega
  (have zz:=trivial;repeat((first|clear zz|with_reducible first|refine A3 ?_|refine A5 fun _=>?_|refine A4 fun _=>?_);try simp(disch:=first|omega|assumption|((repeat(first|exact A1|exact uH|apply A2|apply uT));first|done|fail)|(simp;first|done|omega|fail))[c3, hat, hatt, hj, hj2]))
  refine B8P (by (repeat constructor)) ?_
  (have zz:=trivial;repeat((first|clear zz|with_reducible first|refine A3 ?_|refine A5 fun _=>?_|refine A4 fun _=>?_);try simp(disch:=first|omega|assumption|((repeat(first|exact A1|exact uH|apply A2|apply uT));first|done|fail)|(simp;first|done|omega|fail))[]))
  refine G7 q7 (fun w' hw' => C1u w' pv p.length (p.flatMap E6) (by omega) (P0 (k := 2) (fun _ => rfl) p) (B8s p) (hv w' hw'.ks)) ?_
  rintro _ qv rfl
  refine G7 B48 (fun w' hw' => C7z w' pv p (by omega) (hv w' hw'.ks)) ?_
  rintro _ rv rfl
  refine A77 (e := 83) (k := 2) (v := qv) (q := p.length) (xs := p.flatMap E6) (by (repeat constructor)) fun hq1 hq2 hq3 => ?_
  refine A77 (e := 216) (k := 2) (v := rv) (q := (W8 (M0 p)).length) (xs := (W8 (M0 p)).flatMap L0) (by (repeat constructor)) fun hr1 hr2 hr3 => ?_
  (have zz:=trivial;repeat((first|clear zz|with_reducible first|refine A3 ?_|refine A5 fun _=>?_|refine A4 fun _=>?_);try simp(disch:=first|omega|assumption|((repeat(first|exact A1|exact uH|apply A2|apply uT));first|done|fail)|(simp;first|done|omega|fail))[hq1, hq2, hr1, hr2]))
  refine B00 (x := .rdy p qv rv) (ls := ls) (by omega) (by (repeat' constructor)) fun u hu => ?_
  refine C4j (ls := ls) (i := (j : Nat)) (p := p) (pv := qv) (rv := rv) hp32 (by unfold B3E B2v; (repeat' constructor)) ?_
  refine B0 (V0 ls (j : Nat) (.rdy p qv rv)) ⟨hu, B1y _ _ _, ?_⟩ (by (repeat' constructor))
  rw [A4q]
  unfold r4
  rw [hget]
  show g5 _ _ (.rdy p) = (if G2 p = 0 then g5 _ _ (.rdy p) else _)
  rw [if_pos c3]
def SlH.rd (w : World) : SlH → Prop
 | .rdy p pv rv => D2 w pv p.length (p.flatMap E6) ∧ D2 w rv (W8 (M0 p)).length ((W8 (M0 p)).flatMap L0) ∧ p.length ≤ 32
 | _ => True
structure SlAt (w : World) (b : Nat) (sv : Value) (ls : List SlH) : Prop where
 blk : bl w b = some (.cells #[sv] 162 (0, 0))
 rd : D2 w sv ls.length (ls.map SlH.val)
 all : ∀ s ∈ ls, s.rd w
theorem SlAt.own {κ : Bool} {S : List Nat} {w0 w : World} {H : List Res} {b : Nat} {sv : Value} {ls : List SlH} (hw : LW κ S w0 H w) (h1 : Res.pt b (.cells #[sv] 162) ∈ H) (h2 : Res.own 174 1 sv ls.length (ls.map SlH.val) ∈ H) (h3 : A0J ls ∈ H) : SlAt w b sv ls := by
 refine ⟨hw.pt h1, H3.own (e := 174) (k := 1) h2 w hw, fun s hs => ?_⟩
 have := (hw.hold _ h3 : A9S ls w) s hs
 cases s with
 | no => trivial
 | bld => trivial
 | rdy p pv rv => exact ⟨U9.rd this.1, U9.rd this.2.1, this.2.2⟩
theorem SlAt.at {w : World} {b : Nat} {sv : Value} {ls : List SlH} (h : SlAt w b sv ls) {i : Nat} (hi : i < ls.length) : (ls.getD i .no).rd w := by
 apply h.all
 rw [List.getD_eq_getElem?_getD, List.getElem?_eq_getElem hi]
 exact List.getElem_mem hi
def A3s (l : List SlH) (i : Int) (f : List G8 → Int) : Int × Bool :=
 match B0w l i with
 | .rdy p _ _ => (f p, true)
 | _ => (0, false)
theorem C5a (w : World) (b : Nat) (sv : Value) (ls : List SlH) (i : Int) (g : FuncId) (cap : List Value) (f : List G8 → Int) (hl : ls.length ≤ 8) (h : SlAt w b sv ls) (he : B2 PR g)
  (hg : ∀ p pv rv, (SlH.rdy p pv rv).rd w → ∀ w', KS false [] w w' → Fn PR B6 g (Value.agg #[pv, rv] :: cap).toArray w' (fun u w'' => u = .int .i64 (f p) ∧ D6 [] w' w'')) :
  Fn PR B6 69 #[.pointer (some ⟨b, 0, none⟩), .int .i64 i, .func (.func g) #[] cap.toArray] w (fun u w' => u = .tuple #[.int .i64 (A3s ls i f).1, .bool (A3s ls i f).2] ∧ D6 [] w w') := by
 refine Fn.pure (B1Q (TW.go (κ := false) (S := []) ?_))
 unfold A4S
 obtain ⟨a, c, rfl, hr⟩ := h.rd.form
 have h0 : w.cell? ⟨b, 0, none⟩ = some (.slice a ls.length c) := by rw [D7 h.blk]; rfl
 by_cases c1 : i < 0
 ·have e : A3s ls i f = (0, false) := by unfold A3s B0w; rw [if_neg (by omega)]
  rw [e]
  (have zz:=trivial;repeat((first|clear zz|with_reducible first|refine A3 ?_|refine A5 fun _=>?_|refine A4 fun _=>?_);try simp(disch:=first|omega|assumption|((repeat(first|exact A1|exact uH|apply A2|apply uT));first|done|fail)|(simp;first|done|omega|fail))[c1]))
  exact B4 rfl
 by_cases c2 : (ls.length : Int) ≤ i
 ·have e : A3s ls i f = (0, false) := by unfold A3s B0w; rw [if_neg (by omega)]
  rw [e]
  (have zz:=trivial;repeat((first|clear zz|with_reducible first|refine A3 ?_|refine A5 fun _=>?_|refine A4 fun _=>?_);try simp(disch:=first|omega|assumption|((repeat(first|exact A1|exact uH|apply A2|apply uT));first|done|fail)|(simp;first|done|omega|fail))[c1, c2, h0]))
  exact B4 rfl
 obtain ⟨j, rfl⟩ : ∃ j : Nat, i = j := ⟨i.toNat, by omega⟩
 have hj : j < ls.length := by omega
 have hj2 : ¬ ls.length ≤ j := by omega
 obtain ⟨gb, o, rfl, hrow⟩ := hr (by omega)
 have hrd := h.at hj
 have hx : w.cell? ⟨gb, o + j, none⟩ = some (ls.getD j .no).val := hrow.get (B77 hj)
 have e : A3s ls j f = match ls.getD j .no with | .rdy p _ _ => (f p, true) | _ => (0, false) := by unfold A3s B0w; rw [if_pos (by omega), Int.toNat_natCast]
 rw [e]
 generalize ls.getD j .no = x at *
 cases x with
 | no =>
  simp only [SlH.val] at hx
  (have zz:=trivial;repeat((first|clear zz|with_reducible first|refine A3 ?_|refine A5 fun _=>?_|refine A4 fun _=>?_);try simp(disch:=first|omega|assumption|((repeat(first|exact A1|exact uH|apply A2|apply uT));first|done|fail)|(simp;first|done|omega|fail))[c1, c2, hj, hj2, h0, hx]))
  exact B4 rfl
 | bld =>
  simp only [SlH.val] at hx
  (have zz:=trivial;repeat((first|clear zz|with_reducible first|refine A3 ?_|refine A5 fun _=>?_|refine A4 fun _=>?_);try simp(disch:=first|omega|assumption|((repeat(first|exact A1|exact uH|apply A2|apply uT));first|done|fail)|(simp;first|done|omega|fail))[c1, c2, hj, hj2, h0, hx]))
  exact B4 rfl
 | rdy p pv rv =>
  simp only [SlH.val] at hx
  have hpv := hrd.1.form
  have hrv := hrd.2.1.form
  obtain ⟨pa, pc, hpe, _⟩ := hpv
  obtain ⟨ra, rc, hre, _⟩ := hrv
  subst hpe hre
  (have zz:=trivial;repeat((first|clear zz|with_reducible first|refine A3 ?_|refine A5 fun _=>?_|refine A4 fun _=>?_);try simp(disch:=first|omega|assumption|((repeat(first|exact A1|exact uH|apply A2|apply uT));first|done|fail)|(simp;first|done|omega|fail))[c1, c2, hj, hj2, h0, hx]))
  refine D4 he (fun w' hw' => hg _ _ _ hrd w' hw'.ks) ?_
  exact B4 rfl
theorem C2j (ls : List SlH) (i : Int) (f : List G8 → Int) : A3s ls i f = match N4 (ls.map SlH.sp) i with | .rdy p => (f p, true) | _ => (0, false) := by
 rw [B71]; unfold A3s; cases B0w ls i <;> rfl
theorem SlH.rdks {κ : Bool} {w w' : World} {s : SlH} (hk : KS κ [] w w') (h : s.rd w) : s.rd w' := by
 cases s with
 | no => trivial
 | bld => trivial
 | rdy p pv rv => exact ⟨h.1.ks hk (by simp), h.2.1.ks hk (by simp), h.2.2⟩
theorem SlAt.ks {κ : Bool} {w w' : World} {b : Nat} {sv : Value} {ls : List SlH} (h : SlAt w b sv ls) (hk : KS κ [] w w') : SlAt w' b sv ls :=
 ⟨hk.2.1 _ _ (by simp) rfl h.blk, h.rd.ks hk (by simp), fun s hs => SlH.rdks hk (h.all s hs)⟩
theorem C1A (w : World) (p : List G8) (pv rv : Value) (hx : (SlH.rdy p pv rv).rd w) :
  Fn PR B6 70 #[.agg #[pv, rv]] w (fun u w' => u = .int .i64 (p.length : Nat) ∧ D6 [] w w') := by
 refine Fn.pure (A7Y (TW.go (κ := false) (S := []) ?_))
 unfold A0x
 obtain ⟨h1, h2, h3⟩ := hx
 obtain ⟨pa, pc, rfl, _⟩ := h1.form
 obtain ⟨ra, rc, rfl, _⟩ := h2.form
 (have zz:=trivial;repeat((first|clear zz|with_reducible first|refine A3 ?_|refine A5 fun _=>?_|refine A4 fun _=>?_);try simp(disch:=first|omega|assumption|((repeat(first|exact A1|exact uH|apply A2|apply uT));first|done|fail)|(simp;first|done|omega|fail))[]))
 exact B4 rfl
theorem C2P (w : World) (b : Nat) (sv : Value) (ls : List SlH) (i : Int) (hl : ls.length ≤ 8) (hs : SlAt w b sv ls) :
  Fn PR B6 26 #[.pointer (some ⟨b, 0, none⟩), .int .i64 i] w (fun u w' => u = .tuple #[.int .i64 (A56 (ls.map SlH.sp) i).1, .bool (A56 (ls.map SlH.sp) i).2] ∧ D6 [] w w') := by
 refine Fn.pure (A9v (TW.go (κ := false) (S := []) ?_))
 unfold A3D
 refine D4 B0U (fun w' hw' => C5a w' b sv ls i 70 [] (fun p => (p.length : Nat)) hl (hs.ks hw'.ks) A5k fun p pv rv hrd w'' hk => C1A w'' p pv rv (SlH.rdks hk hrd)) ?_
 (have zz:=trivial;repeat((first|clear zz|with_reducible first|refine A3 ?_|refine A5 fun _=>?_|refine A4 fun _=>?_);try simp(disch:=first|omega|assumption|((repeat(first|exact A1|exact uH|apply A2|apply uT));first|done|fail)|(simp;first|done|omega|fail))[]))
 exact B4 (by rw [C2j]; unfold A56; cases N4 (ls.map SlH.sp) i <;> rfl)
theorem C5v (n : Nat) : (Builtin.zeroCells Value.nilIface.cells n).toList = (List.replicate n SlH.no).map SlH.val := by
 have hz : (Builtin.zeroCells Value.nilIface.cells n).toList.length = n := by simp [size_zeroCells, Value.cells]
 apply List.ext_getElem (by rw [hz]; simp)
 intro i h1 h2
 simp [Builtin.zeroCells, Value.cells, SlH.val, Nat.mod_one]
theorem C4m (w : World) (n : Nat) (hn : n ≤ 8) : Fn PR B6 36 #[.int .i64 (n : Nat)] w (Rn [] w (fun (x : Nat × Value) u => u = .pointer (some ⟨x.1, 0, none⟩)) fun x => F2 x.1 x.2 (List.replicate n SlH.no)) := by
 refine B6M (TW.go (κ := false) (S := []) ?_)
 unfold B0F
 have h1 : min ((n : Nat) : Int) 8 = n := by omega
 have h2 : max 0 ((n : Nat) : Int) = n := by omega
 (have zz:=trivial;repeat((first|clear zz|with_reducible first|refine A3 ?_|refine A5 fun _=>?_|refine A4 fun _=>?_);try simp(disch:=first|omega|assumption|((repeat(first|exact A1|exact uH|apply A2|apply uT));first|done|fail)|(simp;first|done|omega|fail))[h1, h2]))
 refine A0r (by omega) (by omega) (by omega) (by omega) fun bs => ?_
 rw [Int.toNat_natCast, C5v]
 (have zz:=trivial;repeat((first|clear zz|with_reducible first|refine A3 ?_|refine A5 fun _=>?_|refine A4 fun _=>?_);try simp(disch:=first|omega|assumption|((repeat(first|exact A1|exact uH|apply A2|apply uT));first|done|fail)|(simp;first|done|omega|fail))[]))
 rename_i b
 refine A5E (r := A0J (List.replicate n SlH.no)) (Hc := []) Part.nil (fun w _ => (fun s hs => by rw [List.eq_of_mem_replicate hs]; trivial : A9S _ w)) (fun b hb => ?_) ?_
 ·have hb' : b ∈ A1e (List.replicate n SlH.no) := hb
  rw [A1e, List.mem_flatMap] at hb'
  obtain ⟨s, hs, hbs⟩ := hb'
  rw [List.eq_of_mem_replicate hs] at hbs; cases hbs
 ·refine B0 (b, .slice (some ⟨bs, 0, none⟩) n n) rfl ?_
  simp only [F2, List.length_replicate, List.map_replicate]
  (repeat' constructor)
end Go.Proofs.YtpnidmkaobfhiaaGreat
namespace Go.Proofs.YtpnidmkaobfhiaaGreat
open Go
def B19 (c : CfgV) : Array Value := #[.int .i64 c.wk, .int .i64 c.sh, .int .i64 c.cp, .int .i64 c.idle, .int .i64 c.sl]
def E7 (c : CfgV) (pc ps pk tv pv now : Value) : Array Value := #[.int .i64 c.wk, .int .i64 c.sh, .int .i64 c.cp, .int .i64 c.idle, .int .i64 c.sl, pc, ps, pk, tv, pv, now]
def E0 (b : Nat) (c : CfgV) (pc ps pk tv pv now : Value) : Res := .pt b (.cells (E7 c pc ps pk tv pv now) 74)
theorem C24 (w : World) (b b1 : Nat) (c : CfgV) (pc ps pk tv pv now : Value) (hw1 : 0 ≤ c.wk ∧ c.wk ≤ 64) (hs1 : 0 ≤ c.sh ∧ c.sh ≤ 16) (hb1 : bl w b1 = some (.cells (B19 c) 23 (0, 0))) (hne : b1 ≠ b) (hw : LW false [b] w [E0 b c pc ps pk tv pv now] w) :
  Fn PR B6 33 #[.pointer (some ⟨b, 0, none⟩), .pointer (some ⟨b1, 0, none⟩)] w (Rn [b] w (fun (x : Nat × Value × Value) u => u = .tuple #[]) fun x => E0 b c (.pointer (some ⟨x.1, 0, none⟩)) ps pk tv pv now :: C6 x.1 0 x.2.1 x.2.2 (List.replicate (2 + c.wk.toNat) 0) (List.replicate c.sh.toNat (-1))) := by
 refine B3L (TW.goH (κ := false) (S := [b]) ?_ hw)
 unfold A6b
 have h0 : w.cell? ⟨b1, 0, none⟩ = some (.int .i64 c.wk) := by rw [D7 hb1]; rfl
 have h1 : w.cell? ⟨b1, 1, none⟩ = some (.int .i64 c.sh) := by rw [D7 hb1]; rfl
 obtain ⟨n, hn⟩ : ∃ n : Nat, c.wk = n := ⟨c.wk.toNat, by omega⟩
 obtain ⟨k, hk⟩ : ∃ k : Nat, c.sh = k := ⟨c.sh.toNat, by omega⟩
 rw [hn] at h0
 rw [hk] at h1
 simp only [E0, E7, hn, hk, Int.toNat_natCast]
 (have zz:=trivial;repeat((first|clear zz|with_reducible first|refine A3 ?_|refine A5 fun _=>?_|refine A4 fun _=>?_);try simp(disch:=first|omega|assumption|((repeat(first|exact A1|exact uH|apply A2|apply uT));first|done|fail)|(simp;first|done|omega|fail))[h0, h1, hne]))
 rw [show (2 + (n : Int)) = ((2 + n : Nat) : Int) by omega]
 refine G7 B5J (fun w' _ => B7N w' (2 + n) k (by omega) (by omega)) ?_
 rintro x v rfl
 simp only [C6]
 (have zz:=trivial;repeat((first|clear zz|with_reducible first|refine A3 ?_|refine A5 fun _=>?_|refine A4 fun _=>?_);try simp(disch:=first|omega|assumption|((repeat(first|exact A1|exact uH|apply A2|apply uT));first|done|fail)|(simp;first|done|omega|fail))[]))
 exact B0 x rfl (by (repeat' constructor))
theorem C13 (w : World) (b b1 : Nat) (c : CfgV) (pc ps pk tv pv now : Value) (hsl : 0 ≤ c.sl ∧ c.sl ≤ 8) (hb1 : bl w b1 = some (.cells (B19 c) 23 (0, 0))) (hne : b1 ≠ b) (hw : LW false [b] w [E0 b c pc ps pk tv pv now] w) :
  Fn PR B6 35 #[.pointer (some ⟨b, 0, none⟩), .pointer (some ⟨b1, 0, none⟩)] w (Rn [b] w (fun (x : Nat × Value × Nat) u => u = .tuple #[]) fun x => E0 b c pc (.pointer (some ⟨x.1, 0, none⟩)) (.pointer (some ⟨x.2.2, 0, none⟩)) tv pv now :: U6 x.2.2 (List.replicate c.sl.toNat (0, 0)) :: F2 x.1 x.2.1 (List.replicate c.sl.toNat SlH.no)) := by
 refine B3F (TW.goH (κ := false) (S := [b]) ?_ hw)
 unfold A6W
 have h0 : w.cell? ⟨b1, 4, none⟩ = some (.int .i64 c.sl) := by rw [D7 hb1]; rfl
 obtain ⟨n, hn⟩ : ∃ n : Nat, c.sl = n := ⟨c.sl.toNat, by omega⟩
 rw [hn] at h0
 simp only [E0, E7, hn, Int.toNat_natCast]
 (have zz:=trivial;repeat((first|clear zz|with_reducible first|refine A3 ?_|refine A5 fun _=>?_|refine A4 fun _=>?_);try simp(disch:=first|omega|assumption|((repeat(first|exact A1|exact uH|apply A2|apply uT));first|done|fail)|(simp;first|done|omega|fail))[h0, hne]))
 refine G7 B5E (fun w' _ => C4m w' n (by omega)) ?_
 rintro x v rfl
 simp only [F2]
 (have zz:=trivial;repeat((first|clear zz|with_reducible first|refine A3 ?_|refine A5 fun _=>?_|refine A4 fun _=>?_);try simp(disch:=first|omega|assumption|((repeat(first|exact A1|exact uH|apply A2|apply uT));first|done|fail)|(simp;first|done|omega|fail))[h0, hne]))
 refine G7 B49 (fun w' _ => C5U w' n (by omega)) ?_
 rintro bk v rfl
 (have zz:=trivial;repeat((first|clear zz|with_reducible first|refine A3 ?_|refine A5 fun _=>?_|refine A4 fun _=>?_);try simp(disch:=first|omega|assumption|((repeat(first|exact A1|exact uH|apply A2|apply uT));first|done|fail)|(simp;first|done|omega|fail))[]))
 refine B0 (x.1, x.2, bk) rfl ?_
 simp only [List.length_replicate, List.map_replicate]
 (repeat' constructor)
def V6 (l : List Nat) : List Value := l.map fun n : Nat => .int .i64 (n : Int)
@[simp] theorem C2p (l : List Nat) : (V6 l).length = l.length := by unfold V6; rw [List.length_map]
theorem C2c (w : World) (b b1 : Nat) (c : CfgV) (pc ps pk now : Value) (hs1 : 1 ≤ c.sh ∧ c.sh ≤ 16) (hc1 : 1 ≤ c.cp ∧ c.cp ≤ 64) (hb1 : bl w b1 = some (.cells (B19 c) 23 (0, 0))) (hne : b1 ≠ b) (hw : LW false [b] w [E0 b c pc ps pk (.slice none 0 0) (.slice none 0 0) now] w) :
  Fn PR B6 38 #[.pointer (some ⟨b, 0, none⟩), .pointer (some ⟨b1, 0, none⟩)] w (Rn [b] w (fun (x : Value × Value × List (Value × List EnV)) u => u = .tuple #[] ∧ x.2.2.map (·.2) = List.replicate c.sh.toNat (newE c.cp.toNat)) fun x => [E0 b c pc ps pk x.1 x.2.1 now, .own 55 1 x.1 x.2.2.length (x.2.2.map (·.1)), .own 3 1 x.2.1 x.2.2.length (V6 (List.replicate c.sh.toNat 0)), C8 x.2.2]) := by
 refine B2W (TW.goH (κ := false) (S := [b]) ?_ hw)
 unfold A6F
 have h0 : w.cell? ⟨b1, 1, none⟩ = some (.int .i64 c.sh) := by rw [D7 hb1]; rfl
 have h1 : w.cell? ⟨b1, 2, none⟩ = some (.int .i64 c.cp) := by rw [D7 hb1]; rfl
 obtain ⟨n, hn⟩ : ∃ n : Nat, c.sh = n := ⟨c.sh.toNat, by omega⟩
 obtain ⟨k, hk⟩ : ∃ k : Nat, c.cp = k := ⟨c.cp.toNat, by omega⟩
 rw [hn] at h0
 rw [hk] at h1
 simp only [E0, E7, hn, hk, Int.toNat_natCast]
 (have zz:=trivial;repeat((first|clear zz|with_reducible first|refine A3 ?_|refine A5 fun _=>?_|refine A4 fun _=>?_);try simp(disch:=first|omega|assumption|((repeat(first|exact A1|exact uH|apply A2|apply uT));first|done|fail)|(simp;first|done|omega|fail))[h0, h1, hne]))
 refine j9 55 1 ?_
 refine j9 3 1 ?_
 refine B5x ?_
 refine Sels.tw (rs := [.pt b (.cells #[.int .i64 c.wk, .int .i64 (n : Nat), .int .i64 (k : Nat), .int .i64 c.idle, .int .i64 c.sl, pc, ps, pk, .slice none 0 0, .slice none 0 0, now] 74), .own 55 1 (.slice none 0 0) 0 [], .own 3 1 (.slice none 0 0) 0 [], C8 []]) (by (repeat' constructor)) ?_
 refine B1H (α := Option Addr × Nat × Option Addr × Nat × List (Value × List EnV)) n (fun i x => [.pt b (.cells #[.int .i64 c.wk, .int .i64 (n : Nat), .int .i64 (k : Nat), .int .i64 c.idle, .int .i64 c.sl, pc, ps, pk, .slice x.1 i x.2.1, .slice x.2.2.1 i x.2.2.2.1, now] 74), .own 55 1 (.slice x.1 i x.2.1) i (x.2.2.2.2.map (·.1)), .own 3 1 (.slice x.2.2.1 i x.2.2.2.1) i (V6 (List.replicate i 0)), C8 x.2.2.2.2]) (fun i x => x.2.2.2.2.length = i ∧ x.2.2.2.2.map (·.2) = List.replicate i (newE k)) (none, 0, none, 0, []) ⟨rfl, rfl⟩ ?_
 ·rintro i ⟨ta, tc, pa, qc, ts⟩ hi ⟨hlen, hmap⟩ L hL
  simp only at hlen hmap ⊢
  by_cases hlt : i < n
  ·(have zz:=trivial;repeat((first|clear zz|with_reducible first|refine A3 ?_|refine A5 fun _=>?_|refine A4 fun _=>?_);try simp(disch:=first|omega|assumption|((repeat(first|exact A1|exact uH|apply A2|apply uT));first|done|fail)|(simp;first|done|omega|fail))[h1, hne, hlt]))
   refine G7 A9l (fun w' _ => B1Y w' k (by omega)) ?_
   intro y u hu
   subst hu
   refine H7 (e := 155) (k := 4) (v := u) (q := (newE k).length) (xs := (newE k).flatMap E3) (by (repeat constructor)) fun ua uc hu => ?_
   subst hu
   (have zz:=trivial;repeat((first|clear zz|with_reducible first|refine A3 ?_|refine A5 fun _=>?_|refine A4 fun _=>?_|refine T6 fun _=>?_|refine T0 (hK:=fun _=>?_)|refine T8 (hK:=fun _=>?_)|refine T2 (hK:=fun _=>?_)|refine T3 (hK:=fun _=>?_)|refine T7 (hK:=fun _=>?_));try simp(disch:=first|omega|assumption|((repeat(first|exact A1|exact uH|apply A2|apply uT));first|done|fail)|(simp;first|done|omega|fail))[h1, hne, hlt]))
   refine W9 (e := 55) (k := 1) (q := i) (r := 1) (xs := ts.map (·.1)) (news := [.slice ua (newE k).length uc]) (by (repeat constructor)) (H3.own (by (repeat constructor))) (by decide) (by simp [hlen]) (by simp) (by simp only [maxLen]; omega) (by omega) fun a' c' => ?_
   (have zz:=trivial;repeat((first|clear zz|with_reducible first|refine A3 ?_|refine A5 fun _=>?_|refine A4 fun _=>?_|refine T6 fun _=>?_|refine T0 (hK:=fun _=>?_)|refine T8 (hK:=fun _=>?_)|refine T2 (hK:=fun _=>?_)|refine T3 (hK:=fun _=>?_)|refine T7 (hK:=fun _=>?_));try simp(disch:=first|omega|assumption|((repeat(first|exact A1|exact uH|apply A2|apply uT));first|done|fail)|(simp;first|done|omega|fail))[h1, hne, hlt]))
   refine W9 (e := 3) (k := 1) (q := i) (r := 1) (xs := V6 (List.replicate i 0)) (news := [.int .i64 0]) (by (repeat constructor)) (H3.own (by (repeat constructor))) (by decide) (by simp) (by simp) (by simp only [maxLen]; omega) (by omega) fun a'' c'' => ?_
   (have zz:=trivial;repeat((first|clear zz|with_reducible first|refine A3 ?_|refine A5 fun _=>?_|refine A4 fun _=>?_);try simp(disch:=first|omega|assumption|((repeat(first|exact A1|exact uH|apply A2|apply uT));first|done|fail)|(simp;first|done|omega|fail))[]))
   refine A1v (r := .slice ua (newE k).length uc) (l := newE k) (ts := ts) (by (repeat' constructor)) ?_
   have h := hL hlt (a', c', a'', c'', ts ++ [(.slice ua (newE k).length uc, newE k)]) ⟨by simp [hlen], by rw [List.map_append, hmap, List.replicate_succ']; rfl⟩
   have e : V6 (List.replicate (i + 1) 0) = V6 (List.replicate i 0) ++ [.int .i64 0] := by rw [List.replicate_succ', V6, List.map_append]; rfl
   simp only [List.map_append, List.map_cons, List.map_nil, e] at h
   exact Sels.tw (by (repeat' constructor)) h
  ·obtain rfl : i = n := by omega
   (have zz:=trivial;repeat((first|clear zz|with_reducible first|refine A3 ?_|refine A5 fun _=>?_|refine A4 fun _=>?_);try simp(disch:=first|omega|assumption|((repeat(first|exact A1|exact uH|apply A2|apply uT));first|done|fail)|(simp;first|done|omega|fail))[]))
   refine B0 (.slice ta i tc, .slice pa i qc, ts) ⟨rfl, hmap⟩ ?_
   simp only [hlen]
   (repeat' constructor)
end Go.Proofs.YtpnidmkaobfhiaaGreat
namespace Go.Proofs.YtpnidmkaobfhiaaGreat
open Go
structure WoH where
 b : Nat
 bc : Nat
 bs : Nat
 bk : Nat
 cn : Int
 cv : Value
 ov : Value
 sv : Value
 tv : Value
 pv : Value
 c : CfgV
 cells : List Int
 own : List Int
 ls : List SlH
 keep : List (Int × Int)
 ts : List (Value × List EnV)
 pl : List Nat
 now : Int
def B8 (m : WoH) : List Res := [E0 m.b m.c (.pointer (some ⟨m.bc, 0, none⟩)) (.pointer (some ⟨m.bs, 0, none⟩)) (.pointer (some ⟨m.bk, 0, none⟩)) m.tv m.pv (.int .i64 m.now),
 .pt m.bc (.cells #[.int .i64 m.cn, m.cv, m.ov] 147), .own 3 1 m.cv m.cells.length (C1 m.cells), .own 3 1 m.ov m.own.length (C1 m.own),
 .pt m.bs (.cells #[m.sv] 162), .own 174 1 m.sv m.ls.length (m.ls.map SlH.val), A0J m.ls, U6 m.bk m.keep,
 .own 55 1 m.tv m.ts.length (m.ts.map (·.1)), .own 3 1 m.pv m.pl.length (V6 m.pl)]
def WoH.ws (m : WoH) : WS := ⟨m.c, m.cells, m.own, m.ls.map SlH.sp, m.keep, m.ts.map (·.2), m.pl, m.now⟩
def N8 (c : CfgV) : WS := ⟨c, List.replicate (2 + c.wk.toNat) 0, List.replicate c.sh.toNat (-1), List.replicate c.sl.toNat .no, List.replicate c.sl.toNat (0, 0), List.replicate c.sh.toNat (newE c.cp.toNat), List.replicate c.sh.toNat 0, 0⟩
abbrev C4A := (Nat × Value × Value) × (Nat × Value × Nat) × (Value × Value × List (Value × List EnV))
def Y6 : Value := .pointer none
def L9 : Value := .slice none 0 0
def B1G (b : Nat) (c : CfgV) : Nat → C4A → List Res
 | 0, x => [E0 b c Y6 Y6 Y6 L9 L9 (.int .i64 0)]
 | 1, x => E0 b c (.pointer (some ⟨x.1.1, 0, none⟩)) Y6 Y6 L9 L9 (.int .i64 0) :: C6 x.1.1 0 x.1.2.1 x.1.2.2 (List.replicate (2 + c.wk.toNat) 0) (List.replicate c.sh.toNat (-1))
 | 2, x => E0 b c (.pointer (some ⟨x.1.1, 0, none⟩)) (.pointer (some ⟨x.2.1.1, 0, none⟩)) (.pointer (some ⟨x.2.1.2.2, 0, none⟩)) L9 L9 (.int .i64 0) :: (C6 x.1.1 0 x.1.2.1 x.1.2.2 (List.replicate (2 + c.wk.toNat) 0) (List.replicate c.sh.toNat (-1)) ++ U6 x.2.1.2.2 (List.replicate c.sl.toNat (0, 0)) :: F2 x.2.1.1 x.2.1.2.1 (List.replicate c.sl.toNat SlH.no))
 | _, x => E0 b c (.pointer (some ⟨x.1.1, 0, none⟩)) (.pointer (some ⟨x.2.1.1, 0, none⟩)) (.pointer (some ⟨x.2.1.2.2, 0, none⟩)) x.2.2.1 x.2.2.2.1 (.int .i64 0) :: (C6 x.1.1 0 x.1.2.1 x.1.2.2 (List.replicate (2 + c.wk.toNat) 0) (List.replicate c.sh.toNat (-1)) ++ U6 x.2.1.2.2 (List.replicate c.sl.toNat (0, 0)) :: (F2 x.2.1.1 x.2.1.2.1 (List.replicate c.sl.toNat SlH.no) ++ [.own 55 1 x.2.2.1 x.2.2.2.2.length (x.2.2.2.2.map (·.1)), .own 3 1 x.2.2.2.1 x.2.2.2.2.length (V6 (List.replicate c.sh.toNat 0)), C8 x.2.2.2.2]))
theorem C2s (w : World) (b1 : Nat) (c : CfgV) (pv : Value) (hok : S4 c = true) (hb1 : bl w b1 = some (.cells (B19 c) 23 (0, 0)))
  (hv : D2 w pv 3 [.func (.func 33) #[] #[.pointer (some ⟨b1, 0, none⟩)], .func (.func 35) #[] #[.pointer (some ⟨b1, 0, none⟩)], .func (.func 38) #[] #[.pointer (some ⟨b1, 0, none⟩)]]) :
  Fn PR B6 32 #[c.val, pv] w (Rn [] w (fun (y : WoH) u => u = .pointer (some ⟨y.b, 0, none⟩) ∧ y.c = c ∧ y.ws = N8 c) fun y => B8 y ++ [C8 y.ts]) := by
 refine B47 (TW.go (κ := false) (S := []) ?_)
 unfold A9b
 have hb : (1 ≤ c.wk ∧ c.wk ≤ 64) ∧ (1 ≤ c.sh ∧ c.sh ≤ 16) ∧ (1 ≤ c.cp ∧ c.cp ≤ 64) ∧ (2 ≤ c.sl ∧ c.sl ≤ 8) := by
  simp [S4, e8] at hok; omega
 obtain ⟨a, cap, rfl, hr⟩ := hv.form
 obtain ⟨g, o, rfl, hrow⟩ := hr (by omega)
 simp only [CfgV.val]
 (have zz:=trivial;repeat((first|clear zz|with_reducible first|refine A3 ?_|refine A5 fun _=>?_|refine A4 fun _=>?_);try simp(disch:=first|omega|assumption|((repeat(first|exact A1|exact uH|apply A2|apply uT));first|done|fail)|(simp;first|done|omega|fail))[]))
 rename_i b2 b
 refine B1H (α := C4A) 3 (fun i x => B1G b c i x ++ [.pt b2 (.cells (B19 c) 23)]) (fun i x => i = 3 → x.2.2.2.2.map (·.2) = List.replicate c.sh.toNat (newE c.cp.toNat)) ((0, Y6, Y6), (0, Y6, 0), (Y6, Y6, [])) (by omega) ?_ (by simp [B1G, E0, E7, B19, Y6, L9])
 have r0 : w.cell? ⟨g, o, none⟩ = some (.func (.func 33) #[] #[.pointer (some ⟨b1, 0, none⟩)]) := hrow 0 (by simp)
 have r1 : w.cell? ⟨g, o + 1, none⟩ = some (.func (.func 35) #[] #[.pointer (some ⟨b1, 0, none⟩)]) := hrow 1 (by simp)
 have r2 : w.cell? ⟨g, o + 2, none⟩ = some (.func (.func 38) #[] #[.pointer (some ⟨b1, 0, none⟩)]) := hrow 2 (by simp)
 have hne : ∀ {w' : World} {A : List Res}, LW false [] w A w' → ∀ pc ps pk tv pv now, E0 b c pc ps pk tv pv now ∈ A → b1 ≠ b := fun {w' A} hw' pc ps pk tv pv now hm e => by
  have := (hw'.own _ hm b (by simp [E0, Res.foot])).1
  have h1 := P7 hb1
  rcases this with h | h
  ·cases h
  ·omega
 have hbb : ∀ w', KS false [] w w' → bl w' b1 = some (.cells (B19 c) 23 (0, 0)) := fun w' hk => hk.2.1 _ _ (by simp) rfl hb1
 rintro i ⟨⟨bc, cv, ov⟩, ⟨bs, sv, bk⟩, ⟨tv, pv', ts⟩⟩ hi hφ L hL
 have hi4 : i = 0 ∨ i = 1 ∨ i = 2 ∨ i = 3 := by omega
 rcases hi4 with rfl | rfl | rfl | rfl
 ·simp only [B1G, List.cons_append, List.nil_append, C6] at hL ⊢
  (have zz:=trivial;repeat((first|clear zz|with_reducible first|refine A3 ?_|refine A5 fun _=>?_|refine A4 fun _=>?_);try simp(disch:=first|omega|assumption|((repeat(first|exact A1|exact uH|apply A2|apply uT));first|done|fail)|(simp;first|done|omega|fail))[r0]))
  refine C0 (Hc := [E0 b c Y6 Y6 Y6 L9 L9 (.int .i64 0)]) B10 (fun w' hw' hs => C24 w' b b1 c _ _ _ _ _ _ (by omega) (by omega) (hbb w' hw'.ks) (hne hw' _ _ _ _ _ _ (List.mem_cons_self ..)) hs) (by (repeat' constructor)) ?_
  rintro x v rfl
  simp only [C6, List.cons_append, List.nil_append]
  (have zz:=trivial;repeat((first|clear zz|with_reducible first|refine A3 ?_|refine A5 fun _=>?_|refine A4 fun _=>?_);try simp(disch:=first|omega|assumption|((repeat(first|exact A1|exact uH|apply A2|apply uT));first|done|fail)|(simp;first|done|omega|fail))[]))
  have h := hL (by omega) (x, (0, Y6, 0), (Y6, Y6, [])) (by omega)
  simp only [List.length_replicate, List.map_replicate] at h ⊢
  exact Sels.tw (by (repeat' constructor)) h
 ·simp only [B1G, List.cons_append, List.nil_append, C6, F2] at hL ⊢
  (have zz:=trivial;repeat((first|clear zz|with_reducible first|refine A3 ?_|refine A5 fun _=>?_|refine A4 fun _=>?_);try simp(disch:=first|omega|assumption|((repeat(first|exact A1|exact uH|apply A2|apply uT));first|done|fail)|(simp;first|done|omega|fail))[r1]))
  refine C0 (Hc := [E0 b c (.pointer (some ⟨bc, 0, none⟩)) Y6 Y6 L9 L9 (.int .i64 0)]) B2H (fun w' hw' hs => C13 w' b b1 c _ _ _ _ _ _ (by omega) (hbb w' hw'.ks) (hne hw' _ _ _ _ _ _ (List.mem_cons_self ..)) hs) (by (repeat' constructor)) ?_
  rintro x v rfl
  simp only [F2, List.cons_append, List.nil_append]
  (have zz:=trivial;repeat((first|clear zz|with_reducible first|refine A3 ?_|refine A5 fun _=>?_|refine A4 fun _=>?_);try simp(disch:=first|omega|assumption|((repeat(first|exact A1|exact uH|apply A2|apply uT));first|done|fail)|(simp;first|done|omega|fail))[]))
  have h := hL (by omega) ((bc, cv, ov), x, (Y6, Y6, [])) (by omega)
  simp only [List.length_replicate, List.map_replicate] at h ⊢
  exact Sels.tw (by (repeat' constructor)) h
 ·simp only [B1G, List.cons_append, List.nil_append, C6, F2] at hL ⊢
  (have zz:=trivial;repeat((first|clear zz|with_reducible first|refine A3 ?_|refine A5 fun _=>?_|refine A4 fun _=>?_);try simp(disch:=first|omega|assumption|((repeat(first|exact A1|exact uH|apply A2|apply uT));first|done|fail)|(simp;first|done|omega|fail))[r2]))
  refine C0 (Hc := [E0 b c (.pointer (some ⟨bc, 0, none⟩)) (.pointer (some ⟨bs, 0, none⟩)) (.pointer (some ⟨bk, 0, none⟩)) L9 L9 (.int .i64 0)]) B2L (fun w' hw' hs => C2c w' b b1 c _ _ _ _ (by omega) (by omega) (hbb w' hw'.ks) (hne hw' _ _ _ _ _ _ (List.mem_cons_self ..)) hs) (by (repeat' constructor)) ?_
  rintro x v ⟨rfl, hx⟩
  simp only [List.cons_append, List.nil_append]
  (have zz:=trivial;repeat((first|clear zz|with_reducible first|refine A3 ?_|refine A5 fun _=>?_|refine A4 fun _=>?_);try simp(disch:=first|omega|assumption|((repeat(first|exact A1|exact uH|apply A2|apply uT));first|done|fail)|(simp;first|done|omega|fail))[]))
  have h := hL (by omega) ((bc, cv, ov), (bs, sv, bk), x) (fun _ => hx)
  simp only [List.length_replicate, List.map_replicate] at h ⊢
  exact Sels.tw (by (repeat' constructor)) h
 ·have ht := hφ rfl
  simp only [B1G, List.cons_append, List.nil_append, C6, F2] at ht ⊢
  have hlen : ts.length = c.sh.toNat := by
   have := congrArg List.length ht
   simpa using this
  (have zz:=trivial;repeat((first|clear zz|with_reducible first|refine A3 ?_|refine A5 fun _=>?_|refine A4 fun _=>?_);try simp(disch:=first|omega|assumption|((repeat(first|exact A1|exact uH|apply A2|apply uT));first|done|fail)|(simp;first|done|omega|fail))[]))
  refine B0 ⟨b, bc, bs, bk, 0, cv, ov, sv, tv, pv', c, List.replicate (2 + c.wk.toNat) 0, List.replicate c.sh.toNat (-1), List.replicate c.sl.toNat SlH.no, List.replicate c.sl.toNat (0, 0), ts, List.replicate c.sh.toNat 0, 0⟩ ⟨rfl, rfl, by simp [WoH.ws, N8, ht, SlH.sp]⟩ ?_
  simp only [B8, List.cons_append, List.nil_append, List.length_replicate, List.map_replicate, hlen]
  (repeat' constructor)
end Go.Proofs.YtpnidmkaobfhiaaGreat
namespace Go.Proofs.YtpnidmkaobfhiaaGreat
open Go
theorem B79 (w : World) (c : CfgV) : Fn PR B6 9 #[c.val] w (Rn [] w (fun (y : WoH) u => if S4 c then u = .tuple #[.pointer (some ⟨y.b, 0, none⟩), .int .i64 0] ∧ y.c = c ∧ y.ws = N8 c else u = .tuple #[.pointer none, .int .i64 1]) fun y => if S4 c then B8 y ++ [C8 y.ts] else []) := by
 refine B6y (TW.go (κ := false) (S := []) ?_)
 unfold B0M
 simp only [CfgV.val]
 (have zz:=trivial;repeat((first|clear zz|with_reducible first|refine A3 ?_|refine A5 fun _=>?_|refine A4 fun _=>?_);try simp(disch:=first|omega|assumption|((repeat(first|exact A1|exact uH|apply A2|apply uT));first|done|fail)|(simp;first|done|omega|fail))[]))
 rename_i b1
 refine D4 B24 (fun w' _ => B9s w' c) ?_
 cases hok : S4 c with
 | false =>
  (have zz:=trivial;repeat((first|clear zz|with_reducible first|refine A3 ?_|refine A5 fun _=>?_|refine A4 fun _=>?_);try simp(disch:=first|omega|assumption|((repeat(first|exact A1|exact uH|apply A2|apply uT));first|done|fail)|(simp;first|done|omega|fail))[]))
  exact B0 ⟨0, 0, 0, 0, 0, Y6, Y6, Y6, Y6, Y6, c, [], [], [], [], [], [], 0⟩ (by simp) Sels.nil
 | true =>
  (have zz:=trivial;repeat((first|clear zz|with_reducible first|refine A3 ?_|refine A5 fun _=>?_|refine A4 fun _=>?_|refine T6 fun _=>?_|refine T0 (hK:=fun _=>?_)|refine T8 (hK:=fun _=>?_)|refine T2 (hK:=fun _=>?_)|refine T3 (hK:=fun _=>?_)|refine T7 (hK:=fun _=>?_));try simp(disch:=first|omega|assumption|((repeat(first|exact A1|exact uH|apply A2|apply uT));first|done|fail)|(simp;first|done|omega|fail))[]))
  rename_i g
  refine G7 B3a (fun w' hw' => C2s w' b1 c _ hok (hw'.pt (by (repeat constructor))) (H3.own (e := 87) (k := 1) (by (repeat constructor)) w' hw')) ?_
  rintro y v ⟨rfl, hy⟩
  (have zz:=trivial;repeat((first|clear zz|with_reducible first|refine A3 ?_|refine A5 fun _=>?_|refine A4 fun _=>?_);try simp(disch:=first|omega|assumption|((repeat(first|exact A1|exact uH|apply A2|apply uT));first|done|fail)|(simp;first|done|omega|fail))[]))
  refine B0 y ⟨rfl, hy⟩ ?_
  simp only [B8, List.cons_append, List.nil_append]
  (repeat' constructor)
theorem B3Z (w : World) (b : Nat) (c : CfgV) (pc ps pk tv pv now : Value) (who : Int) (hwk : c.wk ≤ 64) (hb : bl w b = some (.cells (E7 c pc ps pk tv pv now) 74 (0, 0))) :
  Fn PR B6 87 #[.pointer (some ⟨b, 0, none⟩), .int .i64 who] w (fun u w' => u = .int .i64 (F9 c who) ∧ D6 [] w w') := by
 refine Fn.pure (B0k (TW.go (κ := false) (S := []) ?_))
 unfold A39
 have h0 : w.cell? ⟨b, 0, none⟩ = some (.int .i64 c.wk) := by rw [D7 hb]; rfl
 unfold F9
 by_cases c1 : who < 1
 ·rw [if_pos (Or.inl c1)]
  (have zz:=trivial;repeat((first|clear zz|with_reducible first|refine A3 ?_|refine A5 fun _=>?_|refine A4 fun _=>?_);try simp(disch:=first|omega|assumption|((repeat(first|exact A1|exact uH|apply A2|apply uT));first|done|fail)|(simp;first|done|omega|fail))[c1]))
  exact B4 rfl
 by_cases c2 : c.wk < who
 ·rw [if_pos (Or.inr c2)]
  (have zz:=trivial;repeat((first|clear zz|with_reducible first|refine A3 ?_|refine A5 fun _=>?_|refine A4 fun _=>?_);try simp(disch:=first|omega|assumption|((repeat(first|exact A1|exact uH|apply A2|apply uT));first|done|fail)|(simp;first|done|omega|fail))[c1, c2, h0]))
  exact B4 rfl
 rw [if_neg (by omega)]
 (have zz:=trivial;repeat((first|clear zz|with_reducible first|refine A3 ?_|refine A5 fun _=>?_|refine A4 fun _=>?_);try simp(disch:=first|omega|assumption|((repeat(first|exact A1|exact uH|apply A2|apply uT));first|done|fail)|(simp;first|done|omega|fail))[c1, c2, h0]))
 exact B4 (by congr 1; omega)
end Go.Proofs.YtpnidmkaobfhiaaGreat
namespace Go.Proofs.YtpnidmkaobfhiaaGreat
open Go
abbrev Q7 := SlV × Option Addr × Nat × Nat
def rsP (x : Q7) : Value := .slice x.2.1 x.2.2.1 x.2.2.2
def S2 (x : Q7) : List Value := match x.1 with
 | .no => [.int .i64 0, .slice none 0 0]
 | .bld => [.int .i64 1, .slice none 0 0]
 | .rdy _ => [.int .i64 2, rsP x]
theorem A0P (x : Q7) : (S2 x).length = 2 := by unfold S2; split <;> rfl
def noR : Q7 := (.no, none, 0, 0)
def W6 (x : Int × Int) : List Value := [.int .i64 x.1, .int .i64 x.2]
structure XH where
 b : Nat
 piv : Value
 lov : Value
 slv : Value
 kev : Value
 tav : Value
 plv : Value
 c : CfgV
 ep : Int
 cur : Int
 pins : List Int
 locks : List Int
 sl : List Q7
 keep : List (Int × Int)
 ts : List (Value × List EnV)
 pl : List Nat
 now : Int
def H2 (c : CfgV) (ep cur : Int) (piv lov slv kev tav plv : Value) (now : Int) : Array Value := #[.int .i64 c.wk, .int .i64 c.sh, .int .i64 c.cp, .int .i64 c.idle, .int .i64 c.sl, .int .i64 ep, .int .i64 cur, piv, lov, slv, kev, tav, plv, .int .i64 now]
def G5 (b : Nat) (c : CfgV) (ep cur : Int) (piv lov slv kev tav plv : Value) (now : Int) : Res := .pt b (.cells (H2 c ep cur piv lov slv kev tav plv now) 110)
def D0 (x : XH) : List Res := [G5 x.b x.c x.ep x.cur x.piv x.lov x.slv x.kev x.tav x.plv x.now, .own 3 1 x.piv x.pins.length (C1 x.pins), .own 3 1 x.lov x.locks.length (C1 x.locks),
 .own 179 2 x.slv x.sl.length (x.sl.flatMap S2), .own 186 2 x.kev x.keep.length (x.keep.flatMap W6), .own 55 1 x.tav x.ts.length (x.ts.map (·.1)), .own 3 1 x.plv x.pl.length (V6 x.pl)]
theorem C4W {α : Type} (v : Value) (a b : Value) (x : α) (f : α → List Value) (hv : v.cells = #[a, b]) (hf : f x = [a, b]) (hl : ∀ y, (f y).length = 2) (n : Nat) : (Builtin.zeroCells v.cells n).toList = (List.replicate n x).flatMap f := by
 have h2 : v.cells.size = 2 := by rw [hv]; rfl
 have hz : (Builtin.zeroCells v.cells n).toList.length = n * 2 := by simp [size_zeroCells, h2]
 have hr : ((List.replicate n x).flatMap f).length = n * 2 := by rw [P0 (k := 2) hl]; simp
 apply List.ext_getElem (by rw [hz, hr])
 intro i h1 h3
 rw [hz] at h1
 have hg := m0 (f := f) (k := 2) hl (List.replicate n x) (i / 2) (i % 2) (by omega)
 rw [show i / 2 * 2 + i % 2 = i by omega, List.getElem?_eq_getElem h3, List.getElem?_replicate_of_lt (by omega)] at hg
 have e : (Builtin.zeroCells v.cells n).toList[i]'(by rw [hz]; exact h1) = v.cells[i % 2]! := by
  simp [Builtin.zeroCells, h2]
 rw [e, hv]
 have h4 : i % 2 = 0 ∨ i % 2 = 1 := by omega
 rcases h4 with h4 | h4 <;> (rw [h4] at hg ⊢; simp [hf] at hg ⊢; exact hg.symm)
theorem C49 (n : Nat) : (Builtin.zeroCells (Value.agg #[.int .i64 0, .slice none 0 0]).cells n).toList = (List.replicate n noR).flatMap S2 := C4W _ _ _ noR S2 rfl rfl A0P n
theorem C44 (n : Nat) : (Builtin.zeroCells (Value.agg #[.int .i64 0, .int .i64 0]).cells n).toList = (List.replicate n ((0, 0) : Int × Int)).flatMap W6 := C4W _ _ _ _ W6 rfl rfl (fun _ => rfl) n
theorem C3s (w : World) (n : Nat) (hn : n ≤ 8) : Fn PR B6 41 #[.int .i64 (n : Int)] w (Rn [] w (fun r u => u = r) fun r => [.own 179 2 r (List.replicate n noR).length ((List.replicate n noR).flatMap S2)]) := by
 refine A8U (TW.go (κ := false) (S := []) ?_)
 unfold A2C
 have e : max 0 (min (n : Int) 8) = (n : Int) := by omega
 (have zz:=trivial;repeat((first|clear zz|with_reducible first|refine A3 ?_|refine A5 fun _=>?_|refine A4 fun _=>?_);try simp(disch:=first|omega|assumption|((repeat(first|exact A1|exact uH|apply A2|apply uT));first|done|fail)|(simp;first|done|omega|fail))[]))
 rw [e]
 refine A0r (by omega) (by omega) (by omega) (by omega) fun b => ?_
 rw [Int.toNat_natCast, C49]
 refine B0 _ rfl ?_
 simp only [List.length_replicate]
 (repeat' constructor)
theorem C3u (w : World) (n : Nat) (hn : n ≤ 8) : Fn PR B6 42 #[.int .i64 (n : Int)] w (Rn [] w (fun r u => u = r) fun r => [.own 186 2 r (List.replicate n ((0, 0) : Int × Int)).length ((List.replicate n ((0, 0) : Int × Int)).flatMap W6)]) := by
 refine A8E (TW.go (κ := false) (S := []) ?_)
 unfold A17
 have e : max 0 (min (n : Int) 8) = (n : Int) := by omega
 (have zz:=trivial;repeat((first|clear zz|with_reducible first|refine A3 ?_|refine A5 fun _=>?_|refine A4 fun _=>?_);try simp(disch:=first|omega|assumption|((repeat(first|exact A1|exact uH|apply A2|apply uT));first|done|fail)|(simp;first|done|omega|fail))[]))
 rw [e]
 refine A0r (by omega) (by omega) (by omega) (by omega) fun b => ?_
 rw [Int.toNat_natCast, C44]
 refine B0 _ rfl ?_
 simp only [List.length_replicate]
 (repeat' constructor)
theorem B6S (n : Nat) : (Builtin.zeroCells (Value.int .i64 0).cells n).toList = C1 (List.replicate n 0) := by
 rw [B7k]; simp [B8z, C1]
theorem B7C (n : Nat) : (Builtin.zeroCells (Value.int .i64 0).cells n).toList = V6 (List.replicate n 0) := B7k n
def B8m (b b1 bp bs wn n k sn : Nat) (idle : Int) (lov tav : Value) : List Res := [.pt b (.cells #[.int .i64 wn, .int .i64 n, .int .i64 k, .int .i64 idle, .int .i64 sn, .int .i64 0, .int .i64 0, .slice (some ⟨bp, 0, none⟩) (wn + 1) (wn + 1), lov, .slice none 0 0, .slice none 0 0, tav, .slice (some ⟨bs, 0, none⟩) n n, .int .i64 0] 110),
 .own 3 1 (.slice (some ⟨bp, 0, none⟩) (wn + 1) (wn + 1)) (wn + 1) (C1 (List.replicate (wn + 1) 0)), .own 3 1 (.slice (some ⟨bs, 0, none⟩) n n) n (V6 (List.replicate n 0)),
 .pt b1 (.cells #[.int .i64 wn, .int .i64 n, .int .i64 k, .int .i64 idle, .int .i64 sn] 23)]
set_option maxHeartbeats 1000000 in
theorem C1y (w : World) (c : CfgV) (hok : S4 c = true) : Fn PR B6 12 #[c.val] w (Rn [] w (fun (x : XH) u => u = .pointer (some ⟨x.b, 0, none⟩) ∧ x.c = c ∧ x.ep = 0 ∧ x.cur = 0 ∧ x.pins = List.replicate (c.wk.toNat + 1) 0 ∧ x.locks = List.replicate c.sh.toNat (-1) ∧ x.sl = List.replicate c.sl.toNat noR ∧ x.keep = List.replicate c.sl.toNat (0, 0) ∧ x.ts.map (·.2) = List.replicate c.sh.toNat (newE c.cp.toNat) ∧ x.pl = List.replicate c.sh.toNat 0 ∧ x.now = 0)
  fun x => C8 x.ts :: D0 x) := by
 refine A75 (TW.go (κ := false) (S := []) ?_)
 unfold A2F
 simp only [CfgV.val]
 obtain ⟨cwk, csh, ccp, cid, csl⟩ := c
 have hb : (1 ≤ cwk ∧ cwk ≤ 64) ∧ (1 ≤ csh ∧ csh ≤ 16) ∧ (1 ≤ ccp ∧ ccp ≤ 64) ∧ 0 ≤ csl ∧ csl ≤ 8 := by
  simp [S4, e8] at hok; omega
 simp only
 obtain ⟨wn, rfl⟩ : ∃ n : Nat, cwk = n := ⟨cwk.toNat, by omega⟩
 obtain ⟨n, rfl⟩ : ∃ n : Nat, csh = n := ⟨csh.toNat, by omega⟩
 obtain ⟨k, rfl⟩ : ∃ n : Nat, ccp = n := ⟨ccp.toNat, by omega⟩
 obtain ⟨sn, rfl⟩ : ∃ n : Nat, csl = n := ⟨csl.toNat, by omega⟩
 have e1 : ((wn : Nat) : Int) + 1 = ((wn + 1 : Nat) : Int) := by omega
 (have zz:=trivial;repeat((first|clear zz|with_reducible first|refine A3 ?_|refine A5 fun _=>?_|refine A4 fun _=>?_);try simp(disch:=first|omega|assumption|((repeat(first|exact A1|exact uH|apply A2|apply uT));first|done|fail)|(simp;first|done|omega|fail))[]))
 rename_i b1
 refine C4E (α := Nat × Nat × Nat) (fun _ => True) (fun y => B8m y.1 b1 y.2.1 y.2.2 wn n k sn cid (.slice none 0 0) (.slice none 0 0)) (fun y => .pointer (some ⟨y.1, 0, none⟩)) ?_ ?_
 ·rintro ⟨bm, bp, bs⟩ _
  simp only [B8m]
  (have zz:=trivial;repeat((first|clear zz|with_reducible first|refine A3 ?_|refine A5 fun _=>?_|refine A4 fun _=>?_);try simp(disch:=first|omega|assumption|((repeat(first|exact A1|exact uH|apply A2|apply uT));first|done|fail)|(simp;first|done|omega|fail))[]))
  refine j9 3 1 ?_
  refine B5x ?_
  refine j9 55 1 ?_
  refine B1H n (fun i (y : (List (Value × List EnV) × Option Addr × Nat) × Option Addr × Nat) => [.own 55 1 (.slice y.1.2.1 i y.1.2.2) i (y.1.1.map (·.1)), C8 y.1.1, .own 3 1 (.slice y.2.1 i y.2.2) i (C1 (List.replicate i (-1))),
   .pt bm (.cells #[.int .i64 wn, .int .i64 n, .int .i64 k, .int .i64 cid, .int .i64 sn, .int .i64 0, .int .i64 0, .slice (some ⟨bp, 0, none⟩) (wn + 1) (wn + 1), .slice y.2.1 i y.2.2, .slice none 0 0, .slice none 0 0, .slice y.1.2.1 i y.1.2.2, .slice (some ⟨bs, 0, none⟩) n n, .int .i64 0] 110),
   .own 3 1 (.slice (some ⟨bp, 0, none⟩) (wn + 1) (wn + 1)) (wn + 1) (C1 (List.replicate (wn + 1) 0)), .own 3 1 (.slice (some ⟨bs, 0, none⟩) n n) n (V6 (List.replicate n 0)),
   .pt b1 (.cells #[.int .i64 wn, .int .i64 n, .int .i64 k, .int .i64 cid, .int .i64 sn] 23)]) (fun i y => y.1.1.length = i ∧ y.1.1.map (·.2) = List.replicate i (newE k)) (([], none, 0), none, 0) ⟨rfl, rfl⟩ ?_
  ·rintro i ⟨⟨ts, ya, yc⟩, la, lc⟩ hi ⟨hlen, hmap⟩ L hL
   simp only at hlen hmap ⊢
   obtain ⟨lz, hlz⟩ : ∃ z, z = C1 (List.replicate i (-1)) := ⟨_, rfl⟩
   rw [← hlz]
   by_cases hlt : i < n
   ·have hlt' : ((i : Nat) : Int) < (n : Nat) := by omega
    (have zz:=trivial;repeat((first|clear zz|with_reducible first|refine A3 ?_|refine A5 fun _=>?_|refine A4 fun _=>?_|refine T6 fun _=>?_|refine T0 (hK:=fun _=>?_)|refine T8 (hK:=fun _=>?_)|refine T2 (hK:=fun _=>?_)|refine T3 (hK:=fun _=>?_)|refine T7 (hK:=fun _=>?_));try simp(disch:=first|omega|assumption|((repeat(first|exact A1|exact uH|apply A2|apply uT));first|done|fail)|(simp;first|done|omega|fail))[hlt, hlt']))
    refine W9 (e := 3) (k := 1) (q := i) (r := 1) (xs := lz) (news := [.int .i64 (-1)]) (by (repeat constructor)) (H3.own (by (repeat constructor))) (by decide) (by simp) (by simp) (by simp only [maxLen]; omega) (by omega) fun a1 c1 => ?_
    (have zz:=trivial;repeat((first|clear zz|with_reducible first|refine A3 ?_|refine A5 fun _=>?_|refine A4 fun _=>?_);try simp(disch:=first|omega|assumption|((repeat(first|exact A1|exact uH|apply A2|apply uT));first|done|fail)|(simp;first|done|omega|fail))[]))
    refine G7 A1F (fun w' _ => B5v w' k (by omega)) ?_
    intro y u hu
    subst hu
    refine H7 (e := 155) (k := 4) (v := u) (q := (newE k).length) (xs := (newE k).flatMap E3) (by (repeat constructor)) fun ua uc hu => ?_
    subst hu
    (have zz:=trivial;repeat((first|clear zz|with_reducible first|refine A3 ?_|refine A5 fun _=>?_|refine A4 fun _=>?_|refine T6 fun _=>?_|refine T0 (hK:=fun _=>?_)|refine T8 (hK:=fun _=>?_)|refine T2 (hK:=fun _=>?_)|refine T3 (hK:=fun _=>?_)|refine T7 (hK:=fun _=>?_));try simp(disch:=first|omega|assumption|((repeat(first|exact A1|exact uH|apply A2|apply uT));first|done|fail)|(simp;first|done|omega|fail))[]))
    refine W9 (e := 55) (k := 1) (q := i) (r := 1) (xs := ts.map (·.1)) (news := [.slice ua (newE k).length uc]) (by (repeat constructor)) (H3.own (by (repeat constructor))) (by decide) rfl (by simp) (by simp only [maxLen]; omega) (by omega) fun a' c' => ?_
    (have zz:=trivial;repeat((first|clear zz|with_reducible first|refine A3 ?_|refine A5 fun _=>?_|refine A4 fun _=>?_);try simp(disch:=first|omega|assumption|((repeat(first|exact A1|exact uH|apply A2|apply uT));first|done|fail)|(simp;first|done|omega|fail))[]))
    refine A1v (r := .slice ua (newE k).length uc) (l := newE k) (ts := ts) (by (repeat' constructor)) ?_
    have h := hL hlt ((ts ++ [(.slice ua (newE k).length uc, newE k)], a', c'), a1, c1) ⟨by simp [hlen], by rw [List.map_append, hmap, List.replicate_succ']; rfl⟩
    have hz : lz ++ [Value.int .i64 (-1)] = C1 (List.replicate (i + 1) (-1)) := by rw [hlz, List.replicate_succ']; simp [C1]
    simp only [List.map_append, List.map_cons, List.map_nil] at h
    rw [← hz] at h
    exact Sels.tw (by (repeat' constructor)) h
   ·obtain rfl : i = n := by omega
    (have zz:=trivial;repeat((first|clear zz|with_reducible first|refine A3 ?_|refine A5 fun _=>?_|refine A4 fun _=>?_);try simp(disch:=first|omega|assumption|((repeat(first|exact A1|exact uH|apply A2|apply uT));first|done|fail)|(simp;first|done|omega|fail))[Int.lt_irrefl]))
    refine G7 A7U (fun w' _ => C3s w' sn (by omega)) ?_
    rintro _ slv rfl
    refine H7 (e := 179) (k := 2) (v := slv) (q := (List.replicate sn noR).length) (xs := (List.replicate sn noR).flatMap S2) (by (repeat constructor)) fun sa sc hu => ?_
    subst hu
    (have zz:=trivial;repeat((first|clear zz|with_reducible first|refine A3 ?_|refine A5 fun _=>?_|refine A4 fun _=>?_);try simp(disch:=first|omega|assumption|((repeat(first|exact A1|exact uH|apply A2|apply uT));first|done|fail)|(simp;first|done|omega|fail))[]))
    refine G7 A6u (fun w' _ => C3u w' sn (by omega)) ?_
    rintro _ kev rfl
    refine H7 (e := 186) (k := 2) (v := kev) (q := (List.replicate sn ((0, 0) : Int × Int)).length) (xs := (List.replicate sn ((0, 0) : Int × Int)).flatMap W6) (by (repeat constructor)) fun ka kc hu => ?_
    subst hu
    (have zz:=trivial;repeat((first|clear zz|with_reducible first|refine A3 ?_|refine A5 fun _=>?_|refine A4 fun _=>?_);try simp(disch:=first|omega|assumption|((repeat(first|exact A1|exact uH|apply A2|apply uT));first|done|fail)|(simp;first|done|omega|fail))[]))
    refine B0 ⟨bm, .slice (some ⟨bp, 0, none⟩) (wn + 1) (wn + 1), .slice la i lc, .slice sa (List.replicate sn noR).length sc, .slice ka (List.replicate sn ((0, 0) : Int × Int)).length kc, .slice ya i yc, .slice (some ⟨bs, 0, none⟩) i i, ⟨wn, i, k, cid, sn⟩, 0, 0, List.replicate (wn + 1) 0, List.replicate i (-1), List.replicate sn noR, List.replicate sn (0, 0), ts, List.replicate i 0, 0⟩ ⟨rfl, rfl, rfl, rfl, rfl, rfl, rfl, rfl, hmap, rfl, rfl⟩ ?_
    simp only [D0, G5, H2, hlen, List.length_replicate, ← hlz]
    (repeat' constructor)
 ·intro J hJ
  have e2 : Int.toNat ((wn : Nat) + 1 : Int) = wn + 1 := by omega
  (have zz:=trivial;repeat((first|clear zz|with_reducible first|refine A3 ?_|refine A5 fun _=>?_|refine A4 fun _=>?_);try simp(disch:=first|omega|assumption|((repeat(first|exact A1|exact uH|apply A2|apply uT));first|done|fail)|(simp;first|done|omega|fail))[]))
  refine ⟨?_, ?_, fun _ _ => trivial⟩
  ·refine A0r (by omega) (by omega) (by omega) (by omega) fun bp => ?_
   rw [e2, B6S]
   (have zz:=trivial;repeat((first|clear zz|with_reducible first|refine A3 ?_|refine A5 fun _=>?_|refine A4 fun _=>?_);try simp(disch:=first|omega|assumption|((repeat(first|exact A1|exact uH|apply A2|apply uT));first|done|fail)|(simp;first|done|omega|fail))[]))
   rw [A9L (by (repeat constructor)) (by rfl)]
   refine A0r (by omega) (by omega) (by omega) (by omega) fun bs => ?_
   rw [Int.toNat_natCast, B7C, A9L (by (repeat constructor)) (by rfl)]
   (have zz:=trivial;repeat((first|clear zz|with_reducible first|refine A3 ?_|refine A5 fun _=>?_|refine A4 fun _=>?_);try simp(disch:=first|omega|assumption|((repeat(first|exact A1|exact uH|apply A2|apply uT));first|done|fail)|(simp;first|done|omega|fail))[]))
   rename_i bm
   exact Sels.tw (by simp only [B8m]; (repeat' constructor)) (hJ (bm, bp, bs) trivial)
  ·refine A0r (by omega) (by omega) (by omega) (by omega) fun bs => ?_
   rw [Int.toNat_natCast, B7C]
   (have zz:=trivial;repeat((first|clear zz|with_reducible first|refine A3 ?_|refine A5 fun _=>?_|refine A4 fun _=>?_);try simp(disch:=first|omega|assumption|((repeat(first|exact A1|exact uH|apply A2|apply uT));first|done|fail)|(simp;first|done|omega|fail))[]))
   rw [A9L (by (repeat constructor)) (by rfl)]
   rw [N1 (by omega) (by omega)]
   refine A0r (by omega) (by omega) (by omega) (by omega) fun bp => ?_
   rw [e2, B6S, A9L (by (repeat constructor)) (by rfl)]
   (have zz:=trivial;repeat((first|clear zz|with_reducible first|refine A3 ?_|refine A5 fun _=>?_|refine A4 fun _=>?_);try simp(disch:=first|omega|assumption|((repeat(first|exact A1|exact uH|apply A2|apply uT));first|done|fail)|(simp;first|done|omega|fail))[]))
   rename_i bm
   exact Sels.tw (by simp only [B8m]; (repeat' constructor)) (hJ (bm, bp, bs) trivial)
end Go.Proofs.YtpnidmkaobfhiaaGreat
namespace Go.Proofs.YtpnidmkaobfhiaaGreat
open Go
abbrev p8 (l : List Q7) : List SlV := l.map (·.1)
def Y1 (n : Nat) (i : Int) : Bool := decide (0 ≤ i) && decide (i < n)
def s7 (l : List Q7) (i : Int) (x : Q7) : List Q7 := if 0 ≤ i ∧ i < l.length then l.set i.toNat x else l
theorem A58 (l : List Q7) (i : Int) (x : Q7) : (s7 l i x).length = l.length := by unfold s7; split <;> simp
def rsA (x : Q7) : Value := match x.1 with
 | .no => .agg #[.int .i64 0, .slice none 0 0]
 | .bld => .agg #[.int .i64 1, .slice none 0 0]
 | .rdy _ => .agg #[.int .i64 2, rsP x]
theorem B1C (w : World) (a : Option Addr) (n c : Nat) (i : Int) : Fn PR B6 79 #[.slice a n c, .int .i64 i] w (fun u w' => u = .bool (Y1 n i) ∧ D6 [] w w') := by
 refine Fn.pure (A8q (TW.go (κ := false) (S := []) ?_))
 unfold A2V
 by_cases c1 : 0 ≤ i
 ·(have zz:=trivial;repeat((first|clear zz|with_reducible first|refine A3 ?_|refine A5 fun _=>?_|refine A4 fun _=>?_);try simp(disch:=first|omega|assumption|((repeat(first|exact A1|exact uH|apply A2|apply uT));first|done|fail)|(simp;first|done|omega|fail))[c1]))
  exact B4 (by simp [Y1, c1])
 ·(have zz:=trivial;repeat((first|clear zz|with_reducible first|refine A3 ?_|refine A5 fun _=>?_|refine A4 fun _=>?_);try simp(disch:=first|omega|assumption|((repeat(first|exact A1|exact uH|apply A2|apply uT));first|done|fail)|(simp;first|done|omega|fail))[c1]))
  exact B4 (by simp [Y1, c1])
theorem C2F (l : List Q7) : (l.flatMap S2).all plain = true := by
 rw [List.all_flatMap, List.all_eq_true]
 rintro ⟨y1, y2⟩ hy
 cases y1 <;> rfl
theorem B0c (w : World) (v : Value) (l : List Q7) (i : Nat) (x : Q7) (hn : l.length ≤ 8) (hi : i < l.length) (hv : D2 w v l.length (l.flatMap S2)) :
  Fn PR B6 80 #[v, .int .i64 (i : Nat), rsA x] w (Rn [] w (fun r u => u = r) fun r => [.own 179 2 r (l.set i x).length ((l.set i x).flatMap S2)]) := by
 refine A6s (TW.go (κ := false) (S := []) ?_)
 unfold A04
 obtain ⟨a, c, rfl, _⟩ := hv.form
 obtain ⟨s, pa, pn, pc, hs⟩ : ∃ s a n c, rsA x = .agg #[.int .i64 s, .slice a n c] ∧ S2 x = [.int .i64 s, .slice a n c] := by
  obtain ⟨x1, x2⟩ := x
  cases x1
  ·exact ⟨0, _, _, _, rfl, rfl⟩
  ·exact ⟨1, _, _, _, rfl, rfl⟩
  ·exact ⟨2, _, _, _, rfl, rfl⟩
 rw [hs.1]
 (have zz:=trivial;repeat((first|clear zz|with_reducible first|refine A3 ?_|refine A5 fun _=>?_|refine A4 fun _=>?_|refine T6 fun _=>?_|refine T0 (hK:=fun _=>?_)|refine T8 (hK:=fun _=>?_)|refine T2 (hK:=fun _=>?_)|refine T3 (hK:=fun _=>?_)|refine T7 (hK:=fun _=>?_));try simp(disch:=first|omega|assumption|((repeat(first|exact A1|exact uH|apply A2|apply uT));first|done|fail)|(simp;first|done|omega|fail))[]))
 refine W9 (e := 179) (k := 2) (q := 0) (r := l.length) (xs := []) (news := l.flatMap S2) (by (repeat constructor)) (fun w' hw' => hv.ks hw'.ks (by simp)) (by decide) (P0 A0P l) (C2F l) (by simp only [maxLen]; omega) (by omega) fun a' c' => ?_
 rw [List.nil_append, Nat.zero_add]
 refine P8 (e := 179) (k := 2) (v := .slice a' l.length c') (q := l.length) (xs := l.flatMap S2) (by (repeat constructor)) (by omega) fun g gc hg => ?_
 cases hg
 (have zz:=trivial;repeat((first|clear zz|with_reducible first|refine A3 ?_|refine A5 fun _=>?_|refine A4 fun _=>?_);try simp(disch:=first|omega|assumption|((repeat(first|exact A1|exact uH|apply A2|apply uT));first|done|fail)|(simp;first|done|omega|fail))[hi]))
 refine N0 (by (repeat constructor)) (by simp) (by rw [P0 A0P]; show i * 2 + 2 ≤ _; omega) (by simp) ?_
 refine B0 _ rfl ?_
 have := A6E (f := S2) (k := 2) A0P l i x hi
 rw [List.length_set, ← this, hs.2]
 (repeat' constructor)
theorem Q7.cell {w : World} {a : Option Addr} {c : Nat} {l : List Q7} (hv : D2 w (.slice a l.length c) l.length (l.flatMap S2)) {i : Nat} (hi : i < l.length) : ∃ b o, a = some ⟨b, o, none⟩ ∧ w.cell? ⟨b, o + i * 2, none⟩ = (S2 l[i])[0]? ∧ w.cell? ⟨b, o + i * 2 + 1, none⟩ = (S2 l[i])[1]? := by
 rcases hv with ⟨h0, _⟩ | ⟨b, o, c', e, hr⟩
 ·omega
 cases e
 have h0 := m0 A0P l i 0 (by omega)
 have h1 := m0 A0P l i 1 (by omega)
 rw [List.getElem?_eq_getElem hi] at h0 h1
 have hc := A0P l[i]
 simp only [Option.bind_some] at h0 h1
 refine ⟨b, o, rfl, ?_, ?_⟩
 ·obtain ⟨v, hv⟩ : ∃ v, (S2 l[i])[0]? = some v := ⟨_, List.getElem?_eq_getElem (show _ < (S2 l[i]).length by rw [A0P]; omega)⟩
  rw [hv] at h0 ⊢
  exact hr.get h0
 ·obtain ⟨v, hv⟩ : ∃ v, (S2 l[i])[1]? = some v := ⟨_, List.getElem?_eq_getElem (show _ < (S2 l[i]).length by rw [A0P]; omega)⟩
  rw [hv] at h1 ⊢
  have := hr.get h1
  rwa [← Nat.add_assoc] at this
def L7 (l : List Q7) (i : Int) : List Q7 := s7 l i (.bld, none, 0, 0)
def S9 (l : List Q7) (i : Int) : List Q7 := s7 l i noR
def B1u (l : List Q7) (i : Int) : Bool := match N4 (p8 l) i with | .bld => true | _ => false
def flR (l : List Q7) (i : Int) (p : List G8) : Bool := B1u l i && decide (G2 p = 0)
def S6 (l : List Q7) (i : Int) (p : List G8) (x : Option Addr × Nat × Nat) : List Q7 := if flR l i p then s7 l i (.rdy p, x) else l
theorem B6x {l : List Q7} {k : Nat} (h : k < l.length) : N4 (p8 l) (k : Nat) = l[k].1 := by
 unfold N4 p8
 rw [if_pos (by simp only [List.length_map]; omega), Int.toNat_natCast, List.getD_eq_getElem?_getD, List.getElem?_map, List.getElem?_eq_getElem h]; rfl
theorem B2z (w : World) (v : Value) (l : List Q7) (i : Int) (hn : l.length ≤ 8) (hv : D2 w v l.length (l.flatMap S2)) :
  Fn PR B6 48 #[v, .int .i64 i] w (Rn [] w (fun r u => u = .tuple #[if Y1 l.length i then r else v, .bool (Y1 l.length i)]) fun r => if Y1 l.length i then [.own 179 2 r (L7 l i).length ((L7 l i).flatMap S2)] else []) := by
 refine A5m (TW.go (κ := false) (S := []) ?_)
 unfold A0V
 obtain ⟨a, c, rfl, _⟩ := hv.form
 (have zz:=trivial;repeat((first|clear zz|with_reducible first|refine A3 ?_|refine A5 fun _=>?_|refine A4 fun _=>?_);try simp(disch:=first|omega|assumption|((repeat(first|exact A1|exact uH|apply A2|apply uT));first|done|fail)|(simp;first|done|omega|fail))[]))
 refine D4 Y7 (fun w' _ => B1C w' a l.length c i) ?_
 cases hi : Y1 l.length i with
 | false =>
  (have zz:=trivial;repeat((first|clear zz|with_reducible first|refine A3 ?_|refine A5 fun _=>?_|refine A4 fun _=>?_);try simp(disch:=first|omega|assumption|((repeat(first|exact A1|exact uH|apply A2|apply uT));first|done|fail)|(simp;first|done|omega|fail))[]))
  exact B0 (.slice a l.length c) (by simp) Sels.nil
 | true =>
  obtain ⟨k, rfl⟩ : ∃ k : Nat, i = k := ⟨i.toNat, by simp [Y1] at hi; omega⟩
  have hk : k < l.length := by simp [Y1] at hi; exact hi
  have e : L7 l k = l.set k (.bld, none, 0, 0) := by unfold L7 s7; rw [if_pos (by omega)]; rfl
  rw [e]
  (have zz:=trivial;repeat((first|clear zz|with_reducible first|refine A3 ?_|refine A5 fun _=>?_|refine A4 fun _=>?_);try simp(disch:=first|omega|assumption|((repeat(first|exact A1|exact uH|apply A2|apply uT));first|done|fail)|(simp;first|done|omega|fail))[]))
  refine G7 g6 (fun w' hw' => B0c w' _ l k (.bld, none, 0, 0) hn hk (hv.ks hw'.ks (by simp))) ?_
  rintro _ r rfl
  (have zz:=trivial;repeat((first|clear zz|with_reducible first|refine A3 ?_|refine A5 fun _=>?_|refine A4 fun _=>?_);try simp(disch:=first|omega|assumption|((repeat(first|exact A1|exact uH|apply A2|apply uT));first|done|fail)|(simp;first|done|omega|fail))[]))
  exact B0 r (by simp) (Sels.cons Sel.here Sels.nil)
theorem B29 (w : World) (v : Value) (l : List Q7) (i : Int) (hn : l.length ≤ 8) (hv : D2 w v l.length (l.flatMap S2)) :
  Fn PR B6 51 #[v, .int .i64 i] w (Rn [] w (fun r u => u = .tuple #[if Y1 l.length i then r else v, .bool (Y1 l.length i)]) fun r => if Y1 l.length i then [.own 179 2 r (S9 l i).length ((S9 l i).flatMap S2)] else []) := by
 refine A5e (TW.go (κ := false) (S := []) ?_)
 unfold A0e
 obtain ⟨a, c, rfl, _⟩ := hv.form
 (have zz:=trivial;repeat((first|clear zz|with_reducible first|refine A3 ?_|refine A5 fun _=>?_|refine A4 fun _=>?_);try simp(disch:=first|omega|assumption|((repeat(first|exact A1|exact uH|apply A2|apply uT));first|done|fail)|(simp;first|done|omega|fail))[]))
 refine D4 Y7 (fun w' _ => B1C w' a l.length c i) ?_
 cases hi : Y1 l.length i with
 | false =>
  (have zz:=trivial;repeat((first|clear zz|with_reducible first|refine A3 ?_|refine A5 fun _=>?_|refine A4 fun _=>?_);try simp(disch:=first|omega|assumption|((repeat(first|exact A1|exact uH|apply A2|apply uT));first|done|fail)|(simp;first|done|omega|fail))[]))
  exact B0 (.slice a l.length c) (by simp) Sels.nil
 | true =>
  obtain ⟨k, rfl⟩ : ∃ k : Nat, i = k := ⟨i.toNat, by simp [Y1] at hi; omega⟩
  have hk : k < l.length := by simp [Y1] at hi; exact hi
  have e : S9 l k = l.set k noR := by unfold S9 s7; rw [if_pos (by omega)]; rfl
  rw [e]
  (have zz:=trivial;repeat((first|clear zz|with_reducible first|refine A3 ?_|refine A5 fun _=>?_|refine A4 fun _=>?_);try simp(disch:=first|omega|assumption|((repeat(first|exact A1|exact uH|apply A2|apply uT));first|done|fail)|(simp;first|done|omega|fail))[]))
  refine G7 g6 (fun w' hw' => B0c w' _ l k noR hn hk (hv.ks hw'.ks (by simp))) ?_
  rintro _ r rfl
  (have zz:=trivial;repeat((first|clear zz|with_reducible first|refine A3 ?_|refine A5 fun _=>?_|refine A4 fun _=>?_);try simp(disch:=first|omega|assumption|((repeat(first|exact A1|exact uH|apply A2|apply uT));first|done|fail)|(simp;first|done|omega|fail))[]))
  exact B0 r (by simp) (Sels.cons Sel.here Sels.nil)
theorem B4K (w : World) (v : Value) (l : List Q7) (i : Int) (p : List G8) (pa : Option Addr) (pc : Nat) (hn : l.length ≤ 8) (hp : p.length ≤ 1000000) (hv : D2 w v l.length (l.flatMap S2)) (hpv : D2 w (.slice pa p.length pc) p.length (p.flatMap E6)) :
  Fn PR B6 49 #[v, .int .i64 i, .slice pa p.length pc] w (Rn [] w (fun r u => u = .tuple #[if flR l i p then r else v, .bool (flR l i p)]) fun r => if flR l i p then [.own 179 2 r (S6 l i p (pa, p.length, pc)).length ((S6 l i p (pa, p.length, pc)).flatMap S2)] else []) := by
 refine A6z (TW.go (κ := false) (S := []) ?_)
 unfold A1C
 obtain ⟨a, c, rfl, _⟩ := hv.form
 (have zz:=trivial;repeat((first|clear zz|with_reducible first|refine A3 ?_|refine A5 fun _=>?_|refine A4 fun _=>?_);try simp(disch:=first|omega|assumption|((repeat(first|exact A1|exact uH|apply A2|apply uT));first|done|fail)|(simp;first|done|omega|fail))[]))
 refine D4 Y7 (fun w' _ => B1C w' a l.length c i) ?_
 cases hi : Y1 l.length i with
 | false =>
  have hb : flR l i p = false := by unfold flR B1u N4; rw [if_neg (by simp [Y1] at hi; simp; omega)]; rfl
  rw [hb]
  (have zz:=trivial;repeat((first|clear zz|with_reducible first|refine A3 ?_|refine A5 fun _=>?_|refine A4 fun _=>?_);try simp(disch:=first|omega|assumption|((repeat(first|exact A1|exact uH|apply A2|apply uT));first|done|fail)|(simp;first|done|omega|fail))[]))
  exact B0 (.slice a l.length c) rfl Sels.nil
 | true =>
  obtain ⟨k, rfl⟩ : ∃ k : Nat, i = k := ⟨i.toNat, by simp [Y1] at hi; omega⟩
  have hk : k < l.length := by simp [Y1] at hi; exact hi
  have hk' : ¬ l.length ≤ k := by omega
  obtain ⟨b, o, rfl, h0, _⟩ := Q7.cell hv hk
  have hgs := B6x hk
  obtain ⟨⟨x1, x2⟩, hlk⟩ : ∃ x, x = l[k] := ⟨_, rfl⟩
  rw [← hlk] at h0 hgs
  cases x1 with
  | no =>
   have hb : flR l k p = false := by unfold flR B1u; rw [hgs]; rfl
   have h0' : w.cell? ⟨b, o + k * 2, none⟩ = some (.int .i64 0) := h0
   rw [hb]
   (have zz:=trivial;repeat((first|clear zz|with_reducible first|refine A3 ?_|refine A5 fun _=>?_|refine A4 fun _=>?_);try simp(disch:=first|omega|assumption|((repeat(first|exact A1|exact uH|apply A2|apply uT));first|done|fail)|(simp;first|done|omega|fail))[h0', hk, hk']))
   exact B0 (.slice none 0 0) rfl Sels.nil
  | rdy q =>
   have hb : flR l k p = false := by unfold flR B1u; rw [hgs]; rfl
   have h0' : w.cell? ⟨b, o + k * 2, none⟩ = some (.int .i64 2) := h0
   rw [hb]
   (have zz:=trivial;repeat((first|clear zz|with_reducible first|refine A3 ?_|refine A5 fun _=>?_|refine A4 fun _=>?_);try simp(disch:=first|omega|assumption|((repeat(first|exact A1|exact uH|apply A2|apply uT));first|done|fail)|(simp;first|done|omega|fail))[h0', hk, hk']))
   exact B0 (.slice none 0 0) rfl Sels.nil
  | bld =>
   have h0' : w.cell? ⟨b, o + k * 2, none⟩ = some (.int .i64 1) := h0
   (have zz:=trivial;repeat((first|clear zz|with_reducible first|refine A3 ?_|refine A5 fun _=>?_|refine A4 fun _=>?_);try simp(disch:=first|omega|assumption|((repeat(first|exact A1|exact uH|apply A2|apply uT));first|done|fail)|(simp;first|done|omega|fail))[h0', hk, hk']))
   refine D4 F5 (fun w' hw' => q5 w' _ p hp (hpv.ks hw'.ks (by simp))) ?_
   by_cases hc : G2 p = 0
   ·have hb : flR l k p = true := by unfold flR B1u; rw [hgs, decide_eq_true hc]; rfl
    have e : S6 l k p (pa, p.length, pc) = l.set k (.rdy p, pa, p.length, pc) := by unfold S6 s7; rw [hb, if_pos rfl, if_pos (by omega)]; rfl
    rw [hb, e, hc]
    (have zz:=trivial;repeat((first|clear zz|with_reducible first|refine A3 ?_|refine A5 fun _=>?_|refine A4 fun _=>?_);try simp(disch:=first|omega|assumption|((repeat(first|exact A1|exact uH|apply A2|apply uT));first|done|fail)|(simp;first|done|omega|fail))[]))
    refine G7 g6 (fun w' hw' => B0c w' _ l k (.rdy p, pa, p.length, pc) hn hk (hv.ks hw'.ks (by simp))) ?_
    rintro _ r rfl
    (have zz:=trivial;repeat((first|clear zz|with_reducible first|refine A3 ?_|refine A5 fun _=>?_|refine A4 fun _=>?_);try simp(disch:=first|omega|assumption|((repeat(first|exact A1|exact uH|apply A2|apply uT));first|done|fail)|(simp;first|done|omega|fail))[]))
    exact B0 r rfl (Sels.cons Sel.here Sels.nil)
   ·have hb : flR l k p = false := by unfold flR B1u; rw [hgs, decide_eq_false hc]; rfl
    rw [hb]
    (have zz:=trivial;repeat((first|clear zz|with_reducible first|refine A3 ?_|refine A5 fun _=>?_|refine A4 fun _=>?_);try simp(disch:=first|omega|assumption|((repeat(first|exact A1|exact uH|apply A2|apply uT));first|done|fail)|(simp;first|done|omega|fail))[hc]))
    exact B0 (.slice none 0 0) rfl Sels.nil
end Go.Proofs.YtpnidmkaobfhiaaGreat
namespace Go.Proofs.YtpnidmkaobfhiaaGreat
open Go
def A3W (X : Nat → Prop) (t0 t1 : Value) (R : Value → WP) : WP :=
 B9 PR X (Instr.box 38 t1) fun t3 =>
 A0 PR (Instr.build 91 #[(0, t0)]) fun t7 =>
 B9 PR X (Instr.alloc 91 true (.tuple #[])) fun t5 =>
 C2 PR X (Instr.storeAt 91 t5 t7) <|
 jn (n := 1) (fun t4 =>
 A6 PR (Instr.loadAt 91 t5) fun t38 =>
 A0 PR (Instr.build 106 #[(0, t38)]) fun t39 =>
 B9 PR X (Instr.box 106 t39) fun t40 =>
 A0 PR (Instr.makeInterface 105 t40) fun t41 =>
 A0 PR (Instr.build 98 #[(0, t41)]) fun t42 =>
 B9 PR X (Instr.box 98 t42) fun t43 =>
 R t43) fun J1 =>
 A0 PR (Instr.fieldAt 38 t3 0) fun t8 =>
 A6 PR (Instr.loadAt 3 t8) fun t9 =>
 A0 PR (binOp .eql 3 t9 (.int .i64 1)) fun t11 =>
 B7 t11 (
 A6 PR (Instr.loadAt 91 t5) fun t12 =>
 A0 PR (Instr.fieldAt 38 t3 2) fun t13 =>
 A6 PR (Instr.loadAt 36 t13) fun t14 =>
 A0 PR (Instr.build 94 #[(0, t12), (1, t14)]) fun t15 =>
 B9 PR X (Instr.box 94 t15) fun t16 =>
 A0 PR (Instr.makeInterface 92 t16) fun t17 =>
 A0 PR (Instr.build 98 #[(0, t17)]) fun t18 =>
 B9 PR X (Instr.box 98 t18) fun t19 =>
 R t19) (
 A0 PR (binOp .eql 3 t9 (.int .i64 2)) fun t21 =>
 B7 t21 (
 A6 PR (Instr.loadAt 91 t5) fun t22 =>
 A0 PR (Instr.fieldAt 38 t3 3) fun t23 =>
 A6 PR (Instr.loadAt 3 t23) fun t24 =>
 A0 PR (Instr.build 101 #[(0, t22), (1, t24)]) fun t25 =>
 B9 PR X (Instr.box 101 t25) fun t26 =>
 A0 PR (Instr.makeInterface 99 t26) fun t27 =>
 A0 PR (Instr.build 98 #[(0, t27)]) fun t28 =>
 B9 PR X (Instr.box 98 t28) fun t29 =>
 R t29) (
 A0 PR (binOp .eql 3 t9 (.int .i64 3)) fun t31 =>
 B7 t31 (
 A6 PR (Instr.loadAt 91 t5) fun t32 =>
 A0 PR (Instr.build 104 #[(0, t32)]) fun t33 =>
 B9 PR X (Instr.box 104 t33) fun t34 =>
 A0 PR (Instr.makeInterface 102 t34) fun t35 =>
 A0 PR (Instr.build 98 #[(0, t35)]) fun t36 =>
 B9 PR X (Instr.box 98 t36) fun t37 =>
 R t37) (
 J1 (.pointer none))))
theorem x5 : B2 PR 10 := A7 Tryz.func10 (by kernel_rfl) rfl
theorem A7y {X : Nat → Prop} {t0 t1 : Value} {R : Value → WP} {w : World} (h : A3W X t0 t1 R w) : Fn PR X 10 #[t0, t1] w R := C9 (args := [t0, t1]) mixed Tryz.func10 (by kernel_rfl) h
def A2w (X : Nat → Prop) (t0 t1 : Value) (R : Value → WP) : WP :=
 B3 PR X 19 [t0] fun t6 =>
 A0 PR (binOp .neq 3 t6 (.int .i64 (-1))) fun t7 =>
 gj t7 true (fun J => J t0) fun t9 =>
 gj t7 true (fun J => A0 PR (A9 t9) J) fun t10 =>
 gj t7 true (fun J => A0 PR (Instr.fieldAt 98 t10 0) J) fun t11 =>
 gj t7 true (fun J => A6 PR (Instr.loadAt 96 t11) J) fun t12 =>
 gj t7 true (fun J => J t1) fun t13 =>
 gj t7 true (fun J => inv PR X t12 "gangplank/control.waits" [t13] J) fun t14 =>
 gj t7 true (fun J => A0 PR (Op.unary .not t14) J) fun t15 =>
 A0 PR (do pure (if ← asBool t7 then t15 else (.bool false))) fun t16 =>
 R t16
theorem Q3 : B2 PR 15 := A7 Tryz.func15 (by kernel_rfl) rfl
theorem A8c {X : Nat → Prop} {t0 t1 : Value} {R : Value → WP} {w : World} (h : A2w X t0 t1 R w) : Fn PR X 15 #[t0, t1] w R := C9 (args := [t0, t1]) mixed Tryz.func15 (by kernel_rfl) h
def w6 (X : Nat → Prop) (t0 t1 : Value) (R : Value → WP) : WP :=
 B9 PR X (Instr.alloc 49 true (.tuple #[])) fun t4 =>
 jn (n := 0) (
 A0 PR (A9 t0) fun t11 =>
 A0 PR (Instr.fieldAt 98 t11 0) fun t12 =>
 A6 PR (Instr.loadAt 96 t12) fun t13 =>
 inv PR X t13 "gangplank/control.step" [t1] fun t15 =>
 C2 PR X (Instr.storeAt 49 t4 t15) <|
 A6 PR (F1 [.c 49 t4]) R) fun J1 =>
 B3 PR X 15 [t0, t1] fun t7 =>
 A0 PR (Op.unary .not t7) fun t8 =>
 B7 t8 (
 A0 PR (Instr.build 49 #[]) fun t9 =>
 C2 PR X (Instr.storeAt 49 t4 t9) <|
 A6 PR (F1 [.c 49 t4]) R) (
 J1)
theorem q9 : B2 PR 17 := A7 Tryz.func17 (by kernel_rfl) rfl
theorem A3P {X : Nat → Prop} {t0 t1 : Value} {R : Value → WP} {w : World} (h : w6 X t0 t1 R w) : Fn PR X 17 #[t0, t1] w R := C9 (args := [t0, t1]) mixed Tryz.func17 (by kernel_rfl) h
def A2f (X : Nat → Prop) (t0 : Value) (R : Value → WP) : WP :=
 A0 PR (A9 t0) fun t4 =>
 A0 PR (Instr.fieldAt 98 t4 0) fun t5 =>
 A6 PR (Instr.loadAt 96 t5) fun t6 =>
 inv PR X t6 "gangplank/control.common" [] fun t7 =>
 A0 PR (A9 t7) fun t8 =>
 A0 PR (Instr.fieldAt 91 t8 1) fun t9 =>
 A6 PR (Instr.loadAt 3 t9) fun t10 =>
 R t10
theorem m6 : B2 PR 19 := A7 Tryz.func19 (by kernel_rfl) rfl
theorem A82 {X : Nat → Prop} {t0 : Value} {R : Value → WP} {w : World} (h : A2f X t0 R w) : Fn PR X 19 #[t0] w R := C9 (args := [t0]) mixed Tryz.func19 (by kernel_rfl) h
def A14 (X : Nat → Prop) (t0 : Value) (R : Value → WP) : WP :=
 B9 PR X (Instr.alloc 57 true (.tuple #[])) fun t2 =>
 A0 PR (A9 t0) fun t4 =>
 A0 PR (Instr.fieldAt 98 t4 0) fun t5 =>
 A6 PR (Instr.loadAt 96 t5) fun t6 =>
 inv PR X t6 "gangplank/control.common" [] fun t7 =>
 A0 PR (A9 t7) fun t8 =>
 A0 PR (Instr.fieldAt 91 t8 2) fun t9 =>
 A6 PR (Instr.loadAt 57 t9) fun t10 =>
 C2 PR X (Instr.storeAt 57 t2 t10) <|
 A6 PR (F1 [.c 57 t2]) R
theorem l4 : B2 PR 20 := A7 Tryz.func20 (by kernel_rfl) rfl
theorem A70 {X : Nat → Prop} {t0 : Value} {R : Value → WP} {w : World} (h : A14 X t0 R w) : Fn PR X 20 #[t0] w R := C9 (args := [t0]) mixed Tryz.func20 (by kernel_rfl) h
def A0d (X : Nat → Prop) (t0 : Value) (R : Value → WP) : WP :=
 jn (n := 1) (fun t2 =>
 A0 PR (A9 t0) fun t10 =>
 A0 PR (Instr.fieldAt 94 t10 1) fun t11 =>
 A6 PR (Instr.loadAt 36 t11) fun t12 =>
 B3 PR X 77 [t12] fun t13 =>
 R t13) fun J1 =>
 A0 PR (A9 t0) fun t4 =>
 A0 PR (Instr.fieldAt 94 t4 0) fun t5 =>
 A0 PR (Instr.fieldAt 91 t5 0) fun t6 =>
 A6 PR (Instr.loadAt 3 t6) fun t7 =>
 A0 PR (binOp .neq 3 t7 (.int .i64 0)) fun t8 =>
 B7 t8 (
 R (.int .i64 1)) (
 J1 (.int .i64 0))
theorem x7 : B2 PR 234 := A7 Tryz.func234 (by kernel_rfl) rfl
theorem A5U {X : Nat → Prop} {t0 : Value} {R : Value → WP} {w : World} (h : A0d X t0 R w) : Fn PR X 234 #[t0] w R := C9 (args := [t0]) mixed Tryz.func234 (by kernel_rfl) h
def A1H (X : Nat → Prop) (t0 : Value) (R : Value → WP) : WP :=
 R t0
theorem A7P {X : Nat → Prop} {t0 : Value} {R : Value → WP} {w : World} (h : A1H X t0 R w) : Fn PR X 235 #[t0] w R := C9 (args := [t0]) mixed Tryz.func235 (by kernel_rfl) h
def A1E (X : Nat → Prop) (t0 t1 : Value) (R : Value → WP) : WP :=
 B9 PR X (Instr.alloc 49 true (.tuple #[])) fun t4 =>
 drw <|
 A0 PR (A9 t0) fun t9 =>
 A0 PR (Instr.fieldAt 94 t9 0) fun t10 =>
 A0 PR (Instr.fieldAt 91 t10 1) fun t11 =>
 A6 PR (Instr.loadAt 3 t11) fun t12 =>
 A0 PR (A9 t1) fun t14 =>
 A0 PR (Instr.fieldAt 74 t14 0) fun t15 =>
 A0 PR (Instr.fieldAt 23 t15 0) fun t16 =>
 A6 PR (Instr.loadAt 3 t16) fun t17 =>
 A0 PR (binOp .sub 3 t12 t17) fun t18 =>
 jn (n := 0) (
 A0 PR (A9 t0) fun t76 =>
 A0 PR (Instr.fieldAt 94 t76 0) fun t77 =>
 A0 PR (Instr.fieldAt 91 t77 1) fun t78 =>
 A6 PR (Instr.loadAt 3 t78) fun t79 =>
 A0 PR (binOp .add 3 t79 (.int .i64 1)) fun t80 =>
 A0 PR (A9 t0) fun t81 =>
 A0 PR (Instr.fieldAt 94 t81 0) fun t82 =>
 A0 PR (Instr.fieldAt 91 t82 1) fun t83 =>
 C2 PR X (Instr.storeAt 3 t83 t80) <|
 jn (n := 0) (
 A0 PR (Instr.build 49 #[]) fun t148 =>
 C2 PR X (Instr.storeAt 49 t4 t148) <|
 A6 PR (F1 [.c 49 t4]) R) fun J1 =>
 A0 PR (binOp .eql 3 t18 (.int .i64 1)) fun t111 =>
 B7 t111 (
 drw <|
 A0 PR (A9 t1) fun t113 =>
 A0 PR (Instr.fieldAt 74 t113 2) fun t114 =>
 A6 PR (Instr.loadAt 70 t114) fun t115 =>
 A0 PR (A9 t0) fun t117 =>
 A0 PR (Instr.fieldAt 94 t117 3) fun t118 =>
 A6 PR (Instr.loadAt 3 t118) fun t119 =>
 A0 PR (A9 t0) fun t121 =>
 A0 PR (Instr.fieldAt 94 t121 1) fun t122 =>
 A6 PR (Instr.loadAt 36 t122) fun t123 =>
 B3 PR X 47 [t115, t119, t123] fun t124 =>
 J1) (
 A0 PR (binOp .eql 3 t18 (.int .i64 2)) fun t126 =>
 B7 t126 (
 A0 PR (A9 t1) fun t129 =>
 A0 PR (Instr.fieldAt 74 t129 1) fun t130 =>
 A6 PR (Instr.loadAt 69 t130) fun t131 =>
 B3 PR X 25 [t131, (.int .i64 1)] fun t132 =>
 A0 PR (A9 t0) fun t133 =>
 A0 PR (Instr.fieldAt 94 t133 4) fun t134 =>
 C2 PR X (Instr.storeAt 3 t134 t132) <|
 J1) (
 A0 PR (binOp .eql 3 t18 (.int .i64 3)) fun t136 =>
 B7 t136 (
 drw <|
 A0 PR (A9 t1) fun t138 =>
 A0 PR (Instr.fieldAt 74 t138 1) fun t139 =>
 A6 PR (Instr.loadAt 69 t139) fun t140 =>
 A0 PR (A9 t0) fun t142 =>
 A0 PR (Instr.fieldAt 94 t142 3) fun t143 =>
 A6 PR (Instr.loadAt 3 t143) fun t144 =>
 A0 PR (binOp .add 3 t144 (.int .i64 1)) fun t145 =>
 B3 PR X 52 [t140, (.int .i64 1), t145] fun t146 =>
 A0 PR (Instr.build 49 #[(0, (.bool true))]) fun t147 =>
 C2 PR X (Instr.storeAt 49 t4 t147) <|
 A6 PR (F1 [.c 49 t4]) R) (
 jn (n := 0) (
 A0 PR (A9 t0) fun t107 =>
 A0 PR (Instr.fieldAt 94 t107 0) fun t108 =>
 B3 PR X 241 [t108] fun t109 =>
 C2 PR X (Instr.storeAt 49 t4 t109) <|
 A6 PR (F1 [.c 49 t4]) R) fun J2 =>
 A0 PR (A9 t1) fun t86 =>
 A0 PR (Instr.fieldAt 74 t86 1) fun t87 =>
 A6 PR (Instr.loadAt 69 t87) fun t88 =>
 B3 PR X 43 [t88, (.int .i64 0), (.int .i64 1)] fun t89 =>
 A0 PR (A9 t0) fun t91 =>
 A0 PR (Instr.fieldAt 94 t91 4) fun t92 =>
 A6 PR (Instr.loadAt 3 t92) fun t93 =>
 A0 PR (binOp .gtr 3 t93 (.int .i64 0)) fun t94 =>
 B7 t94 (
 drw <|
 A0 PR (A9 t1) fun t96 =>
 A0 PR (Instr.fieldAt 74 t96 3) fun t97 =>
 A6 PR (Instr.loadAt 71 t97) fun t98 =>
 A0 PR (A9 t0) fun t100 =>
 A0 PR (Instr.fieldAt 94 t100 4) fun t101 =>
 A6 PR (Instr.loadAt 3 t101) fun t102 =>
 A0 PR (binOp .sub 3 t102 (.int .i64 1)) fun t103 =>
 B3 PR X 240 [t98, t103, t89] fun t105 =>
 J2) (
 J2))))) fun J3 =>
 jn (n := 0) (
 jn (n := 0) (
 J3) fun J4 =>
 B3 PR X 239 [t0, t1] fun t74 =>
 C2 PR X (Instr.storeAt 49 t4 t74) <|
 A6 PR (F1 [.c 49 t4]) R) fun J5 =>
 jn (n := 0) (
 jn (n := 0) (
 J3) fun J6 =>
 A0 PR (A9 t0) fun t42 =>
 A0 PR (Instr.fieldAt 94 t42 0) fun t43 =>
 A0 PR (Instr.fieldAt 91 t43 1) fun t44 =>
 A6 PR (Instr.loadAt 3 t44) fun t45 =>
 A0 PR (binOp .add 3 t45 (.int .i64 1)) fun t46 =>
 A0 PR (A9 t0) fun t47 =>
 A0 PR (Instr.fieldAt 94 t47 0) fun t48 =>
 A0 PR (Instr.fieldAt 91 t48 1) fun t49 =>
 C2 PR X (Instr.storeAt 3 t49 t46) <|
 drw <|
 A0 PR (A9 t0) fun t52 =>
 A0 PR (Instr.fieldAt 94 t52 2) fun t53 =>
 A6 PR (Instr.loadAt 54 t53) fun t54 =>
 A0 PR (A9 t1) fun t56 =>
 A0 PR (Instr.fieldAt 74 t56 1) fun t57 =>
 A6 PR (Instr.loadAt 69 t57) fun t58 =>
 A0 PR (A9 t0) fun t61 =>
 A0 PR (Instr.fieldAt 94 t61 0) fun t62 =>
 A0 PR (Instr.fieldAt 91 t62 1) fun t63 =>
 A6 PR (Instr.loadAt 3 t63) fun t64 =>
 B3 PR X 87 [t1, t64] fun t65 =>
 watch PR [(none, (Instr.loadAt 69 t57), t58), (none, (Instr.loadAt 54 t53), t54)] <|
 B3 PR X 25 [t58, t65] fun t66 =>
 watch PR [(none, (Instr.loadAt 54 t53), t54)] <|
 B9 PR X (Instr.buildSlice 54 1 #[(0, t66)]) fun t67 =>
 watch PR [(none, (Instr.loadAt 54 t53), t54)] <|
 B9 PR X (A8 .append #[54, 54] 54 [t54, t67]) fun t68 =>
 A0 PR (A9 t0) fun t69 =>
 A0 PR (Instr.fieldAt 94 t69 2) fun t70 =>
 C2 PR X (Instr.storeAt 54 t70 t68) <|
 A0 PR (Instr.build 49 #[]) fun t71 =>
 C2 PR X (Instr.storeAt 49 t4 t71) <|
 A6 PR (F1 [.c 49 t4]) R) fun J7 =>
 jn (n := 0) (
 B3 PR X 234 [t0] fun t33 =>
 A0 PR (binOp .neq 31 t33 (.int .i64 0)) fun t35 =>
 B7 t35 (
 A0 PR (A9 t0) fun t37 =>
 A0 PR (Instr.fieldAt 94 t37 0) fun t38 =>
 B3 PR X 238 [t38, t33] fun t40 =>
 C2 PR X (Instr.storeAt 49 t4 t40) <|
 A6 PR (F1 [.c 49 t4]) R) (
 J7)) fun J8 =>
 jn (n := 0) (
 J3) fun J9 =>
 jn (n := 0) (
 jn (n := 0) (
 A0 PR (binOp .eql 3 t18 (.int .i64 0)) fun t31 =>
 B7 t31 (
 J5) (
 J9)) fun J10 =>
 A0 PR (binOp .lss 3 t18 (.int .i64 0)) fun t28 =>
 B7 t28 (
 J7) (
 J10)) fun J11 =>
 A0 PR (A9 t0) fun t21 =>
 A0 PR (Instr.fieldAt 94 t21 0) fun t22 =>
 A0 PR (Instr.fieldAt 91 t22 1) fun t23 =>
 A6 PR (Instr.loadAt 3 t23) fun t24 =>
 A0 PR (binOp .eql 3 t24 (.int .i64 0)) fun t25 =>
 B7 t25 (
 J8) (
 J11)
theorem A7F {X : Nat → Prop} {t0 t1 : Value} {R : Value → WP} {w : World} (h : A1E X t0 t1 R w) : Fn PR X 236 #[t0, t1] w R := C9 (args := [t0, t1]) mixed Tryz.func236 (by kernel_rfl) h
def A0k (X : Nat → Prop) (t0 t1 : Value) (R : Value → WP) : WP :=
 R (.bool false)
theorem A5g {X : Nat → Prop} {t0 t1 : Value} {R : Value → WP} {w : World} (h : A0k X t0 t1 R w) : Fn PR X 237 #[t0, t1] w R := C9 (args := [t0, t1]) mixed Tryz.func237 (by kernel_rfl) h
def A06 (X : Nat → Prop) (t0 t1 : Value) (R : Value → WP) : WP :=
 B9 PR X (Instr.alloc 49 true (.tuple #[])) fun t4 =>
 A0 PR (Instr.build 57 #[(0, t1)]) fun t8 =>
 A0 PR (A9 t0) fun t9 =>
 A0 PR (Instr.fieldAt 91 t9 1) fun t10 =>
 C2 PR X (Instr.storeAt 3 t10 (.int .i64 (-1))) <|
 A0 PR (A9 t0) fun t11 =>
 A0 PR (Instr.fieldAt 91 t11 2) fun t12 =>
 C2 PR X (Instr.storeAt 57 t12 t8) <|
 A0 PR (Instr.build 49 #[(0, (.bool true)), (1, (.bool true))]) fun t13 =>
 C2 PR X (Instr.storeAt 49 t4 t13) <|
 A6 PR (F1 [.c 49 t4]) R
theorem S1 : B2 PR 238 := A7 Tryz.func238 (by kernel_rfl) rfl
theorem A7B {X : Nat → Prop} {t0 t1 : Value} {R : Value → WP} {w : World} (h : A06 X t0 t1 R w) : Fn PR X 238 #[t0, t1] w R := C9 (args := [t0, t1]) mixed Tryz.func238 (by kernel_rfl) h
def A02 (X : Nat → Prop) (t0 t1 : Value) (R : Value → WP) : WP :=
 B9 PR X (Instr.alloc 49 true (.tuple #[])) fun t4 =>
 jn (n := 0) (
 A0 PR (A9 t1) fun t32 =>
 A0 PR (Instr.fieldAt 74 t32 3) fun t33 =>
 A6 PR (Instr.loadAt 71 t33) fun t34 =>
 B3 PR X 233 [t34] fun t35 =>
 A0 PR (A9 t0) fun t36 =>
 A0 PR (Instr.fieldAt 94 t36 3) fun t37 =>
 C2 PR X (Instr.storeAt 3 t37 t35) <|
 jn (n := 0) (
 drw <|
 A0 PR (A9 t1) fun t48 =>
 A0 PR (Instr.fieldAt 74 t48 2) fun t49 =>
 A6 PR (Instr.loadAt 70 t49) fun t50 =>
 A0 PR (A9 t0) fun t52 =>
 A0 PR (Instr.fieldAt 94 t52 3) fun t53 =>
 A6 PR (Instr.loadAt 3 t53) fun t54 =>
 B3 PR X 46 [t50, t54] fun t55 =>
 A0 PR (A9 t0) fun t57 =>
 A0 PR (Instr.fieldAt 94 t57 0) fun t58 =>
 A0 PR (Instr.fieldAt 91 t58 1) fun t59 =>
 A6 PR (Instr.loadAt 3 t59) fun t60 =>
 A0 PR (binOp .add 3 t60 (.int .i64 1)) fun t61 =>
 A0 PR (A9 t0) fun t62 =>
 A0 PR (Instr.fieldAt 94 t62 0) fun t63 =>
 A0 PR (Instr.fieldAt 91 t63 1) fun t64 =>
 C2 PR X (Instr.storeAt 3 t64 t61) <|
 A0 PR (Instr.build 49 #[]) fun t65 =>
 C2 PR X (Instr.storeAt 49 t4 t65) <|
 A6 PR (F1 [.c 49 t4]) R) fun J1 =>
 A0 PR (A9 t0) fun t39 =>
 A0 PR (Instr.fieldAt 94 t39 3) fun t40 =>
 A6 PR (Instr.loadAt 3 t40) fun t41 =>
 A0 PR (binOp .lss 3 t41 (.int .i64 0)) fun t42 =>
 B7 t42 (
 A0 PR (A9 t0) fun t44 =>
 A0 PR (Instr.fieldAt 94 t44 0) fun t45 =>
 B3 PR X 238 [t45, (.int .i64 13)] fun t46 =>
 C2 PR X (Instr.storeAt 49 t4 t46) <|
 A6 PR (F1 [.c 49 t4]) R) (
 J1)) fun J2 =>
 drw <|
 A0 PR (A9 t1) fun t7 =>
 A0 PR (Instr.fieldAt 74 t7 3) fun t8 =>
 A6 PR (Instr.loadAt 71 t8) fun t9 =>
 A0 PR (A9 t0) fun t11 =>
 A0 PR (Instr.fieldAt 94 t11 2) fun t12 =>
 A6 PR (Instr.loadAt 54 t12) fun t13 =>
 B3 PR X 242 [t9, t13] fun t14 =>
 A0 PR (binOp .geq 3 t14 (.int .i64 0)) fun t16 =>
 B7 t16 (
 A0 PR (A9 t1) fun t18 =>
 A0 PR (Instr.fieldAt 74 t18 2) fun t19 =>
 A6 PR (Instr.loadAt 70 t19) fun t20 =>
 B3 PR X 50 [t20, t14] fun t22 =>
 A0 PR (A9 t1) fun t24 =>
 A0 PR (Instr.fieldAt 74 t24 3) fun t25 =>
 A6 PR (Instr.loadAt 71 t25) fun t26 =>
 B3 PR X 243 [t26, t14] fun t28 =>
 A0 PR (Instr.build 49 #[]) fun t29 =>
 C2 PR X (Instr.storeAt 49 t4 t29) <|
 A6 PR (F1 [.c 49 t4]) R) (
 J2)
theorem A5b : B2 PR 239 := A7 Tryz.func239 (by kernel_rfl) rfl
theorem A7E {X : Nat → Prop} {t0 t1 : Value} {R : Value → WP} {w : World} (h : A02 X t0 t1 R w) : Fn PR X 239 #[t0, t1] w R := C9 (args := [t0, t1]) mixed Tryz.func239 (by kernel_rfl) h
def A1P (X : Nat → Prop) (t0 : Value) (R : Value → WP) : WP :=
 B9 PR X (Instr.alloc 49 true (.tuple #[])) fun t2 =>
 A0 PR (A9 t0) fun t4 =>
 A0 PR (Instr.fieldAt 91 t4 1) fun t5 =>
 C2 PR X (Instr.storeAt 3 t5 (.int .i64 (-1))) <|
 A0 PR (Instr.build 49 #[(1, (.bool true))]) fun t6 =>
 C2 PR X (Instr.storeAt 49 t2 t6) <|
 A6 PR (F1 [.c 49 t2]) R
theorem W1 : B2 PR 241 := A7 Tryz.func241 (by kernel_rfl) rfl
theorem A68 {X : Nat → Prop} {t0 : Value} {R : Value → WP} {w : World} (h : A1P X t0 R w) : Fn PR X 241 #[t0] w R := C9 (args := [t0]) mixed Tryz.func241 (by kernel_rfl) h
def A1Q (X : Nat → Prop) (t0 t1 : Value) (R : Value → WP) : WP :=
 B9 PR X (Instr.alloc 49 true (.tuple #[])) fun t4 =>
 jn (n := 0) (
 A0 PR (A9 t0) fun t28 =>
 A0 PR (Instr.fieldAt 101 t28 0) fun t29 =>
 A0 PR (Instr.fieldAt 91 t29 1) fun t30 =>
 A6 PR (Instr.loadAt 3 t30) fun t31 =>
 A0 PR (A9 t0) fun t33 =>
 A0 PR (Instr.fieldAt 101 t33 0) fun t34 =>
 A0 PR (Instr.fieldAt 91 t34 1) fun t35 =>
 A6 PR (Instr.loadAt 3 t35) fun t36 =>
 A0 PR (binOp .add 3 t36 (.int .i64 1)) fun t37 =>
 A0 PR (A9 t0) fun t38 =>
 A0 PR (Instr.fieldAt 101 t38 0) fun t39 =>
 A0 PR (Instr.fieldAt 91 t39 1) fun t40 =>
 C2 PR X (Instr.storeAt 3 t40 t37) <|
 jn (n := 0) (
 A0 PR (Instr.build 49 #[]) fun t147 =>
 C2 PR X (Instr.storeAt 49 t4 t147) <|
 A6 PR (F1 [.c 49 t4]) R) fun J1 =>
 A0 PR (binOp .eql 3 t31 (.int .i64 0)) fun t61 =>
 B7 t61 (
 drw <|
 A0 PR (A9 t1) fun t63 =>
 A0 PR (Instr.fieldAt 74 t63 1) fun t64 =>
 A6 PR (Instr.loadAt 69 t64) fun t65 =>
 A0 PR (A9 t0) fun t67 =>
 A0 PR (Instr.fieldAt 101 t67 1) fun t68 =>
 A6 PR (Instr.loadAt 3 t68) fun t69 =>
 A0 PR (A9 t0) fun t71 =>
 A0 PR (Instr.fieldAt 101 t71 0) fun t72 =>
 A0 PR (Instr.fieldAt 91 t72 0) fun t73 =>
 A6 PR (Instr.loadAt 3 t73) fun t74 =>
 B3 PR X 44 [t65, t69, t74] fun t75 =>
 J1) (
 A0 PR (binOp .eql 3 t31 (.int .i64 1)) fun t77 =>
 B7 t77 (
 drw <|
 A0 PR (A9 t1) fun t83 =>
 A0 PR (Instr.fieldAt 74 t83 4) fun t84 =>
 A6 PR (Instr.loadAt 72 t84) fun t85 =>
 A0 PR (A9 t0) fun t87 =>
 A0 PR (Instr.fieldAt 101 t87 1) fun t88 =>
 A6 PR (Instr.loadAt 3 t88) fun t89 =>
 A0 PR (Instr.indexAt 72 t85 t89) fun t90 =>
 A6 PR (Instr.loadAt 55 t90) fun t91 =>
 A0 PR (A9 t1) fun t93 =>
 A0 PR (Instr.fieldAt 74 t93 5) fun t94 =>
 A6 PR (Instr.loadAt 54 t94) fun t95 =>
 A0 PR (A9 t0) fun t97 =>
 A0 PR (Instr.fieldAt 101 t97 1) fun t98 =>
 A6 PR (Instr.loadAt 3 t98) fun t99 =>
 A0 PR (Instr.indexAt 54 t95 t99) fun t100 =>
 A6 PR (Instr.loadAt 3 t100) fun t101 =>
 A0 PR (A9 t1) fun t103 =>
 A0 PR (Instr.fieldAt 74 t103 6) fun t104 =>
 A6 PR (Instr.loadAt 3 t104) fun t105 =>
 B3 PR X 95 [t91, t101, (.int .i64 4), t105] fun t106 =>
 A0 PR (Instr.extract t106 0) fun t107 =>
 A0 PR (Instr.extract t106 1) fun t108 =>
 A0 PR (Instr.extract t106 2) fun t109 =>
 A0 PR (A9 t0) fun t110 =>
 A0 PR (Instr.fieldAt 101 t110 3) fun t111 =>
 C2 PR X (Instr.storeAt 55 t111 t107) <|
 A0 PR (A9 t0) fun t112 =>
 A0 PR (Instr.fieldAt 101 t112 2) fun t113 =>
 C2 PR X (Instr.storeAt 3 t113 t108) <|
 A0 PR (A9 t0) fun t114 =>
 A0 PR (Instr.fieldAt 101 t114 0) fun t115 =>
 A0 PR (Instr.fieldAt 91 t115 2) fun t116 =>
 A0 PR (Instr.fieldAt 57 t116 3) fun t117 =>
 C2 PR X (Instr.storeAt 3 t117 t109) <|
 A0 PR (Instr.build 49 #[(0, (.bool true))]) fun t118 =>
 C2 PR X (Instr.storeAt 49 t4 t118) <|
 A6 PR (F1 [.c 49 t4]) R) (
 A0 PR (binOp .eql 3 t31 (.int .i64 2)) fun t120 =>
 B7 t120 (
 drw <|
 A0 PR (A9 t1) fun t122 =>
 A0 PR (Instr.fieldAt 74 t122 4) fun t123 =>
 A6 PR (Instr.loadAt 72 t123) fun t124 =>
 A0 PR (A9 t0) fun t126 =>
 A0 PR (Instr.fieldAt 101 t126 1) fun t127 =>
 A6 PR (Instr.loadAt 3 t127) fun t128 =>
 A0 PR (A9 t1) fun t130 =>
 A0 PR (Instr.fieldAt 74 t130 5) fun t131 =>
 A6 PR (Instr.loadAt 54 t131) fun t132 =>
 A0 PR (A9 t0) fun t134 =>
 A0 PR (Instr.fieldAt 101 t134 1) fun t135 =>
 A6 PR (Instr.loadAt 3 t135) fun t136 =>
 A0 PR (A9 t0) fun t138 =>
 A0 PR (Instr.fieldAt 101 t138 3) fun t139 =>
 A6 PR (Instr.loadAt 55 t139) fun t140 =>
 A0 PR (A9 t0) fun t142 =>
 A0 PR (Instr.fieldAt 101 t142 2) fun t143 =>
 A6 PR (Instr.loadAt 3 t143) fun t144 =>
 A0 PR (Instr.indexAt 72 t124 t128) fun t145 =>
 C2 PR X (Instr.storeAt 55 t145 t140) <|
 A0 PR (Instr.indexAt 54 t132 t136) fun t146 =>
 C2 PR X (Instr.storeAt 3 t146 t144) <|
 J1) (
 drw <|
 A0 PR (A9 t1) fun t43 =>
 A0 PR (Instr.fieldAt 74 t43 1) fun t44 =>
 A6 PR (Instr.loadAt 69 t44) fun t45 =>
 A0 PR (A9 t0) fun t47 =>
 A0 PR (Instr.fieldAt 101 t47 1) fun t48 =>
 A6 PR (Instr.loadAt 3 t48) fun t49 =>
 A0 PR (A9 t0) fun t51 =>
 A0 PR (Instr.fieldAt 101 t51 0) fun t52 =>
 A0 PR (Instr.fieldAt 91 t52 0) fun t53 =>
 A6 PR (Instr.loadAt 3 t53) fun t54 =>
 B3 PR X 45 [t45, t49, t54] fun t55 =>
 A0 PR (A9 t0) fun t57 =>
 A0 PR (Instr.fieldAt 101 t57 0) fun t58 =>
 B3 PR X 241 [t58] fun t59 =>
 C2 PR X (Instr.storeAt 49 t4 t59) <|
 A6 PR (F1 [.c 49 t4]) R)))) fun J2 =>
 drw <|
 A0 PR (A9 t0) fun t7 =>
 A0 PR (Instr.fieldAt 101 t7 1) fun t8 =>
 A6 PR (Instr.loadAt 3 t8) fun t9 =>
 A0 PR (binOp .lss 3 t9 (.int .i64 0)) fun t10 =>
 gj t10 false (fun J => J t0) fun t12 =>
 gj t10 false (fun J => A0 PR (A9 t12) J) fun t13 =>
 gj t10 false (fun J => A0 PR (Instr.fieldAt 101 t13 1) J) fun t14 =>
 gj t10 false (fun J => A6 PR (Instr.loadAt 3 t14) J) fun t15 =>
 gj t10 false (fun J => J t1) fun t16 =>
 gj t10 false (fun J => A0 PR (A9 t16) J) fun t17 =>
 gj t10 false (fun J => A0 PR (Instr.fieldAt 74 t17 4) J) fun t18 =>
 gj t10 false (fun J => A6 PR (Instr.loadAt 72 t18) J) fun t19 =>
 gj t10 false (fun J => A0 PR (A8 .len #[72] 0 [t19]) J) fun t20 =>
 gj t10 false (fun J => A0 PR (binOp .geq 3 t15 t20) J) fun t21 =>
 A0 PR (do pure (if ← asBool t10 then (.bool true) else t21)) fun t22 =>
 B7 t22 (
 A0 PR (A9 t0) fun t24 =>
 A0 PR (Instr.fieldAt 101 t24 0) fun t25 =>
 B3 PR X 238 [t25, (.int .i64 1)] fun t26 =>
 C2 PR X (Instr.storeAt 49 t4 t26) <|
 A6 PR (F1 [.c 49 t4]) R) (
 J2)
theorem A6k {X : Nat → Prop} {t0 t1 : Value} {R : Value → WP} {w : World} (h : A1Q X t0 t1 R w) : Fn PR X 247 #[t0, t1] w R := C9 (args := [t0, t1]) mixed Tryz.func247 (by kernel_rfl) h
def A0f (X : Nat → Prop) (t0 t1 : Value) (R : Value → WP) : WP :=
 A0 PR (A9 t0) fun t6 =>
 A0 PR (Instr.fieldAt 101 t6 0) fun t7 =>
 A0 PR (Instr.fieldAt 91 t7 1) fun t8 =>
 A6 PR (Instr.loadAt 3 t8) fun t9 =>
 A0 PR (binOp .eql 3 t9 (.int .i64 0)) fun t10 =>
 gj t10 true (fun J => J t1) fun t12 =>
 gj t10 true (fun J => J t0) fun t13 =>
 gj t10 true (fun J => A0 PR (A9 t13) J) fun t14 =>
 gj t10 true (fun J => A0 PR (Instr.fieldAt 101 t14 1) J) fun t15 =>
 gj t10 true (fun J => A6 PR (Instr.loadAt 3 t15) J) fun t16 =>
 gj t10 true (fun J => B3 PR X 249 [t12, t16] J) fun t17 =>
 gj t10 true (fun J => A0 PR (Op.unary .not t17) J) fun t18 =>
 A0 PR (do pure (if ← asBool t10 then t18 else (.bool false))) fun t19 =>
 R t19
theorem A5l {X : Nat → Prop} {t0 t1 : Value} {R : Value → WP} {w : World} (h : A0f X t0 t1 R w) : Fn PR X 248 #[t0, t1] w R := C9 (args := [t0, t1]) mixed Tryz.func248 (by kernel_rfl) h
def A6U (X : Nat → Prop) (t0 t1 : Value) (R : Value → WP) : WP :=
 A0 PR (A9 t0) fun t6 =>
 A0 PR (Instr.fieldAt 74 t6 1) fun t7 =>
 A6 PR (Instr.loadAt 69 t7) fun t8 =>
 B3 PR X 29 [t8, t1] fun t10 =>
 A0 PR (binOp .lss 3 t10 (.int .i64 0)) fun t11 =>
 R t11
theorem A5B : B2 PR 249 := A7 Tryz.func249 (by kernel_rfl) rfl
theorem B2Y {X : Nat → Prop} {t0 t1 : Value} {R : Value → WP} {w : World} (h : A6U X t0 t1 R w) : Fn PR X 249 #[t0, t1] w R := C9 (args := [t0, t1]) mixed Tryz.func249 (by kernel_rfl) h
def A13 (X : Nat → Prop) (t0 t1 : Value) (R : Value → WP) : WP :=
 B9 PR X (Instr.alloc 49 true (.tuple #[])) fun t4 =>
 A0 PR (A9 t1) fun t9 =>
 A0 PR (Instr.fieldAt 74 t9 4) fun t10 =>
 A6 PR (Instr.loadAt 72 t10) fun t11 =>
 A0 PR (A8 .len #[72] 0 [t11]) fun t12 =>
 drw <|
 A0 PR (A9 t0) fun t14 =>
 A0 PR (Instr.fieldAt 104 t14 0) fun t15 =>
 A0 PR (Instr.fieldAt 91 t15 1) fun t16 =>
 A6 PR (Instr.loadAt 3 t16) fun t17 =>
 A0 PR (binOp .quo 3 t17 t12) fun t19 =>
 A0 PR (A9 t0) fun t21 =>
 A0 PR (Instr.fieldAt 104 t21 0) fun t22 =>
 A0 PR (Instr.fieldAt 91 t22 1) fun t23 =>
 A6 PR (Instr.loadAt 3 t23) fun t24 =>
 A0 PR (binOp .rem 3 t24 t12) fun t26 =>
 A0 PR (A9 t0) fun t28 =>
 A0 PR (Instr.fieldAt 104 t28 0) fun t29 =>
 A0 PR (Instr.fieldAt 91 t29 1) fun t30 =>
 A6 PR (Instr.loadAt 3 t30) fun t31 =>
 A0 PR (binOp .add 3 t31 (.int .i64 1)) fun t32 =>
 A0 PR (A9 t0) fun t33 =>
 A0 PR (Instr.fieldAt 104 t33 0) fun t34 =>
 A0 PR (Instr.fieldAt 91 t34 1) fun t35 =>
 C2 PR X (Instr.storeAt 3 t35 t32) <|
 jn (n := 0) (
 drw <|
 A0 PR (A9 t1) fun t78 =>
 A0 PR (Instr.fieldAt 74 t78 1) fun t79 =>
 A6 PR (Instr.loadAt 69 t79) fun t80 =>
 A0 PR (A9 t0) fun t83 =>
 A0 PR (Instr.fieldAt 104 t83 0) fun t84 =>
 A0 PR (Instr.fieldAt 91 t84 0) fun t85 =>
 A6 PR (Instr.loadAt 3 t85) fun t86 =>
 B3 PR X 45 [t80, t26, t86] fun t87 =>
 jn (n := 0) (
 A0 PR (Instr.build 49 #[]) fun t96 =>
 C2 PR X (Instr.storeAt 49 t4 t96) <|
 A6 PR (F1 [.c 49 t4]) R) fun J1 =>
 A0 PR (binOp .sub 3 t12 (.int .i64 1)) fun t90 =>
 A0 PR (binOp .eql 3 t26 t90) fun t91 =>
 B7 t91 (
 A0 PR (A9 t0) fun t93 =>
 A0 PR (Instr.fieldAt 104 t93 0) fun t94 =>
 B3 PR X 241 [t94] fun t95 =>
 C2 PR X (Instr.storeAt 49 t4 t95) <|
 A6 PR (F1 [.c 49 t4]) R) (
 J1)) fun J2 =>
 A0 PR (binOp .eql 3 t19 (.int .i64 0)) fun t38 =>
 B7 t38 (
 drw <|
 A0 PR (A9 t1) fun t40 =>
 A0 PR (Instr.fieldAt 74 t40 1) fun t41 =>
 A6 PR (Instr.loadAt 69 t41) fun t42 =>
 A0 PR (A9 t0) fun t45 =>
 A0 PR (Instr.fieldAt 104 t45 0) fun t46 =>
 A0 PR (Instr.fieldAt 91 t46 0) fun t47 =>
 A6 PR (Instr.loadAt 3 t47) fun t48 =>
 B3 PR X 44 [t42, t26, t48] fun t49 =>
 A0 PR (binOp .sub 3 t12 (.int .i64 1)) fun t52 =>
 A0 PR (binOp .eql 3 t26 t52) fun t53 =>
 A0 PR (Instr.build 49 #[(0, t53)]) fun t54 =>
 C2 PR X (Instr.storeAt 49 t4 t54) <|
 A6 PR (F1 [.c 49 t4]) R) (
 A0 PR (binOp .eql 3 t19 (.int .i64 1)) fun t56 =>
 B7 t56 (
 drw <|
 A0 PR (A9 t0) fun t58 =>
 A0 PR (Instr.fieldAt 104 t58 0) fun t59 =>
 A0 PR (Instr.fieldAt 91 t59 2) fun t60 =>
 A0 PR (Instr.fieldAt 57 t60 3) fun t61 =>
 A6 PR (Instr.loadAt 3 t61) fun t62 =>
 A0 PR (A9 t1) fun t64 =>
 A0 PR (Instr.fieldAt 74 t64 4) fun t65 =>
 A6 PR (Instr.loadAt 72 t65) fun t66 =>
 A0 PR (Instr.indexAt 72 t66 t26) fun t68 =>
 A6 PR (Instr.loadAt 55 t68) fun t69 =>
 B3 PR X 122 [t69, (.int .i64 1)] fun t70 =>
 watch PR [(none, (Instr.loadAt 3 t61), t62)] <|
 A0 PR (binOp .add 3 t62 t70) fun t71 =>
 A0 PR (A9 t0) fun t72 =>
 A0 PR (Instr.fieldAt 104 t72 0) fun t73 =>
 A0 PR (Instr.fieldAt 91 t73 2) fun t74 =>
 A0 PR (Instr.fieldAt 57 t74 3) fun t75 =>
 C2 PR X (Instr.storeAt 3 t75 t71) <|
 A0 PR (Instr.build 49 #[]) fun t76 =>
 C2 PR X (Instr.storeAt 49 t4 t76) <|
 A6 PR (F1 [.c 49 t4]) R) (
 J2))
theorem A7g {X : Nat → Prop} {t0 t1 : Value} {R : Value → WP} {w : World} (h : A13 X t0 t1 R w) : Fn PR X 250 #[t0, t1] w R := C9 (args := [t0, t1]) mixed Tryz.func250 (by kernel_rfl) h
def A1V (X : Nat → Prop) (t0 t1 : Value) (R : Value → WP) : WP :=
 drw <|
 A0 PR (A9 t0) fun t6 =>
 A0 PR (Instr.fieldAt 104 t6 0) fun t7 =>
 A0 PR (Instr.fieldAt 91 t7 1) fun t8 =>
 A6 PR (Instr.loadAt 3 t8) fun t9 =>
 A0 PR (A9 t1) fun t11 =>
 A0 PR (Instr.fieldAt 74 t11 4) fun t12 =>
 A6 PR (Instr.loadAt 72 t12) fun t13 =>
 A0 PR (A8 .len #[72] 0 [t13]) fun t14 =>
 A0 PR (binOp .lss 3 t9 t14) fun t15 =>
 gj t15 true (fun J => J t1) fun t17 =>
 gj t15 true (fun J => J t0) fun t18 =>
 gj t15 true (fun J => A0 PR (A9 t18) J) fun t19 =>
 gj t15 true (fun J => A0 PR (Instr.fieldAt 104 t19 0) J) fun t20 =>
 gj t15 true (fun J => A0 PR (Instr.fieldAt 91 t20 1) J) fun t21 =>
 gj t15 true (fun J => A6 PR (Instr.loadAt 3 t21) J) fun t22 =>
 gj t15 true (fun J => B3 PR X 249 [t17, t22] J) fun t23 =>
 gj t15 true (fun J => A0 PR (Op.unary .not t23) J) fun t24 =>
 A0 PR (do pure (if ← asBool t15 then t24 else (.bool false))) fun t25 =>
 R t25
theorem A7Q {X : Nat → Prop} {t0 t1 : Value} {R : Value → WP} {w : World} (h : A1V X t0 t1 R w) : Fn PR X 251 #[t0, t1] w R := C9 (args := [t0, t1]) mixed Tryz.func251 (by kernel_rfl) h
def A2v (X : Nat → Prop) (t0 t1 : Value) (R : Value → WP) : WP :=
 B9 PR X (Instr.alloc 49 true (.tuple #[])) fun t4 =>
 A0 PR (A9 t0) fun t6 =>
 A0 PR (Instr.fieldAt 106 t6 0) fun t7 =>
 B3 PR X 238 [t7, (.int .i64 1)] fun t8 =>
 C2 PR X (Instr.storeAt 49 t4 t8) <|
 A6 PR (F1 [.c 49 t4]) R
theorem A9E {X : Nat → Prop} {t0 t1 : Value} {R : Value → WP} {w : World} (h : A2v X t0 t1 R w) : Fn PR X 252 #[t0, t1] w R := C9 (args := [t0, t1]) mixed Tryz.func252 (by kernel_rfl) h
def A2K (X : Nat → Prop) (t0 t1 : Value) (R : Value → WP) : WP :=
 R (.bool false)
theorem A74 {X : Nat → Prop} {t0 t1 : Value} {R : Value → WP} {w : World} (h : A2K X t0 t1 R w) : Fn PR X 253 #[t0, t1] w R := C9 (args := [t0, t1]) mixed Tryz.func253 (by kernel_rfl) h
end Go.Proofs.YtpnidmkaobfhiaaGreat
namespace Go.Proofs.YtpnidmkaobfhiaaGreat
open Go
def D3 (b : JB) (rest : List Value) : Array Value := (.int .i64 b.who :: .int .i64 b.st :: .int .i64 b.ans.err :: .int .i64 b.ans.bk :: .bool b.ans.made :: .int .i64 b.ans.count :: rest).toArray
def D8 (t : A0N) : Value := .agg #[.bool t.1, .bool t.2.1, .bool t.2.2]
theorem A2m (w : World) (b : Nat) (T : TypeId) (j : JB) (rest : List Value) (e : Int) (hw : LW false [b] w [.pt b (.cells (D3 j rest) T)] w) :
  Fn PR B6 238 #[.pointer (some ⟨b, 0, none⟩), .int .i64 e] w (Rn [b] w (fun (_ : Unit) u => u = D8 (true, true, false)) fun _ => [.pt b (.cells (D3 (j.refuse e) rest) T)]) := by
 refine A7B (TW.goH (κ := false) (S := [b]) ?_ hw)
 unfold A06
 simp only [D3, JB.refuse]
 (have zz:=trivial;repeat((first|clear zz|with_reducible first|refine A3 ?_|refine A5 fun _=>?_|refine A4 fun _=>?_);try simp(disch:=first|omega|assumption|((repeat(first|exact A1|exact uH|apply A2|apply uT));first|done|fail)|(simp;first|done|omega|fail))[]))
 exact B0 () rfl (by (repeat' constructor))
theorem A4Y (w : World) (b : Nat) (T : TypeId) (j : JB) (rest : List Value) (hw : LW false [b] w [.pt b (.cells (D3 j rest) T)] w) :
  Fn PR B6 241 #[.pointer (some ⟨b, 0, none⟩)] w (Rn [b] w (fun (_ : Unit) u => u = D8 (false, true, false)) fun _ => [.pt b (.cells (D3 { j with st := -1 } rest) T)]) := by
 refine A68 (TW.goH (κ := false) (S := [b]) ?_ hw)
 unfold A1P
 simp only [D3]
 (have zz:=trivial;repeat((first|clear zz|with_reducible first|refine A3 ?_|refine A5 fun _=>?_|refine A4 fun _=>?_);try simp(disch:=first|omega|assumption|((repeat(first|exact A1|exact uH|apply A2|apply uT));first|done|fail)|(simp;first|done|omega|fail))[]))
 exact B0 () rfl (by (repeat' constructor))
end Go.Proofs.YtpnidmkaobfhiaaGreat
namespace Go.Proofs.YtpnidmkaobfhiaaGreat
open Go
def M3 (b : Nat) (j : JU) (pv qv : Value) : Res := .pt b (.cells (D3 j.b [pv, qv, .int .i64 j.slot, .int .i64 j.old]) 94)
def P1 (j : JU) (qv : Value) : Res := .own 3 1 qv j.pins.length (C1 j.pins)
structure WsOk (x : WS) : Prop where
 wk : 1 ≤ x.c.wk ∧ x.c.wk ≤ 64
 cells : x.cells.length = 2 + x.c.wk.toNat
 own : x.own.length ≤ 16
 sl : x.sl.length ≤ 8
 keep : x.keep.length ≤ 8
def WoH.sk (m : WoH) (ls : List SlH) (keep : List (Int × Int)) : WoH := { m with ls := ls, keep := keep }
theorem C2k (w : World) (b : Nat) (j : JU) (pv qv : Value) (m : WoH) (hx : WsOk m.ws) (hp : j.pins.length ≤ 1000) (hst : -1 ≤ j.b.st ∧ j.b.st ≤ 1000) (hw : LW false (B1 (M3 b j pv qv :: P1 j qv :: B8 m)) w (M3 b j pv qv :: P1 j qv :: B8 m) w) :
  Fn PR B6 239 #[.pointer (some ⟨b, 0, none⟩), .pointer (some ⟨m.b, 0, none⟩)] w (Rn (B1 (M3 b j pv qv :: P1 j qv :: B8 m)) w (fun (y : List SlH × List (Int × Int)) u => u = D8 (U0 j m.ws).2.2 ∧ (m.sk y.1 y.2).ws = (U0 j m.ws).2.1) fun y => M3 b (U0 j m.ws).1 pv qv :: P1 j qv :: B8 (m.sk y.1 y.2)) := by
 refine A7E (TW.goH (κ := false) ?_ hw)
 unfold A02
 obtain ⟨h1, h2, h3, h4, h5⟩ := hx
 simp only [WoH.ws, List.length_map] at h1 h2 h3 h4 h5
 have hkp : m.ws.keep = m.keep := rfl
 have hRipe := fun (w' : World) => C3Y w' m.bk m.keep qv j.pins h5
 by_cases c1 : 0 ≤ G3 m.keep j.pins
 ·have e : U0 j m.ws = (j, { m.ws with sl := g5 m.ws.sl (G3 m.keep j.pins) .no, keep := m4 m.keep (G3 m.keep j.pins) }, false, false, false) := if_pos c1
  rw [e]
  generalize G3 m.keep j.pins = r at *
  simp only [B8, M3, D3, E0, E7, WoH.sk]
  (have zz:=trivial;repeat((first|clear zz|with_reducible first|refine A3 ?_|refine A5 fun _=>?_|refine A4 fun _=>?_);try simp(disch:=first|omega|assumption|((repeat(first|exact A1|exact uH|apply A2|apply uT));first|done|fail)|(simp;first|done|omega|fail))[]))
  refine D4 n9 (fun w' hw' => hRipe w' (w9.own hw' (by (repeat constructor))) (H3.own (e := 3) (k := 1) (by unfold P1; (repeat constructor)) w' hw') (by omega)) ?_
  (have zz:=trivial;repeat((first|clear zz|with_reducible first|refine A3 ?_|refine A5 fun _=>?_|refine A4 fun _=>?_);try simp(disch:=first|omega|assumption|((repeat(first|exact A1|exact uH|apply A2|apply uT));first|done|fail)|(simp;first|done|omega|fail))[c1]))
  refine C0 (Hc := F2 m.bs m.sv m.ls) A1u (fun w' _ hs => B4d w' m.bs m.sv m.ls r h4 hs) (by unfold F2; (repeat' constructor)) ?_
  intro _ v hv
  simp only [F2, List.cons_append, List.nil_append]
  (have zz:=trivial;repeat((first|clear zz|with_reducible first|refine A3 ?_|refine A5 fun _=>?_|refine A4 fun _=>?_);try simp(disch:=first|omega|assumption|((repeat(first|exact A1|exact uH|apply A2|apply uT));first|done|fail)|(simp;first|done|omega|fail))[]))
  refine C0 (Hc := [U6 m.bk m.keep]) A7z (fun w' _ hs => C3b w' m.bk m.keep r h5 hs) (by (repeat' constructor)) ?_
  intro _ v2 hv2
  simp only [List.cons_append, List.nil_append]
  (have zz:=trivial;repeat((first|clear zz|with_reducible first|refine A3 ?_|refine A5 fun _=>?_|refine A4 fun _=>?_);try simp(disch:=first|omega|assumption|((repeat(first|exact A1|exact uH|apply A2|apply uT));first|done|fail)|(simp;first|done|omega|fail))[]))
  exact B0 (V0 m.ls r .no, m4 m.keep r) ⟨rfl, by simp only [WoH.ws, A4q]; rfl⟩ (by (repeat' constructor))
 have hrneg : G3 m.keep j.pins < 0 := by omega
 by_cases c2 : E5 m.keep < 0
 ·have e : U0 j m.ws = ({ j with b := j.b.refuse 13, slot := E5 m.keep }, m.ws, true, true, false) := by unfold U0; rw [if_neg (by rw [hkp]; exact c1), if_pos (by rw [hkp]; exact c2)]; rfl
  rw [e]
  have e2 : M6 m.keep = m.keep := by unfold M6; rw [if_pos c2]
  generalize G3 m.keep j.pins = r at *
  obtain ⟨t, ht⟩ : ∃ t, t = E5 m.keep := ⟨_, rfl⟩
  rw [← ht] at c2
  simp only [B8, M3, D3, E0, E7, WoH.sk, ← ht]
  (have zz:=trivial;repeat((first|clear zz|with_reducible first|refine A3 ?_|refine A5 fun _=>?_|refine A4 fun _=>?_);try simp(disch:=first|omega|assumption|((repeat(first|exact A1|exact uH|apply A2|apply uT));first|done|fail)|(simp;first|done|omega|fail))[]))
  refine D4 n9 (fun w' hw' => hRipe w' (w9.own hw' (by (repeat constructor))) (H3.own (e := 3) (k := 1) (by unfold P1; (repeat constructor)) w' hw') (by omega)) ?_
  (have zz:=trivial;repeat((first|clear zz|with_reducible first|refine A3 ?_|refine A5 fun _=>?_|refine A4 fun _=>?_);try simp(disch:=first|omega|assumption|((repeat(first|exact A1|exact uH|apply A2|apply uT));first|done|fail)|(simp;first|done|omega|fail))[c1]))
  refine C0 (Hc := [U6 m.bk m.keep]) A2D (fun w' _ hs => B5m w' m.bk m.keep h5 hs) (by (repeat' constructor)) ?_
  rintro _ v rfl
  rw [e2, ← ht]
  simp only [List.cons_append, List.nil_append]
  (have zz:=trivial;repeat((first|clear zz|with_reducible first|refine A3 ?_|refine A5 fun _=>?_|refine A4 fun _=>?_);try simp(disch:=first|omega|assumption|((repeat(first|exact A1|exact uH|apply A2|apply uT));first|done|fail)|(simp;first|done|omega|fail))[c2]))
  refine C0 (Hc := [.pt b (.cells (D3 j.b [pv, qv, .int .i64 t, .int .i64 j.old]) 94)]) S1 (fun w' _ hs => A2m w' b _ j.b _ 13 hs) (by unfold D3; (repeat' constructor)) ?_
  rintro _ v rfl
  simp only [List.cons_append, List.nil_append, D8, D3]
  (have zz:=trivial;repeat((first|clear zz|with_reducible first|refine A3 ?_|refine A5 fun _=>?_|refine A4 fun _=>?_);try simp(disch:=first|omega|assumption|((repeat(first|exact A1|exact uH|apply A2|apply uT));first|done|fail)|(simp;first|done|omega|fail))[]))
  exact B0 (m.ls, m.keep) ⟨rfl, rfl⟩ (by (repeat' constructor))
 ·have e : U0 j m.ws = ({ j with slot := E5 m.keep, b := { j.b with st := j.b.st + 1 } }, { m.ws with sl := g5 m.ws.sl (E5 m.keep) .bld, keep := M6 m.keep }, false, false, false) := by unfold U0; rw [if_neg (by rw [hkp]; exact c1), if_neg (by rw [hkp]; exact c2)]; rfl
  rw [e]
  generalize G3 m.keep j.pins = r at *
  obtain ⟨t, ht⟩ : ∃ t, t = E5 m.keep := ⟨_, rfl⟩
  rw [← ht] at c2
  simp only [B8, M3, D3, E0, E7, WoH.sk, ← ht]
  (have zz:=trivial;repeat((first|clear zz|with_reducible first|refine A3 ?_|refine A5 fun _=>?_|refine A4 fun _=>?_);try simp(disch:=first|omega|assumption|((repeat(first|exact A1|exact uH|apply A2|apply uT));first|done|fail)|(simp;first|done|omega|fail))[]))
  refine D4 n9 (fun w' hw' => hRipe w' (w9.own hw' (by (repeat constructor))) (H3.own (e := 3) (k := 1) (by unfold P1; (repeat constructor)) w' hw') (by omega)) ?_
  (have zz:=trivial;repeat((first|clear zz|with_reducible first|refine A3 ?_|refine A5 fun _=>?_|refine A4 fun _=>?_);try simp(disch:=first|omega|assumption|((repeat(first|exact A1|exact uH|apply A2|apply uT));first|done|fail)|(simp;first|done|omega|fail))[c1]))
  refine C0 (Hc := [U6 m.bk m.keep]) A2D (fun w' _ hs => B5m w' m.bk m.keep h5 hs) (by (repeat' constructor)) ?_
  rintro _ v rfl
  rw [← ht]
  simp only [List.cons_append, List.nil_append]
  (have zz:=trivial;repeat((first|clear zz|with_reducible first|refine A3 ?_|refine A5 fun _=>?_|refine A4 fun _=>?_);try simp(disch:=first|omega|assumption|((repeat(first|exact A1|exact uH|apply A2|apply uT));first|done|fail)|(simp;first|done|omega|fail))[c2]))
  refine C0 (Hc := F2 m.bs m.sv m.ls) A2N (fun w' _ hs => B40 w' m.bs m.sv m.ls t h4 hs) (by unfold F2; (repeat' constructor)) ?_
  intro _ v hv
  simp only [F2, List.cons_append, List.nil_append]
  (have zz:=trivial;repeat((first|clear zz|with_reducible first|refine A3 ?_|refine A5 fun _=>?_|refine A4 fun _=>?_);try simp(disch:=first|omega|assumption|((repeat(first|exact A1|exact uH|apply A2|apply uT));first|done|fail)|(simp;first|done|omega|fail))[]))
  exact B0 (V0 m.ls t .bld, M6 m.keep) ⟨rfl, by simp only [WoH.ws, A4q]; rfl⟩ (by (repeat' constructor))
end Go.Proofs.YtpnidmkaobfhiaaGreat
namespace Go.Proofs.YtpnidmkaobfhiaaGreat
open Go
structure WoD where
 cn : Int
 cells : List Int
 ls : List SlH
 keep : List (Int × Int)
def WoH.up (m : WoH) (d : WoD) : WoH := { m with cn := d.cn, cells := d.cells, ls := d.ls, keep := d.keep }
def WoH.dd (m : WoH) : WoD := ⟨m.cn, m.cells, m.ls, m.keep⟩
theorem B4a (w : World) (b : Nat) (j : JU) (pv qv : Value) (hp : j.pool.length ≤ 1000) (hv : D2 w pv j.pool.length (j.pool.flatMap E6)) (hb : bl w b = some (.cells (D3 j.b [pv, qv, .int .i64 j.slot, .int .i64 j.old]) 94 (0, 0))) :
  Fn PR B6 234 #[.pointer (some ⟨b, 0, none⟩)] w (fun u w' => u = .int .i64 (T9 j) ∧ D6 [] w w') := by
 refine Fn.pure (A5U (TW.go (κ := false) (S := []) ?_))
 unfold A0d
 have h0 : w.cell? ⟨b, 0, none⟩ = some (.int .i64 j.b.who) := by rw [D7 hb]; rfl
 have h6 : w.cell? ⟨b, 6, none⟩ = some pv := by rw [D7 hb]; rfl
 unfold T9
 obtain ⟨a, c, rfl, _⟩ := hv.form
 by_cases c1 : j.b.who = 0
 ·rw [if_pos c1]
  (have zz:=trivial;repeat((first|clear zz|with_reducible first|refine A3 ?_|refine A5 fun _=>?_|refine A4 fun _=>?_);try simp(disch:=first|omega|assumption|((repeat(first|exact A1|exact uH|apply A2|apply uT));first|done|fail)|(simp;first|done|omega|fail))[h0, h6, c1]))
  refine D4 A7m (fun w' hw' => B0p w' _ j.pool (by omega) (hv.ks hw'.ks (by simp))) ?_
  exact B4 rfl
 ·rw [if_neg c1]
  (have zz:=trivial;repeat((first|clear zz|with_reducible first|refine A3 ?_|refine A5 fun _=>?_|refine A4 fun _=>?_);try simp(disch:=first|omega|assumption|((repeat(first|exact A1|exact uH|apply A2|apply uT));first|done|fail)|(simp;first|done|omega|fail))[h0, h6, c1]))
  exact B4 rfl
theorem B6p (l : List Int) (x : Int) : C1 (l ++ [x]) = C1 l ++ [.int .i64 x] := by unfold C1; rw [List.map_append]; rfl
theorem B7B (j : JU) (x : WS) : (U0 j x).1.pins = j.pins := by unfold U0; split; rfl; split <;> rfl
set_option maxHeartbeats 4000000 in
theorem C3C (w : World) (b : Nat) (j : JU) (pv qv : Value) (m : WoH) (hx : WsOk m.ws) (hp : j.pins.length ≤ 500) (hpl : j.pool.length ≤ 1000) (hst : 0 ≤ j.b.st ∧ j.b.st ≤ 500) (hsl : -1 ≤ j.slot ∧ j.slot ≤ 100) (hold : 0 ≤ j.old ∧ j.old ≤ 1000)
  (hv : ∀ w', KS false (B1 (M3 b j pv qv :: P1 j qv :: B8 m)) w w' → D2 w' pv j.pool.length (j.pool.flatMap E6))
  (hw : LW false (B1 (M3 b j pv qv :: P1 j qv :: B8 m)) w (M3 b j pv qv :: P1 j qv :: B8 m) w) :
  Fn PR B6 236 #[.pointer (some ⟨b, 0, none⟩), .pointer (some ⟨m.b, 0, none⟩)] w (Rn (B1 (M3 b j pv qv :: P1 j qv :: B8 m)) w (fun (y : Value × WoD) u => u = D8 (H0 j m.ws).2.2 ∧ (m.up y.2).ws = (H0 j m.ws).2.1) fun y => M3 b (H0 j m.ws).1 pv y.1 :: P1 (H0 j m.ws).1 y.1 :: B8 (m.up y.2)) := by
 refine A7F (TW.goH (κ := false) ?_ hw)
 unfold A1E
 have hxx := hx
 obtain ⟨h1, h2, h3, h4, h5⟩ := hx
 simp only [WoH.ws, List.length_map] at h1 h2 h3 h4 h5
 have hc : m.ws.c = m.c := rfl
 by_cases c1 : j.b.st = 0 ∧ T9 j ≠ 0
 ·have e : H0 j m.ws = ({ j with b := j.b.refuse (T9 j) }, m.ws, true, true, false) := if_pos c1
  rw [e]
  obtain ⟨c0, c1⟩ := c1
  generalize hbe : T9 j = be at *
  simp only [B8, M3, D3, E0, E7, WoH.up] at hv ⊢
  (have zz:=trivial;repeat((first|clear zz|with_reducible first|refine A3 ?_|refine A5 fun _=>?_|refine A4 fun _=>?_);try simp(disch:=first|omega|assumption|((repeat(first|exact A1|exact uH|apply A2|apply uT));first|done|fail)|(simp;first|done|omega|fail))[c0]))
  refine D4 x7 (fun w' hw' => by have := B4a w' b j pv qv hpl (hv w' hw'.ks) (by rw [hw'.pt (b := b) (by (repeat constructor))]; simp only [D3, c0]); rw [hbe] at this; exact this) ?_
  (have zz:=trivial;repeat((first|clear zz|with_reducible first|refine A3 ?_|refine A5 fun _=>?_|refine A4 fun _=>?_);try simp(disch:=first|omega|assumption|((repeat(first|exact A1|exact uH|apply A2|apply uT));first|done|fail)|(simp;first|done|omega|fail))[c1]))
  refine C0 (Hc := [.pt b (.cells (D3 j.b [pv, qv, .int .i64 j.slot, .int .i64 j.old]) 94)]) S1 (fun w' _ hs => A2m w' b _ j.b _ be hs) (by unfold D3; rw [c0]; (repeat' constructor)) ?_
  rintro _ v rfl
  simp only [List.cons_append, List.nil_append, D8, D3]
  (have zz:=trivial;repeat((first|clear zz|with_reducible first|refine A3 ?_|refine A5 fun _=>?_|refine A4 fun _=>?_);try simp(disch:=first|omega|assumption|((repeat(first|exact A1|exact uH|apply A2|apply uT));first|done|fail)|(simp;first|done|omega|fail))[]))
  exact B0 (qv, m.dd) ⟨rfl, rfl⟩ (by unfold WoH.dd; (repeat' constructor))
 by_cases c2 : j.b.st = 0 ∨ j.b.st - m.c.wk < 0
 ·have e : H0 j m.ws = ({ E4 j with pins := j.pins ++ [D5 m.cells (F9 m.c (j.b.st + 1))] }, m.ws, false, false, false) := by unfold H0; rw [if_neg c1, if_pos (show j.b.st = 0 ∨ j.b.st - m.ws.c.wk < 0 from c2)]; rfl
  rw [e]
  have hld : ∀ i, D5 m.ws.cells i = D5 m.cells i := fun _ => rfl
  simp only [B8, M3, D3, E0, E7, WoH.up, E4] at hv ⊢
  by_cases c0 : j.b.st = 0
  ·have hbe : T9 j = 0 := Decidable.byContradiction fun h => c1 ⟨c0, h⟩
   (have zz:=trivial;repeat((first|clear zz|with_reducible first|refine A3 ?_|refine A5 fun _=>?_|refine A4 fun _=>?_);try simp(disch:=first|omega|assumption|((repeat(first|exact A1|exact uH|apply A2|apply uT));first|done|fail)|(simp;first|done|omega|fail))[c0]))
   refine D4 x7 (fun w' hw' => by have := B4a w' b j pv qv hpl (hv w' hw'.ks) (by rw [hw'.pt (b := b) (by (repeat constructor))]; simp only [D3, c0]); rw [hbe] at this; exact this) ?_
   have c01 : j.b.st + 1 = 1 := by omega
   (have zz:=trivial;repeat((first|clear zz|with_reducible first|refine A3 ?_|refine A5 fun _=>?_|refine A4 fun _=>?_);try simp(disch:=first|omega|assumption|((repeat(first|exact A1|exact uH|apply A2|apply uT));first|done|fail)|(simp;first|done|omega|fail))[c0]))
   refine D4 v8 (fun w' hw' => B3Z w' m.b m.c _ _ _ _ _ _ 1 (by omega) (hw'.pt (b := m.b) (by (repeat constructor)))) ?_
   (have zz:=trivial;repeat((first|clear zz|with_reducible first|refine A3 ?_|refine A5 fun _=>?_|refine A4 fun _=>?_);try simp(disch:=first|omega|assumption|((repeat(first|exact A1|exact uH|apply A2|apply uT));first|done|fail)|(simp;first|done|omega|fail))[]))
   refine C0 (Hc := C6 m.bc m.cn m.cv m.ov m.cells m.own) a6 (fun w' _ hs => A9T w' m.bc m.cn m.cv m.ov m.cells m.own (F9 m.c 1) (by omega) hs) (by unfold C6; (repeat' constructor)) ?_
   rintro n' v rfl
   simp only [C6, List.cons_append, List.nil_append]
   refine H7 (e := 3) (k := 1) (v := qv) (q := j.pins.length) (xs := C1 j.pins) (by unfold P1; (repeat constructor)) fun qa qc hq => ?_
   subst hq
   simp only [P1]
   (have zz:=trivial;repeat((first|clear zz|with_reducible first|refine A3 ?_|refine A5 fun _=>?_|refine A4 fun _=>?_|refine T6 fun _=>?_|refine T0 (hK:=fun _=>?_)|refine T8 (hK:=fun _=>?_)|refine T2 (hK:=fun _=>?_)|refine T3 (hK:=fun _=>?_)|refine T7 (hK:=fun _=>?_));try simp(disch:=first|omega|assumption|((repeat(first|exact A1|exact uH|apply A2|apply uT));first|done|fail)|(simp;first|done|omega|fail))[]))
   refine W9 (e := 3) (k := 1) (q := j.pins.length) (r := 1) (xs := C1 j.pins) (news := [.int .i64 (D5 m.cells (F9 m.c 1))]) (by (repeat constructor)) (H3.own (by (repeat constructor))) (by decide) (by simp) (by simp) (by simp only [maxLen]; omega) (by omega) fun a' c' => ?_
   (have zz:=trivial;repeat((first|clear zz|with_reducible first|refine A3 ?_|refine A5 fun _=>?_|refine A4 fun _=>?_);try simp(disch:=first|omega|assumption|((repeat(first|exact A1|exact uH|apply A2|apply uT));first|done|fail)|(simp;first|done|omega|fail))[]))
   refine B0 (.slice a' (j.pins.length + 1) c', { m.dd with cn := n' }) ⟨rfl, rfl⟩ ?_
   simp only [WoH.dd, B6p, List.length_append, List.length_singleton, c0, Int.zero_add]
   (repeat' constructor)
  ·have c3 : j.b.st - m.c.wk < 0 := by omega
   have c4 : j.b.st < m.c.wk := by omega
   (have zz:=trivial;repeat((first|clear zz|with_reducible first|refine A3 ?_|refine A5 fun _=>?_|refine A4 fun _=>?_);try simp(disch:=first|omega|assumption|((repeat(first|exact A1|exact uH|apply A2|apply uT));first|done|fail)|(simp;first|done|omega|fail))[c0, c3, c4]))
   refine D4 v8 (fun w' hw' => B3Z w' m.b m.c _ _ _ _ _ _ (j.b.st + 1) (by omega) (hw'.pt (b := m.b) (by (repeat constructor)))) ?_
   (have zz:=trivial;repeat((first|clear zz|with_reducible first|refine A3 ?_|refine A5 fun _=>?_|refine A4 fun _=>?_);try simp(disch:=first|omega|assumption|((repeat(first|exact A1|exact uH|apply A2|apply uT));first|done|fail)|(simp;first|done|omega|fail))[]))
   refine C0 (Hc := C6 m.bc m.cn m.cv m.ov m.cells m.own) a6 (fun w' _ hs => A9T w' m.bc m.cn m.cv m.ov m.cells m.own (F9 m.c (j.b.st + 1)) (by omega) hs) (by unfold C6; (repeat' constructor)) ?_
   rintro n' v rfl
   simp only [C6, List.cons_append, List.nil_append]
   refine H7 (e := 3) (k := 1) (v := qv) (q := j.pins.length) (xs := C1 j.pins) (by unfold P1; (repeat constructor)) fun qa qc hq => ?_
   subst hq
   simp only [P1]
   (have zz:=trivial;repeat((first|clear zz|with_reducible first|refine A3 ?_|refine A5 fun _=>?_|refine A4 fun _=>?_|refine T6 fun _=>?_|refine T0 (hK:=fun _=>?_)|refine T8 (hK:=fun _=>?_)|refine T2 (hK:=fun _=>?_)|refine T3 (hK:=fun _=>?_)|refine T7 (hK:=fun _=>?_));try simp(disch:=first|omega|assumption|((repeat(first|exact A1|exact uH|apply A2|apply uT));first|done|fail)|(simp;first|done|omega|fail))[]))
   refine W9 (e := 3) (k := 1) (q := j.pins.length) (r := 1) (xs := C1 j.pins) (news := [.int .i64 (D5 m.cells (F9 m.c (j.b.st + 1)))]) (by (repeat constructor)) (H3.own (by (repeat constructor))) (by decide) (by simp) (by simp) (by simp only [maxLen]; omega) (by omega) fun a' c' => ?_
   (have zz:=trivial;repeat((first|clear zz|with_reducible first|refine A3 ?_|refine A5 fun _=>?_|refine A4 fun _=>?_);try simp(disch:=first|omega|assumption|((repeat(first|exact A1|exact uH|apply A2|apply uT));first|done|fail)|(simp;first|done|omega|fail))[]))
   refine B0 (.slice a' (j.pins.length + 1) c', { m.dd with cn := n' }) ⟨rfl, rfl⟩ ?_
   simp only [WoH.dd, B6p, List.length_append, List.length_singleton]
   (repeat' constructor)
 have c0 : ¬ j.b.st = 0 := fun h => c2 (Or.inl h)
 have c3 : ¬ j.b.st - m.c.wk < 0 := fun h => c2 (Or.inr h)
 have c3' : ¬ j.b.st < m.c.wk := by omega
 have hu : H0 j m.ws = if j.b.st - m.c.wk = 0 then U0 j m.ws
  else if j.b.st - m.c.wk = 1 then (E4 j, { m.ws with sl := r4 m.ws.sl j.slot j.pool }, false, false, false)
  else if j.b.st - m.c.wk = 2 then ({ E4 j with old := D5 m.cells 1 }, m.ws, false, false, false)
  else if j.b.st - m.c.wk = 3 then (E4 j, { m.ws with cells := K9 m.cells 1 (j.slot + 1) }, true, false, false)
  else A5F (E4 j) m.ws := by
  unfold H0
  rw [if_neg c1, if_neg (show ¬ (j.b.st = 0 ∨ j.b.st - m.ws.c.wk < 0) from c2)]
  rfl
 by_cases d0 : j.b.st - m.c.wk = 0
 ·rw [if_pos d0] at hu
  rw [hu]
  simp only [B8, M3, D3, E0, E7, WoH.up] at hv ⊢
  have d0' : j.b.st = m.c.wk := by omega
  have z0 : ¬ m.c.wk = 0 := by omega
  (have zz:=trivial;repeat((first|clear zz|with_reducible first|refine A3 ?_|refine A5 fun _=>?_|refine A4 fun _=>?_);try simp(disch:=first|omega|assumption|((repeat(first|exact A1|exact uH|apply A2|apply uT));first|done|fail)|(simp;first|done|omega|fail))[c0, c3, c3', d0]))
  refine C0 (Hc := M3 b j pv qv :: P1 j qv :: B8 m) A5b (fun w' _ hs => C2k w' b j pv qv m hxx (by omega) (by omega) hs) (by simp only [B8, M3, D3, E0, E7]; (repeat' constructor)) ?_
  rintro ⟨ls', k'⟩ v ⟨rfl, hv2⟩
  have hpn := B7B j m.ws
  generalize U0 j m.ws = ut at *
  simp only [B8, M3, D3, E0, E7, WoH.sk, List.cons_append, List.nil_append, D8]
  (have zz:=trivial;repeat((first|clear zz|with_reducible first|refine A3 ?_|refine A5 fun _=>?_|refine A4 fun _=>?_);try simp(disch:=first|omega|assumption|((repeat(first|exact A1|exact uH|apply A2|apply uT));first|done|fail)|(simp;first|done|omega|fail))[]))
  refine B0 (qv, { m.dd with ls := ls', keep := k' }) ⟨rfl, hv2⟩ ?_
  simp only [P1, hpn, WoH.dd]
  (repeat' constructor)
 have f0 : ¬ j.b.st = m.c.wk := by omega
 rw [if_neg d0] at hu
 by_cases d1 : j.b.st - m.c.wk = 1
 ·rw [if_pos d1] at hu
  rw [hu]
  simp only [B8, M3, D3, E0, E7, WoH.up, E4] at hv ⊢
  (have zz:=trivial;repeat((first|clear zz|with_reducible first|refine A3 ?_|refine A5 fun _=>?_|refine A4 fun _=>?_);try simp(disch:=first|omega|assumption|((repeat(first|exact A1|exact uH|apply A2|apply uT));first|done|fail)|(simp;first|done|omega|fail))[c0, c3, c3', d0, d1]))
  refine C0 (Hc := F2 m.bs m.sv m.ls) A25 (fun w' hw' hs => B6m w' m.bs m.sv m.ls j.slot pv j.pool h4 hpl (fun w'' hk => hv w'' ?_) hs) (by unfold F2; (repeat' constructor)) ?_
  ·refine hw'.ks.then hk fun x hx => ?_
   obtain ⟨r, hr, hxr⟩ := K5.1 hx
   exact (hw'.own r (List.mem_append_left _ hr) x hxr).1
  rintro ls' v ⟨hv1, hv2, hv3⟩
  simp only [F2, List.cons_append, List.nil_append]
  (have zz:=trivial;repeat((first|clear zz|with_reducible first|refine A3 ?_|refine A5 fun _=>?_|refine A4 fun _=>?_);try simp(disch:=first|omega|assumption|((repeat(first|exact A1|exact uH|apply A2|apply uT));first|done|fail)|(simp;first|done|omega|fail))[]))
  refine B0 (qv, { m.dd with ls := ls' }) ⟨rfl, by simp only [WoH.ws, WoH.dd, hv3]⟩ ?_
  simp only [P1, WoH.dd]
  (repeat' constructor)
 rw [if_neg d1] at hu
 by_cases d2 : j.b.st - m.c.wk = 2
 ·rw [if_pos d2] at hu
  rw [hu]
  simp only [B8, M3, D3, E0, E7, WoH.up, E4] at hv ⊢
  (have zz:=trivial;repeat((first|clear zz|with_reducible first|refine A3 ?_|refine A5 fun _=>?_|refine A4 fun _=>?_);try simp(disch:=first|omega|assumption|((repeat(first|exact A1|exact uH|apply A2|apply uT));first|done|fail)|(simp;first|done|omega|fail))[c0, c3, c3', d0, d1, d2]))
  refine C0 (Hc := C6 m.bc m.cn m.cv m.ov m.cells m.own) a6 (fun w' _ hs => A9T w' m.bc m.cn m.cv m.ov m.cells m.own 1 (by omega) hs) (by unfold C6; (repeat' constructor)) ?_
  rintro n' v rfl
  simp only [C6, List.cons_append, List.nil_append]
  (have zz:=trivial;repeat((first|clear zz|with_reducible first|refine A3 ?_|refine A5 fun _=>?_|refine A4 fun _=>?_);try simp(disch:=first|omega|assumption|((repeat(first|exact A1|exact uH|apply A2|apply uT));first|done|fail)|(simp;first|done|omega|fail))[]))
  refine B0 (qv, { m.dd with cn := n' }) ⟨rfl, rfl⟩ ?_
  simp only [P1, WoH.dd]
  (repeat' constructor)
 rw [if_neg d2] at hu
 by_cases d3 : j.b.st - m.c.wk = 3
 ·rw [if_pos d3] at hu
  rw [hu]
  simp only [B8, M3, D3, E0, E7, WoH.up, E4] at hv ⊢
  (have zz:=trivial;repeat((first|clear zz|with_reducible first|refine A3 ?_|refine A5 fun _=>?_|refine A4 fun _=>?_);try simp(disch:=first|omega|assumption|((repeat(first|exact A1|exact uH|apply A2|apply uT));first|done|fail)|(simp;first|done|omega|fail))[c0, c3, c3', d0, d1, d2, d3]))
  refine C0 (Hc := C6 m.bc m.cn m.cv m.ov m.cells m.own) A1x (fun w' _ hs => B4p w' m.bc m.cn m.cv m.ov m.cells m.own 1 (j.slot + 1) (by omega) hs) (by unfold C6; (repeat' constructor)) ?_
  rintro n' v rfl
  simp only [C6, List.cons_append, List.nil_append]
  (have zz:=trivial;repeat((first|clear zz|with_reducible first|refine A3 ?_|refine A5 fun _=>?_|refine A4 fun _=>?_);try simp(disch:=first|omega|assumption|((repeat(first|exact A1|exact uH|apply A2|apply uT));first|done|fail)|(simp;first|done|omega|fail))[]))
  refine B0 (qv, { m.dd with cn := n', cells := K9 m.cells 1 (j.slot + 1) }) ⟨rfl, rfl⟩ ?_
  simp only [P1, WoH.dd]
  (repeat' constructor)
 rw [if_neg d3] at hu
 rw [hu]
 have hcl : ∀ v, (K9 m.cells 0 v).length = m.cells.length := fun v => by unfold K9; split <;> simp
 unfold A5F
 by_cases o1 : 0 < j.old
 ·have hup : (E4 j).old = j.old := rfl
  simp only [hup]
  rw [if_pos o1]
  simp only [B8, M3, D3, E0, E7, WoH.up, E4] at hv ⊢
  (have zz:=trivial;repeat((first|clear zz|with_reducible first|refine A3 ?_|refine A5 fun _=>?_|refine A4 fun _=>?_);try simp(disch:=first|omega|assumption|((repeat(first|exact A1|exact uH|apply A2|apply uT));first|done|fail)|(simp;first|done|omega|fail))[c0, c3, c3', d0, d1, d2, d3, o1]))
  refine C0 (Hc := C6 m.bc m.cn m.cv m.ov m.cells m.own) w8 (fun w' _ hs => B3W w' m.bc m.cn m.cv m.ov m.cells m.own 0 1 (by omega) (by omega) hs) (by unfold C6; (repeat' constructor)) ?_
  rintro n' v rfl
  simp only [C6, List.cons_append, List.nil_append]
  (have zz:=trivial;repeat((first|clear zz|with_reducible first|refine A3 ?_|refine A5 fun _=>?_|refine A4 fun _=>?_);try simp(disch:=first|omega|assumption|((repeat(first|exact A1|exact uH|apply A2|apply uT));first|done|fail)|(simp;first|done|omega|fail))[o1]))
  refine C0 (Hc := [U6 m.bk m.keep]) A52 (fun w' _ hs => B8N w' m.bk m.keep (j.old - 1) (IntKind.i64.wrap (D5 m.cells 0 + 1)) h5 hs) (by (repeat' constructor)) ?_
  rintro _ v hv2
  simp only [List.cons_append, List.nil_append]
  (have zz:=trivial;repeat((first|clear zz|with_reducible first|refine A3 ?_|refine A5 fun _=>?_|refine A4 fun _=>?_);try simp(disch:=first|omega|assumption|((repeat(first|exact A1|exact uH|apply A2|apply uT));first|done|fail)|(simp;first|done|omega|fail))[]))
  refine C0 (Hc := [.pt b (.cells (D3 { j.b with st := j.b.st + 1 } [pv, qv, .int .i64 j.slot, .int .i64 j.old]) 94)]) W1 (fun w' _ hs => A4Y w' b _ { j.b with st := j.b.st + 1 } _ hs) (by unfold D3; (repeat' constructor)) ?_
  rintro _ v rfl
  simp only [List.cons_append, List.nil_append, D8, D3]
  (have zz:=trivial;repeat((first|clear zz|with_reducible first|refine A3 ?_|refine A5 fun _=>?_|refine A4 fun _=>?_);try simp(disch:=first|omega|assumption|((repeat(first|exact A1|exact uH|apply A2|apply uT));first|done|fail)|(simp;first|done|omega|fail))[]))
  refine B0 (qv, { m.dd with cn := n', cells := K9 m.cells 0 (IntKind.i64.wrap (D5 m.cells 0 + 1)), keep := l6 m.keep (j.old - 1) (IntKind.i64.wrap (D5 m.cells 0 + 1)) }) ⟨rfl, rfl⟩ ?_
  simp only [P1, WoH.dd]
  (repeat' constructor)
 ·have hup : (E4 j).old = j.old := rfl
  simp only [hup]
  rw [if_neg o1]
  simp only [B8, M3, D3, E0, E7, WoH.up, E4] at hv ⊢
  (have zz:=trivial;repeat((first|clear zz|with_reducible first|refine A3 ?_|refine A5 fun _=>?_|refine A4 fun _=>?_);try simp(disch:=first|omega|assumption|((repeat(first|exact A1|exact uH|apply A2|apply uT));first|done|fail)|(simp;first|done|omega|fail))[c0, c3, c3', d0, d1, d2, d3, o1]))
  refine C0 (Hc := C6 m.bc m.cn m.cv m.ov m.cells m.own) w8 (fun w' _ hs => B3W w' m.bc m.cn m.cv m.ov m.cells m.own 0 1 (by omega) (by omega) hs) (by unfold C6; (repeat' constructor)) ?_
  rintro n' v rfl
  simp only [C6, List.cons_append, List.nil_append]
  (have zz:=trivial;repeat((first|clear zz|with_reducible first|refine A3 ?_|refine A5 fun _=>?_|refine A4 fun _=>?_);try simp(disch:=first|omega|assumption|((repeat(first|exact A1|exact uH|apply A2|apply uT));first|done|fail)|(simp;first|done|omega|fail))[o1]))
  refine C0 (Hc := [.pt b (.cells (D3 { j.b with st := j.b.st + 1 } [pv, qv, .int .i64 j.slot, .int .i64 j.old]) 94)]) W1 (fun w' _ hs => A4Y w' b _ { j.b with st := j.b.st + 1 } _ hs) (by unfold D3; (repeat' constructor)) ?_
  rintro _ v rfl
  simp only [List.cons_append, List.nil_append, D8, D3]
  (have zz:=trivial;repeat((first|clear zz|with_reducible first|refine A3 ?_|refine A5 fun _=>?_|refine A4 fun _=>?_);try simp(disch:=first|omega|assumption|((repeat(first|exact A1|exact uH|apply A2|apply uT));first|done|fail)|(simp;first|done|omega|fail))[]))
  refine B0 (qv, { m.dd with cn := n', cells := K9 m.cells 0 (IntKind.i64.wrap (D5 m.cells 0 + 1)) }) ⟨rfl, rfl⟩ ?_
  simp only [P1, WoH.dd]
  (repeat' constructor)
end Go.Proofs.YtpnidmkaobfhiaaGreat
namespace Go.Proofs.YtpnidmkaobfhiaaGreat
open Go
theorem C05 {κ : Bool} {X : Nat → Prop} {S : List Nat} {w0 : World} {H Hk Hc : List Res} {K : Value → WP} {g : Value} {name : String} {args : List Value} {f : FuncId} {args' : Array Value} {α : Type} {φ : α → Value → Prop} {Hn : α → List Res} (hr : ∀ w, (callMethod g name args.toArray).run PR w = .ok (.enter f args') w)
  (hf : ∀ w, LW κ S w0 (Hc ++ Hk) w → LW false (B1 Hc) w Hc w → Fn PR B6 f args' w (Rn (B1 Hc) w φ Hn)) (hp : Part Hc H Hk) (hK : ∀ a v, φ a v → TW κ S w0 (Hn a ++ Hk) (K v)) : TW κ S w0 H (inv PR X g name args K) := fun w hw =>
 let h := hw.perm hp.perm
 ⟨f, args', hr w, (hf w h (h.sub (List.sublist_append_left _ _)).self).use fun v w' ⟨a, h1, h2⟩ hsk => hK a v h1 w' (h.part (h2.high fun _ => hsk))⟩
abbrev Q5 (b : Nat) : Value := .iface 92 (.pointer (some ⟨b, 0, none⟩))
abbrev A23 (b : Nat) : Value := .iface 99 (.pointer (some ⟨b, 0, none⟩))
abbrev A2k (b : Nat) : Value := .iface 102 (.pointer (some ⟨b, 0, none⟩))
abbrev A2j (b : Nat) : Value := .iface 105 (.pointer (some ⟨b, 0, none⟩))
theorem B4D (w : World) (b : Nat) (v : Value) : (callMethod (Q5 b) "gangplank/control.step" [v].toArray).run PR w = .ok (.enter 236 #[.pointer (some ⟨b, 0, none⟩), v]) w := by kernel_rfl
theorem B3g (w : World) (b : Nat) (v : Value) : (callMethod (A23 b) "gangplank/control.step" [v].toArray).run PR w = .ok (.enter 247 #[.pointer (some ⟨b, 0, none⟩), v]) w := by kernel_rfl
theorem B38 (w : World) (b : Nat) (v : Value) : (callMethod (A2k b) "gangplank/control.step" [v].toArray).run PR w = .ok (.enter 250 #[.pointer (some ⟨b, 0, none⟩), v]) w := by kernel_rfl
theorem B3S (w : World) (b : Nat) (v : Value) : (callMethod (A2j b) "gangplank/control.step" [v].toArray).run PR w = .ok (.enter 252 #[.pointer (some ⟨b, 0, none⟩), v]) w := by kernel_rfl
theorem x6 (w : World) (b : Nat) (v : Value) : (callMethod (Q5 b) "gangplank/control.waits" [v].toArray).run PR w = .ok (.enter 237 #[.pointer (some ⟨b, 0, none⟩), v]) w := by kernel_rfl
theorem A6Z (w : World) (b : Nat) (v : Value) : (callMethod (A23 b) "gangplank/control.waits" [v].toArray).run PR w = .ok (.enter 248 #[.pointer (some ⟨b, 0, none⟩), v]) w := by kernel_rfl
theorem A6Q (w : World) (b : Nat) (v : Value) : (callMethod (A2k b) "gangplank/control.waits" [v].toArray).run PR w = .ok (.enter 251 #[.pointer (some ⟨b, 0, none⟩), v]) w := by kernel_rfl
theorem A6Y (w : World) (b : Nat) (v : Value) : (callMethod (A2j b) "gangplank/control.waits" [v].toArray).run PR w = .ok (.enter 253 #[.pointer (some ⟨b, 0, none⟩), v]) w := by kernel_rfl
theorem B2C (w : World) (b : Nat) : (callMethod (Q5 b) "gangplank/control.common" ([] : List Value).toArray).run PR w = .ok (.enter 235 #[.pointer (some ⟨b, 0, none⟩)]) w := by kernel_rfl
theorem B2N (w : World) (b : Nat) : (callMethod (A23 b) "gangplank/control.common" ([] : List Value).toArray).run PR w = .ok (.enter 235 #[.pointer (some ⟨b, 0, none⟩)]) w := by kernel_rfl
theorem B16 (w : World) (b : Nat) : (callMethod (A2k b) "gangplank/control.common" ([] : List Value).toArray).run PR w = .ok (.enter 235 #[.pointer (some ⟨b, 0, none⟩)]) w := by kernel_rfl
theorem B2E (w : World) (b : Nat) : (callMethod (A2j b) "gangplank/control.common" ([] : List Value).toArray).run PR w = .ok (.enter 235 #[.pointer (some ⟨b, 0, none⟩)]) w := by kernel_rfl
theorem B4e (w : World) (v : Value) : Fn PR B6 235 #[v] w (fun u w' => u = v ∧ D6 [] w w') := by
 refine Fn.pure (A7P (TW.go (κ := false) (S := []) ?_))
 unfold A1H
 exact B4 rfl
theorem B1j {I : Value} {b : Nat} (hI : I = Q5 b ∨ I = A23 b ∨ I = A2k b ∨ I = A2j b) (w : World) : (callMethod I "gangplank/control.common" ([] : List Value).toArray).run PR w = .ok (.enter 235 #[.pointer (some ⟨b, 0, none⟩)]) w := by
 rcases hI with rfl | rfl | rfl | rfl
 ·exact B2C w b
 ·exact B2N w b
 ·exact B16 w b
 ·exact B2E w b
theorem B0K (w : World) (jb b : Nat) (I : Value) (j : JB) (rest : List Value) (T : TypeId) (hI : I = Q5 b ∨ I = A23 b ∨ I = A2k b ∨ I = A2j b) (h1 : bl w jb = some (.cells #[I] 98 (0, 0))) (h2 : bl w b = some (.cells (D3 j rest) T (0, 0))) :
  Fn PR B6 19 #[.pointer (some ⟨jb, 0, none⟩)] w (fun u w' => u = .int .i64 j.st ∧ D6 [] w w') := by
 refine Fn.pure (A82 (TW.go (κ := false) (S := []) ?_))
 unfold A2f
 have e1 : w.cell? ⟨jb, 0, none⟩ = some I := by rw [D7 h1]; rfl
 have e2 : w.cell? ⟨b, 1, none⟩ = some (.int .i64 j.st) := by rw [D7 h2]; rfl
 (have zz:=trivial;repeat((first|clear zz|with_reducible first|refine A3 ?_|refine A5 fun _=>?_|refine A4 fun _=>?_);try simp(disch:=first|omega|assumption|((repeat(first|exact A1|exact uH|apply A2|apply uT));first|done|fail)|(simp;first|done|omega|fail))[e1]))
 refine B9T (B1j hI) (fun w' _ => B4e w' _) ?_
 (have zz:=trivial;repeat((first|clear zz|with_reducible first|refine A3 ?_|refine A5 fun _=>?_|refine A4 fun _=>?_);try simp(disch:=first|omega|assumption|((repeat(first|exact A1|exact uH|apply A2|apply uT));first|done|fail)|(simp;first|done|omega|fail))[e2]))
 exact B4 rfl
theorem A8d (w : World) (jb b : Nat) (I : Value) (j : JB) (rest : List Value) (T : TypeId) (hI : I = Q5 b ∨ I = A23 b ∨ I = A2k b ∨ I = A2j b) (h1 : bl w jb = some (.cells #[I] 98 (0, 0))) (h2 : bl w b = some (.cells (D3 j rest) T (0, 0))) :
  Fn PR B6 20 #[.pointer (some ⟨jb, 0, none⟩)] w (fun u w' => u = j.ans.val ∧ D6 [] w w') := by
 refine Fn.pure (A70 (TW.go (κ := false) (S := []) ?_))
 unfold A14
 have e1 : w.cell? ⟨jb, 0, none⟩ = some I := by rw [D7 h1]; rfl
 have e2 : f9 w b 2 4 = some [.int .i64 j.ans.err, .int .i64 j.ans.bk, .bool j.ans.made, .int .i64 j.ans.count] := A4r (by rfl) (P9.bl h2)
 (have zz:=trivial;repeat((first|clear zz|with_reducible first|refine A3 ?_|refine A5 fun _=>?_|refine A4 fun _=>?_);try simp(disch:=first|omega|assumption|((repeat(first|exact A1|exact uH|apply A2|apply uT));first|done|fail)|(simp;first|done|omega|fail))[e1]))
 refine B9T (B1j hI) (fun w' _ => B4e w' _) ?_
 (have zz:=trivial;repeat((first|clear zz|with_reducible first|refine A3 ?_|refine A5 fun _=>?_|refine A4 fun _=>?_);try simp(disch:=first|omega|assumption|((repeat(first|exact A1|exact uH|apply A2|apply uT));first|done|fail)|(simp;first|done|omega|fail))[e2]))
 exact B4 rfl
theorem p9 (w : World) (jb b : Nat) (I : Value) (j : JB) (rest : List Value) (T : TypeId) (wv : Value) (x : Bool) (f : FuncId) (args' : Array Value) (hI : I = Q5 b ∨ I = A23 b ∨ I = A2k b ∨ I = A2j b) (h1 : bl w jb = some (.cells #[I] 98 (0, 0))) (h2 : bl w b = some (.cells (D3 j rest) T (0, 0)))
  (hr : ∀ w, (callMethod I "gangplank/control.waits" [wv].toArray).run PR w = .ok (.enter f args') w) (hf : ∀ w', KS false [] w w' → Fn PR B6 f args' w' (fun v w'' => v = .bool x ∧ D6 [] w' w'')) :
  Fn PR B6 15 #[.pointer (some ⟨jb, 0, none⟩), wv] w (fun u w' => u = .bool (!decide (j.st = -1) && !x) ∧ D6 [] w w') := by
 refine Fn.pure (A8c (TW.go (κ := false) (S := []) ?_))
 unfold A2w
 have k1 : ∀ w', KS false [] w w' → bl w' jb = some (.cells #[I] 98 (0, 0)) := fun w' hk => hk.2.1 _ _ (by simp) rfl h1
 have k2 : ∀ w', KS false [] w w' → bl w' b = some (.cells (D3 j rest) T (0, 0)) := fun w' hk => hk.2.1 _ _ (by simp) rfl h2
 refine D4 m6 (fun w' hw' => B0K w' jb b I j rest T hI (k1 w' hw'.ks) (k2 w' hw'.ks)) ?_
 have e1 : w.cell? ⟨jb, 0, none⟩ = some I := by rw [D7 h1]; rfl
 by_cases c1 : j.st = -1
 ·(have zz:=trivial;repeat((first|clear zz|with_reducible first|refine A3 ?_|refine A5 fun _=>?_|refine A4 fun _=>?_);try simp(disch:=first|omega|assumption|((repeat(first|exact A1|exact uH|apply A2|apply uT));first|done|fail)|(simp;first|done|omega|fail))[c1]))
  exact B4 (by simp [c1])
 ·(have zz:=trivial;repeat((first|clear zz|with_reducible first|refine A3 ?_|refine A5 fun _=>?_|refine A4 fun _=>?_);try simp(disch:=first|omega|assumption|((repeat(first|exact A1|exact uH|apply A2|apply uT));first|done|fail)|(simp;first|done|omega|fail))[c1, e1]))
  refine B9T hr (fun w' hw' => hf w' hw'.ks) ?_
  cases x
  ·(have zz:=trivial;repeat((first|clear zz|with_reducible first|refine A3 ?_|refine A5 fun _=>?_|refine A4 fun _=>?_);try simp(disch:=first|omega|assumption|((repeat(first|exact A1|exact uH|apply A2|apply uT));first|done|fail)|(simp;first|done|omega|fail))[c1]))
   exact B4 (by first | rfl | simp [c1])
  ·(have zz:=trivial;repeat((first|clear zz|with_reducible first|refine A3 ?_|refine A5 fun _=>?_|refine A4 fun _=>?_);try simp(disch:=first|omega|assumption|((repeat(first|exact A1|exact uH|apply A2|apply uT));first|done|fail)|(simp;first|done|omega|fail))[c1]))
   exact B4 (by first | rfl | simp [c1])
theorem A6A (w : World) (a b : Value) : Fn PR B6 237 #[a, b] w (fun u w' => u = .bool false ∧ D6 [] w w') := by
 refine Fn.pure (A5g (TW.go (κ := false) (S := []) ?_))
 unfold A0k
 exact B4 rfl
theorem B4n (w : World) (a b : Value) : Fn PR B6 253 #[a, b] w (fun u w' => u = .bool false ∧ D6 [] w w') := by
 refine Fn.pure (A74 (TW.go (κ := false) (S := []) ?_))
 unfold A2K
 exact B4 rfl
end Go.Proofs.YtpnidmkaobfhiaaGreat
namespace Go.Proofs.YtpnidmkaobfhiaaGreat
open Go
def F7 (jb : Nat) (I : Value) : Res := .pt jb (.cells #[I] 98)
def A3g (j : JU) (x : WS) : JU × WS × A0N := if j.b.st = -1 then (j, x, false, false, false) else H0 j x
set_option maxHeartbeats 1000000 in
theorem B4u (w : World) (jb b : Nat) (j : JU) (pv qv : Value) (m : WoH) (hx : WsOk m.ws) (hp : j.pins.length ≤ 500) (hpl : j.pool.length ≤ 1000) (hst : -1 ≤ j.b.st ∧ j.b.st ≤ 500) (hsl : -1 ≤ j.slot ∧ j.slot ≤ 100) (hold : 0 ≤ j.old ∧ j.old ≤ 1000)
  (hv : ∀ w', KS false (B1 (F7 jb (Q5 b) :: M3 b j pv qv :: P1 j qv :: B8 m)) w w' → D2 w' pv j.pool.length (j.pool.flatMap E6))
  (hw : LW false (B1 (F7 jb (Q5 b) :: M3 b j pv qv :: P1 j qv :: B8 m)) w (F7 jb (Q5 b) :: M3 b j pv qv :: P1 j qv :: B8 m) w) :
  Fn PR B6 17 #[.pointer (some ⟨jb, 0, none⟩), .pointer (some ⟨m.b, 0, none⟩)] w (Rn (B1 (F7 jb (Q5 b) :: M3 b j pv qv :: P1 j qv :: B8 m)) w (fun (y : Value × WoD) u => u = D8 (A3g j m.ws).2.2 ∧ (m.up y.2).ws = (A3g j m.ws).2.1) fun y => F7 jb (Q5 b) :: M3 b (A3g j m.ws).1 pv y.1 :: P1 (A3g j m.ws).1 y.1 :: B8 (m.up y.2)) := by
 refine A3P (TW.goH (κ := false) ?_ hw)
 unfold w6
 generalize hS : B1 (F7 jb (Q5 b) :: M3 b j pv qv :: P1 j qv :: B8 m) = S at *
 have hR := fun (w' : World) (h1 : bl w' jb = some (.cells #[Q5 b] 98 (0, 0))) (h2 : bl w' b = some (.cells (D3 j.b [pv, qv, .int .i64 j.slot, .int .i64 j.old]) 94 (0, 0))) =>
  p9 w' jb b (Q5 b) j.b _ _ (.pointer (some ⟨m.b, 0, none⟩)) false _ _ (Or.inl rfl) h1 h2 (fun w => x6 w b _) (fun w'' _ => A6A w'' _ _)
 (have zz:=trivial;repeat((first|clear zz|with_reducible first|refine A3 ?_|refine A5 fun _=>?_|refine A4 fun _=>?_);try simp(disch:=first|omega|assumption|((repeat(first|exact A1|exact uH|apply A2|apply uT));first|done|fail)|(simp;first|done|omega|fail))[]))
 refine D4 Q3 (fun w' hw' => hR w' (hw'.pt (b := jb) (by unfold F7; (repeat constructor))) (hw'.pt (b := b) (by unfold M3; (repeat constructor)))) ?_
 unfold A3g
 by_cases c1 : j.b.st = -1
 ·simp only [if_pos c1]
  (have zz:=trivial;repeat((first|clear zz|with_reducible first|refine A3 ?_|refine A5 fun _=>?_|refine A4 fun _=>?_);try simp(disch:=first|omega|assumption|((repeat(first|exact A1|exact uH|apply A2|apply uT));first|done|fail)|(simp;first|done|omega|fail))[c1]))
  exact B0 (qv, m.dd) ⟨rfl, rfl⟩ (by simp only [WoH.dd, WoH.up]; (repeat' constructor))
 ·simp only [if_neg c1]
  simp only [F7]
  (have zz:=trivial;repeat((first|clear zz|with_reducible first|refine A3 ?_|refine A5 fun _=>?_|refine A4 fun _=>?_);try simp(disch:=first|omega|assumption|((repeat(first|exact A1|exact uH|apply A2|apply uT));first|done|fail)|(simp;first|done|omega|fail))[c1]))
  refine C05 (Hc := M3 b j pv qv :: P1 j qv :: B8 m) (fun w => B4D w b _) (fun w' hw' hs => C3C w' b j pv qv m hx hp hpl (by omega) hsl hold (fun w'' hk => hv w'' ?_) hs) (by simp only [B8]; (repeat' constructor)) ?_
  ·refine hw'.ks.then hk fun x hx => ?_
   obtain ⟨r, hr, hxr⟩ := K5.1 hx
   exact (hw'.own r (List.mem_append_left _ hr) x hxr).1
  rintro ⟨qv', d⟩ v ⟨rfl, hv2⟩
  generalize H0 j m.ws = us at *
  simp only [D8, B8, List.cons_append, List.nil_append]
  (have zz:=trivial;repeat((first|clear zz|with_reducible first|refine A3 ?_|refine A5 fun _=>?_|refine A4 fun _=>?_);try simp(disch:=first|omega|assumption|((repeat(first|exact A1|exact uH|apply A2|apply uT));first|done|fail)|(simp;first|done|omega|fail))[]))
  exact B0 (qv', d) ⟨rfl, hv2⟩ (by (repeat' constructor))
theorem B75 (w : World) (who : Int) (pa : Option Addr) (pn pc : Nat) (pk : ByteArray) (shard : Int) :
  Fn PR B6 10 #[.int .i64 who, .agg #[.int .i64 1, .string pk, .slice pa pn pc, .int .i64 shard]] w (Rn [] w (fun (x : Nat × Nat) u => u = .pointer (some ⟨x.1, 0, none⟩)) fun x => F7 x.1 (Q5 x.2) :: [.pt x.2 (.cells (D3 ⟨who, 0, noA⟩ [.slice pa pn pc, .slice none 0 0, .int .i64 0, .int .i64 0]) 94)]) := by
 refine A7y (TW.go (κ := false) (S := []) ?_)
 unfold A3W
 (have zz:=trivial;repeat((first|clear zz|with_reducible first|refine A3 ?_|refine A5 fun _=>?_|refine A4 fun _=>?_);try simp(disch:=first|omega|assumption|((repeat(first|exact A1|exact uH|apply A2|apply uT));first|done|fail)|(simp;first|done|omega|fail))[]))
 rename_i a1 a2 a3 a4
 refine B0 (a4, a3) rfl ?_
 simp only [F7, D3, noA]
 (repeat' constructor)
end Go.Proofs.YtpnidmkaobfhiaaGreat
namespace Go.Proofs.YtpnidmkaobfhiaaGreat
open Go
def v7 (b : Nat) (j : JE) (tv : Value) : Res := .pt b (.cells (D3 j.b [.int .i64 j.shard, .int .i64 (j.place : Nat), tv]) 101)
abbrev K8 := List (Value × List EnV)
structure WoX where
 cn : Int
 own : List Int
 tv : Value
 pv : Value
 ts : K8
 pl : List Nat
def WoH.ux (m : WoH) (d : WoX) : WoH := { m with cn := d.cn, own := d.own, tv := d.tv, pv := d.pv, ts := d.ts, pl := d.pl }
def WoH.dx (m : WoH) : WoX := ⟨m.cn, m.own, m.tv, m.pv, m.ts, m.pl⟩
def c6 (a b : K8) : Prop := ∀ t ∈ a, t ∈ b
theorem c6.left {a b : K8} (h : c6 a b) (c : K8) : c6 a (b ++ c) := fun t ht => List.mem_append_left _ (h t ht)
def A8l (a b : K8) (t : List EnV) : Prop := c6 a b ∧ ∀ x ∈ b, x ∈ a ∨ x.2 = t
theorem A8l.same (a : K8) (t : List EnV) : A8l a a t := ⟨fun x hx => hx, fun x hx => Or.inl hx⟩
theorem A8l.push (a : K8) (v : Value) (t : List EnV) : A8l a (a ++ [(v, t)]) t := ⟨fun x hx => List.mem_append_left _ hx, fun x hx => by
 rcases List.mem_append.1 hx with hx | hx
 ·exact Or.inl hx
 ·rw [List.mem_singleton.1 hx]; exact Or.inr rfl⟩
structure TabsOk (m : WoH) (P : K8) : Prop where
 few : m.ts.length ≤ 1000
 pl : m.pl.length = m.ts.length
 len : ∀ t ∈ m.ts, t.2.length ≤ 1000000
 keys : ∀ t ∈ m.ts, L5 t.2
 own : m.own.length ≤ 1024
 pool : c6 m.ts P
theorem B09 {l : List Nat} {i : Nat} (h : i < l.length) : (V6 l)[i]? = some (.int .i64 (l.getD i 0 : Nat)) := by
 unfold V6; rw [List.getElem?_map, List.getElem?_eq_getElem h, List.getD_eq_getElem?_getD, List.getElem?_eq_getElem h]; rfl
theorem A8r {α : Type} {f : α → Value} (l : List α) (i : Nat) (x : α) (h : i < l.length) : U7 (l.map f) i [f x] = (l.set i x).map f := by rw [B6N (by simpa using h), List.map_set]
theorem A1w {κ : Bool} {S : List Nat} {w0 : World} {H : List Res} {K0 : WP} {P : K8} {v : Value} {l : List EnV} (hm : C8 P ∈ H) (ht : (v, l) ∈ P) (h : ∀ a c, v = .slice a l.length c → TW κ S w0 H K0) : TW κ S w0 H K0 := fun w hw => by
 obtain ⟨a, c, e⟩ := U9.form ((hw.hold _ hm : B3p P w) _ ht)
 exact h a c e w hw
set_option maxHeartbeats 2000000 in
theorem C2E (w : World) (b : Nat) (j : JE) (tv : Value) (m : WoH) (P : K8) (hx : TabsOk m P) (hst : 0 ≤ j.b.st ∧ j.b.st ≤ 500) (ht : (tv, j.table) ∈ P)
  (hw : LW false (B1 (v7 b j tv :: C8 P :: B8 m)) w (v7 b j tv :: C8 P :: B8 m) w) :
  Fn PR B6 247 #[.pointer (some ⟨b, 0, none⟩), .pointer (some ⟨m.b, 0, none⟩)] w (Rn (B1 (v7 b j tv :: C8 P :: B8 m)) w (fun (y : Value × WoX × K8) u => u = D8 (M1 j m.ws).2.2 ∧ (m.ux y.2.1).ws = (M1 j m.ws).2.1 ∧ c6 y.2.1.ts y.2.2 ∧ (y.1, (M1 j m.ws).1.table) ∈ y.2.2 ∧ A8l P y.2.2 (M1 j m.ws).1.table) fun y => v7 b (M1 j m.ws).1 y.1 :: C8 y.2.2 :: B8 (m.ux y.2.1)) := by
 refine A6k (TW.goH (κ := false) ?_ hw)
 unfold A1Q
 obtain ⟨h1, h2, h3, h4, h5, h6⟩ := hx
 have htl : m.ws.tabs.length = m.ts.length := by simp [WoH.ws]
 generalize hS : B1 (v7 b j tv :: C8 P :: B8 m) = S at *
 by_cases c1 : A2n m.ws j.shard = false
 ·have e : M1 j m.ws = ({ j with b := j.b.refuse 1 }, m.ws, true, true, false) := if_pos c1
  rw [e]
  simp only [B8, v7, D3, E0, E7, WoH.ux]
  have c1' : j.shard < 0 ∨ (m.ts.length : Int) ≤ j.shard := by
   unfold A2n at c1; rw [htl] at c1
   simp only [Bool.and_eq_false_iff, decide_eq_false_iff_not] at c1
   omega
  refine H7 (e := 55) (k := 1) (v := m.tv) (q := m.ts.length) (xs := m.ts.map (·.1)) (by (repeat constructor)) fun ta tc hta => ?_
  rw [hta]
  rcases c1' with c1 | c1
  ·(have zz:=trivial;repeat((first|clear zz|with_reducible first|refine A3 ?_|refine A5 fun _=>?_|refine A4 fun _=>?_);try simp(disch:=first|omega|assumption|((repeat(first|exact A1|exact uH|apply A2|apply uT));first|done|fail)|(simp;first|done|omega|fail))[c1]))
   refine C0 (Hc := [.pt b (.cells (D3 j.b [.int .i64 j.shard, .int .i64 (j.place : Nat), tv]) 101)]) S1 (fun w' _ hs => A2m w' b _ j.b _ 1 hs) (by unfold D3; (repeat' constructor)) ?_
   rintro _ v rfl
   simp only [List.cons_append, List.nil_append, D8, D3]
   (have zz:=trivial;repeat((first|clear zz|with_reducible first|refine A3 ?_|refine A5 fun _=>?_|refine A4 fun _=>?_);try simp(disch:=first|omega|assumption|((repeat(first|exact A1|exact uH|apply A2|apply uT));first|done|fail)|(simp;first|done|omega|fail))[]))
   refine B0 (tv, m.dx, P) ⟨rfl, rfl, h6, ht, .same _ _⟩ ?_
   simp only [WoH.dx, hta]
   (repeat' constructor)
  ·have c2 : ¬ j.shard < 0 := by omega
   have c3 : ¬ j.shard < (m.ts.length : Nat) := by omega
   (have zz:=trivial;repeat((first|clear zz|with_reducible first|refine A3 ?_|refine A5 fun _=>?_|refine A4 fun _=>?_);try simp(disch:=first|omega|assumption|((repeat(first|exact A1|exact uH|apply A2|apply uT));first|done|fail)|(simp;first|done|omega|fail))[c1, c2, c3]))
   refine C0 (Hc := [.pt b (.cells (D3 j.b [.int .i64 j.shard, .int .i64 (j.place : Nat), tv]) 101)]) S1 (fun w' _ hs => A2m w' b _ j.b _ 1 hs) (by unfold D3; (repeat' constructor)) ?_
   rintro _ v rfl
   simp only [List.cons_append, List.nil_append, D8, D3]
   (have zz:=trivial;repeat((first|clear zz|with_reducible first|refine A3 ?_|refine A5 fun _=>?_|refine A4 fun _=>?_);try simp(disch:=first|omega|assumption|((repeat(first|exact A1|exact uH|apply A2|apply uT));first|done|fail)|(simp;first|done|omega|fail))[]))
   refine B0 (tv, m.dx, P) ⟨rfl, rfl, h6, ht, .same _ _⟩ ?_
   simp only [WoH.dx, hta]
   (repeat' constructor)
 have c1t : A2n m.ws j.shard = true := by simpa using c1
 have c2 : 0 ≤ j.shard ∧ j.shard < m.ts.length := by unfold A2n at c1t; rw [htl] at c1t; simpa using c1t
 obtain ⟨i, hi⟩ : ∃ i : Nat, j.shard = i := ⟨j.shard.toNat, by omega⟩
 have hlt : i < m.ts.length := by omega
 have hlp : i < m.pl.length := by omega
 have n1 : ¬ ((i : Nat) : Int) < 0 := by omega
 have n2 : ¬ (m.ts.length : Int) ≤ (i : Nat) := by omega
 have n3 : ¬ m.ts.length ≤ i := by omega
 obtain ⟨⟨tv0, tl⟩, hx0⟩ : ∃ x, m.ts[i]? = some x := ⟨_, List.getElem?_eq_getElem hlt⟩
 have hxm := List.mem_of_getElem? hx0
 have g0 : (m.ts.map (·.1))[i]? = some tv0 := by rw [List.getElem?_map, hx0]; rfl
 have gp := B09 hlp
 have gg : m.ts[i]'hlt = (tv0, tl) := (List.getElem?_eq_some_iff.1 hx0).2
 have hti : Z2 m.ws j.shard = tl := by simp [Z2, WoH.ws, hi, List.getD_eq_getElem?_getD, hx0]
 have hpi : A1L m.ws j.shard = m.pl.getD i 0 := by simp [A1L, WoH.ws, hi]
 obtain ⟨pn, hpn⟩ : ∃ z, z = m.pl.getD i 0 := ⟨_, rfl⟩
 rw [← hpn] at gp hpi
 have gpp := (List.getElem?_eq_some_iff.1 gp).2
 have hnow : m.ws.now = m.now := rfl
 unfold M1
 rw [if_neg c1, hti, hpi, hnow]
 by_cases d0 : j.b.st = 0
 ·simp only [if_pos d0]
  simp only [B8, v7, D3, E0, E7, WoH.ux, JE.up, hi]
  refine H7 (e := 55) (k := 1) (v := m.tv) (q := m.ts.length) (xs := m.ts.map (·.1)) (by (repeat constructor)) fun ta tc hta => ?_
  rw [hta]
  (have zz:=trivial;repeat((first|clear zz|with_reducible first|refine A3 ?_|refine A5 fun _=>?_|refine A4 fun _=>?_);try simp(disch:=first|omega|assumption|((repeat(first|exact A1|exact uH|apply A2|apply uT));first|done|fail)|(simp;first|done|omega|fail))[d0, hlt, n1, n2, n3]))
  refine C0 (Hc := C6 m.bc m.cn m.cv m.ov m.cells m.own) r8 (fun w' _ hs => B1z w' m.bc m.cn m.cv m.ov m.cells m.own (i : Nat) j.b.who h5 hs) (by unfold C6; (repeat' constructor)) ?_
  rintro n' v ⟨r, rfl⟩
  simp only [C6, List.cons_append, List.nil_append]
  (have zz:=trivial;repeat((first|clear zz|with_reducible first|refine A3 ?_|refine A5 fun _=>?_|refine A4 fun _=>?_);try simp(disch:=first|omega|assumption|((repeat(first|exact A1|exact uH|apply A2|apply uT));first|done|fail)|(simp;first|done|omega|fail))[]))
  refine B0 (tv, { m.dx with cn := n', own := T4 m.own (i : Nat) j.b.who, tv := .slice ta m.ts.length tc }, P) ⟨rfl, by simp only [WoH.ws, WoH.dx], h6, ht, .same _ _⟩ ?_
  simp only [WoH.dx, d0]
  (repeat' constructor)
 simp only [if_neg d0]
 by_cases d1 : j.b.st = 1
 ·simp only [if_pos d1]
  simp only [B8, v7, D3, E0, E7, WoH.ux, JE.up, hi]
  refine P8 (e := 55) (k := 1) (v := m.tv) (q := m.ts.length) (xs := m.ts.map (·.1)) (by (repeat constructor)) (by omega) fun tg tc hta => ?_
  refine P8 (e := 3) (k := 1) (v := m.pv) (q := m.pl.length) (xs := V6 m.pl) (by (repeat constructor)) (by omega) fun pg pc hpa => ?_
  rw [hta, hpa]
  (have zz:=trivial;repeat((first|clear zz|with_reducible first|refine A3 ?_|refine A5 fun _=>?_|refine A4 fun _=>?_);try simp(disch:=first|omega|assumption|((repeat(first|exact A1|exact uH|apply A2|apply uT));first|done|fail)|(simp;first|done|omega|fail))[d0, d1, hlt, hlp, n1, n2, n3, g0, gp, gg, gpp]))
  refine G7 B36 (fun w' hw' => C5B w' tv0 tl pn 4 m.now (h4 _ hxm) (h3 _ hxm) (A7d (t := (tv0, tl)) hw' (ts := P) (by (repeat constructor)) (h6 _ hxm))) ?_
  rintro r _ rfl
  refine A77 (e := 155) (k := 4) (v := r) (q := (H5 tl pn 4 m.now).1.length) (xs := (H5 tl pn 4 m.now).1.flatMap E3) (by (repeat constructor)) fun hr1 hr2 hr3 => ?_
  have hr4 : r.cells.toList = [r] := by rw [hr1]
  (have zz:=trivial;repeat((first|clear zz|with_reducible first|refine A3 ?_|refine A5 fun _=>?_|refine A4 fun _=>?_);try simp(disch:=first|omega|assumption|((repeat(first|exact A1|exact uH|apply A2|apply uT));first|done|fail)|(simp;first|done|omega|fail))[hr1, hr2, hr3, hr4]))
  refine A1v (r := r) (l := (H5 tl pn 4 m.now).1) (ts := P) (by (repeat' constructor)) ?_
  refine B0 (r, { m.dx with tv := .slice (some ⟨tg, 0, none⟩) m.ts.length tc, pv := .slice (some ⟨pg, 0, none⟩) m.pl.length pc }, P ++ [(r, (H5 tl pn 4 m.now).1)]) ⟨rfl, by simp only [WoH.ws, WoH.dx], h6.left _, List.mem_append_right _ (List.mem_singleton.2 rfl), .push _ _ _⟩ ?_
  simp only [WoH.dx, d1]
  (repeat' constructor)
 simp only [if_neg d1]
 by_cases d2 : j.b.st = 2
 ·simp only [if_pos d2]
  simp only [B8, v7, D3, E0, E7, WoH.ux, JE.up, hi]
  refine P8 (e := 55) (k := 1) (v := m.tv) (q := m.ts.length) (xs := m.ts.map (·.1)) (by (repeat constructor)) (by omega) fun tg tc hta => ?_
  refine P8 (e := 3) (k := 1) (v := m.pv) (q := m.pl.length) (xs := V6 m.pl) (by (repeat constructor)) (by omega) fun pg pc hpa => ?_
  rw [hta, hpa]
  refine A1w (P := P) (l := j.table) (by (repeat constructor)) ht fun xa xc hxa => ?_
  subst hxa
  (have zz:=trivial;repeat((first|clear zz|with_reducible first|refine A3 ?_|refine A5 fun _=>?_|refine A4 fun _=>?_);try simp(disch:=first|omega|assumption|((repeat(first|exact A1|exact uH|apply A2|apply uT));first|done|fail)|(simp;first|done|omega|fail))[d0, d1, d2, hlt, hlp, n1, n2, n3, g0, gp, gg, gpp]))
  refine N0 (by (repeat constructor)) (by simp) (by simp; omega) (by simp) ?_
  have e1 : U7 (m.ts.map (·.1)) i (Value.slice xa j.table.length xc).cells.toList = (m.ts.set i (.slice xa j.table.length xc, j.table)).map (·.1) := A8r (f := (·.1)) m.ts i (.slice xa j.table.length xc, j.table) hlt
  rw [e1]
  (have zz:=trivial;repeat((first|clear zz|with_reducible first|refine A3 ?_|refine A5 fun _=>?_|refine A4 fun _=>?_);try simp(disch:=first|omega|assumption|((repeat(first|exact A1|exact uH|apply A2|apply uT));first|done|fail)|(simp;first|done|omega|fail))[hlp]))
  refine N0 (by (repeat constructor)) (by simp) (by simp; omega) (by simp) ?_
  have e2 : U7 (V6 m.pl) i (Value.int .i64 (j.place : Nat)).cells.toList = V6 (m.pl.set i j.place) := A8r (f := fun n : Nat => Value.int .i64 (n : Int)) m.pl i j.place hlp
  rw [e2]
  (have zz:=trivial;repeat((first|clear zz|with_reducible first|refine A3 ?_|refine A5 fun _=>?_|refine A4 fun _=>?_);try simp(disch:=first|omega|assumption|((repeat(first|exact A1|exact uH|apply A2|apply uT));first|done|fail)|(simp;first|done|omega|fail))[]))
  refine B0 (.slice xa j.table.length xc, { m.dx with tv := .slice (some ⟨tg, 0, none⟩) m.ts.length tc, pv := .slice (some ⟨pg, 0, none⟩) m.pl.length pc, ts := m.ts.set i (.slice xa j.table.length xc, j.table), pl := m.pl.set i j.place }, P) ⟨rfl, by simp only [WoH.ws, WoH.dx, List.map_set, Int.toNat_natCast], fun t ht' => ?_, ht, .same _ _⟩ ?_
  ·rcases List.mem_or_eq_of_mem_set ht' with ht' | rfl
   ·exact h6 t ht'
   ·exact ht
  simp only [WoH.dx, List.length_set, List.map_set, d2]
  (repeat' constructor)
 simp only [if_neg d2]
 simp only [B8, v7, D3, E0, E7, WoH.ux, JE.up, hi]
 refine H7 (e := 55) (k := 1) (v := m.tv) (q := m.ts.length) (xs := m.ts.map (·.1)) (by (repeat constructor)) fun ta tc hta => ?_
 rw [hta]
 (have zz:=trivial;repeat((first|clear zz|with_reducible first|refine A3 ?_|refine A5 fun _=>?_|refine A4 fun _=>?_);try simp(disch:=first|omega|assumption|((repeat(first|exact A1|exact uH|apply A2|apply uT));first|done|fail)|(simp;first|done|omega|fail))[d0, d1, d2, hlt, n1, n2, n3]))
 refine C0 (Hc := C6 m.bc m.cn m.cv m.ov m.cells m.own) W7 (fun w' _ hs => A4m w' m.bc m.cn m.cv m.ov m.cells m.own (i : Nat) j.b.who h5 hs) (by unfold C6; (repeat' constructor)) ?_
 rintro n' v ⟨r, rfl⟩
 simp only [C6, List.cons_append, List.nil_append]
 (have zz:=trivial;repeat((first|clear zz|with_reducible first|refine A3 ?_|refine A5 fun _=>?_|refine A4 fun _=>?_);try simp(disch:=first|omega|assumption|((repeat(first|exact A1|exact uH|apply A2|apply uT));first|done|fail)|(simp;first|done|omega|fail))[]))
 refine C0 (Hc := [.pt b (.cells (D3 { j.b with st := j.b.st + 1 } [.int .i64 (i : Nat), .int .i64 (j.place : Nat), tv]) 101)]) W1 (fun w' _ hs => A4Y w' b _ { j.b with st := j.b.st + 1 } _ hs) (by unfold D3; (repeat' constructor)) ?_
 rintro _ v rfl
 simp only [List.cons_append, List.nil_append, D8, D3]
 (have zz:=trivial;repeat((first|clear zz|with_reducible first|refine A3 ?_|refine A5 fun _=>?_|refine A4 fun _=>?_);try simp(disch:=first|omega|assumption|((repeat(first|exact A1|exact uH|apply A2|apply uT));first|done|fail)|(simp;first|done|omega|fail))[]))
 refine B0 (tv, { m.dx with cn := n', own := K7 m.own (i : Nat) j.b.who, tv := .slice ta m.ts.length tc }, P) ⟨rfl, by simp only [WoH.ws, WoH.dx], h6, ht, .same _ _⟩ ?_
 simp only [WoH.dx]
 (repeat' constructor)
end Go.Proofs.YtpnidmkaobfhiaaGreat
namespace Go.Proofs.YtpnidmkaobfhiaaGreat
open Go
def A2Y (b : Nat) (j : JB) : Res := .pt b (.cells (D3 j []) 104)
set_option maxHeartbeats 2000000 in
theorem C14 (w : World) (b : Nat) (j : JB) (m : WoH) (P : K8) (hx : TabsOk m P) (h0 : 1 ≤ m.ts.length) (hst : 0 ≤ j.st ∧ j.st ≤ 5000)
  (hw : LW false (B1 (A2Y b j :: C8 P :: B8 m)) w (A2Y b j :: C8 P :: B8 m) w) :
  Fn PR B6 250 #[.pointer (some ⟨b, 0, none⟩), .pointer (some ⟨m.b, 0, none⟩)] w (Rn (B1 (A2Y b j :: C8 P :: B8 m)) w (fun (d : WoX) u => u = D8 (Q2 j m.ws).2.2 ∧ (m.ux d).ws = (Q2 j m.ws).2.1 ∧ d.ts = m.ts) fun d => A2Y b (Q2 j m.ws).1 :: C8 P :: B8 (m.ux d)) := by
 refine A7g (TW.goH (κ := false) ?_ hw)
 unfold A13
 obtain ⟨h1, h2, h3, h4, h5, h6⟩ := hx
 have htl : m.ws.tabs.length = m.ts.length := by simp [WoH.ws]
 generalize hS : B1 (A2Y b j :: C8 P :: B8 m) = S at *
 obtain ⟨k, hk⟩ : ∃ k : Nat, j.st = k := ⟨j.st.toNat, by omega⟩
 have dv : j.st.tdiv (m.ts.length : Nat) = ((k / m.ts.length : Nat) : Int) := by rw [hk]; rfl
 have md : j.st.tmod (m.ts.length : Nat) = ((k % m.ts.length : Nat) : Int) := by rw [hk]; rfl
 have em : j.st % (m.ts.length : Nat) = ((k % m.ts.length : Nat) : Int) := by rw [hk]; rfl
 have hlt : k % m.ts.length < m.ts.length := Nat.mod_lt _ (by omega)
 have nz : ¬ ((m.ts.length : Nat) : Int) = 0 := by omega
 have q0 : k / m.ts.length = 0 ↔ k < m.ts.length := by rw [Nat.div_eq_zero_iff]; omega
 have q1 : k / m.ts.length = 1 ↔ (m.ts.length ≤ k ∧ k < 2 * m.ts.length) := by
  rw [Nat.div_eq_iff (by omega)]; omega
 have hqb : k / m.ts.length ≤ 5000 := Nat.le_trans (Nat.div_le_self _ _) (by omega)
 unfold Q2
 simp only [htl, em]
 generalize k % m.ts.length = i at *
 generalize k / m.ts.length = q at *
 have wq : IntKind.i64.wrap ((q : Nat) : Int) = ((q : Nat) : Int) := N1 (by omega) (by omega)
 simp only [B8, A2Y, D3, E0, E7, WoH.ux]
 by_cases d0 : j.st < (m.ts.length : Nat)
 ·simp only [if_pos d0]
  have e0 : q = 0 := q0.2 (by omega)
  subst e0
  refine H7 (e := 55) (k := 1) (v := m.tv) (q := m.ts.length) (xs := m.ts.map (·.1)) (by (repeat constructor)) fun ta tc hta => ?_
  rw [hta]
  (have zz:=trivial;repeat((first|clear zz|with_reducible first|refine A3 ?_|refine A5 fun _=>?_|refine A4 fun _=>?_);try simp(disch:=first|omega|assumption|((repeat(first|exact A1|exact uH|apply A2|apply uT));first|done|fail)|(simp;first|done|omega|fail))[B5W, j6, dv, md, wq, nz]))
  refine C0 (Hc := C6 m.bc m.cn m.cv m.ov m.cells m.own) r8 (fun w' _ hs => B1z w' m.bc m.cn m.cv m.ov m.cells m.own (i : Nat) j.who h5 hs) (by unfold C6; (repeat' constructor)) ?_
  rintro n' v ⟨r, rfl⟩
  simp only [C6, List.cons_append, List.nil_append]
  (have zz:=trivial;repeat((first|clear zz|with_reducible first|refine A3 ?_|refine A5 fun _=>?_|refine A4 fun _=>?_);try simp(disch:=first|omega|assumption|((repeat(first|exact A1|exact uH|apply A2|apply uT));first|done|fail)|(simp;first|done|omega|fail))[dv, md, wq]))
  refine B0 { m.dx with cn := n', own := T4 m.own (i : Nat) j.who, tv := .slice ta m.ts.length tc } ⟨rfl, by simp only [WoH.ws, WoH.dx], rfl⟩ ?_
  simp only [WoH.dx]
  (repeat' constructor)
 simp only [if_neg d0]
 have n0 : ¬ q = 0 := fun h => by have := q0.1 h; omega
 by_cases d1 : j.st < 2 * (m.ts.length : Nat)
 ·simp only [if_pos d1]
  have e1 : q = 1 := q1.2 (by omega)
  subst e1
  obtain ⟨⟨tv0, tl⟩, hx0⟩ : ∃ x, m.ts[i]? = some x := ⟨_, List.getElem?_eq_getElem hlt⟩
  have hxm := List.mem_of_getElem? hx0
  have g0 : (m.ts.map (·.1))[i]? = some tv0 := by rw [List.getElem?_map, hx0]; rfl
  have gg : m.ts[i]'hlt = (tv0, tl) := (List.getElem?_eq_some_iff.1 hx0).2
  have hti : Z2 m.ws (i : Nat) = tl := by simp [Z2, WoH.ws, List.getD_eq_getElem?_getD, hx0]
  rw [hti]
  refine P8 (e := 55) (k := 1) (v := m.tv) (q := m.ts.length) (xs := m.ts.map (·.1)) (by (repeat constructor)) (by omega) fun tg tc hta => ?_
  rw [hta]
  (have zz:=trivial;repeat((first|clear zz|with_reducible first|refine A3 ?_|refine A5 fun _=>?_|refine A4 fun _=>?_);try simp(disch:=first|omega|assumption|((repeat(first|exact A1|exact uH|apply A2|apply uT));first|done|fail)|(simp;first|done|omega|fail))[B5W, j6, dv, md, wq, nz, hlt, g0, gg]))
  refine D4 A6D (fun w' hw' => B6E w' tv0 tl 1 (h3 _ hxm) (A7d (t := (tv0, tl)) hw' (ts := P) (by (repeat constructor)) (h6 _ hxm))) ?_
  (have zz:=trivial;repeat((first|clear zz|with_reducible first|refine A3 ?_|refine A5 fun _=>?_|refine A4 fun _=>?_);try simp(disch:=first|omega|assumption|((repeat(first|exact A1|exact uH|apply A2|apply uT));first|done|fail)|(simp;first|done|omega|fail))[dv, md, wq]))
  refine B0 { m.dx with tv := .slice (some ⟨tg, 0, none⟩) m.ts.length tc } ⟨rfl, by simp only [WoH.ws, WoH.dx], rfl⟩ ?_
  simp only [WoH.dx]
  (repeat' constructor)
 simp only [if_neg d1]
 have n1 : ¬ q = 1 := fun h => by have := q1.1 h; omega
 have n0' : ¬ ((q : Nat) : Int) = 0 := by omega
 have n1' : ¬ ((q : Nat) : Int) = 1 := by omega
 by_cases d2 : ((i : Nat) : Int) = (m.ts.length : Nat) - 1
 ·simp only [if_pos d2]
  refine H7 (e := 55) (k := 1) (v := m.tv) (q := m.ts.length) (xs := m.ts.map (·.1)) (by (repeat constructor)) fun ta tc hta => ?_
  rw [hta]
  (have zz:=trivial;repeat((first|clear zz|with_reducible first|refine A3 ?_|refine A5 fun _=>?_|refine A4 fun _=>?_);try simp(disch:=first|omega|assumption|((repeat(first|exact A1|exact uH|apply A2|apply uT));first|done|fail)|(simp;first|done|omega|fail))[B5W, j6, dv, md, wq, nz, n0, n1, n0', n1']))
  refine C0 (Hc := C6 m.bc m.cn m.cv m.ov m.cells m.own) W7 (fun w' _ hs => A4m w' m.bc m.cn m.cv m.ov m.cells m.own (i : Nat) j.who h5 hs) (by unfold C6; (repeat' constructor)) ?_
  rintro n' v ⟨r, rfl⟩
  simp only [C6, List.cons_append, List.nil_append]
  (have zz:=trivial;repeat((first|clear zz|with_reducible first|refine A3 ?_|refine A5 fun _=>?_|refine A4 fun _=>?_);try simp(disch:=first|omega|assumption|((repeat(first|exact A1|exact uH|apply A2|apply uT));first|done|fail)|(simp;first|done|omega|fail))[d2, dv, md, wq]))
  refine C0 (Hc := [.pt b (.cells (D3 { j with st := j.st + 1 } []) 104)]) W1 (fun w' _ hs => A4Y w' b _ { j with st := j.st + 1 } _ hs) (by unfold D3; (repeat' constructor)) ?_
  rintro _ v rfl
  simp only [List.cons_append, List.nil_append, D8, D3]
  (have zz:=trivial;repeat((first|clear zz|with_reducible first|refine A3 ?_|refine A5 fun _=>?_|refine A4 fun _=>?_);try simp(disch:=first|omega|assumption|((repeat(first|exact A1|exact uH|apply A2|apply uT));first|done|fail)|(simp;first|done|omega|fail))[dv, md, wq]))
  refine B0 { m.dx with cn := n', own := K7 m.own (i : Nat) j.who, tv := .slice ta m.ts.length tc } ⟨rfl, by simp only [WoH.ws, WoH.dx, d2], rfl⟩ ?_
  simp only [WoH.dx, d2]
  (repeat' constructor)
 ·simp only [if_neg d2]
  refine H7 (e := 55) (k := 1) (v := m.tv) (q := m.ts.length) (xs := m.ts.map (·.1)) (by (repeat constructor)) fun ta tc hta => ?_
  rw [hta]
  (have zz:=trivial;repeat((first|clear zz|with_reducible first|refine A3 ?_|refine A5 fun _=>?_|refine A4 fun _=>?_);try simp(disch:=first|omega|assumption|((repeat(first|exact A1|exact uH|apply A2|apply uT));first|done|fail)|(simp;first|done|omega|fail))[B5W, j6, dv, md, wq, nz, n0, n1, n0', n1']))
  refine C0 (Hc := C6 m.bc m.cn m.cv m.ov m.cells m.own) W7 (fun w' _ hs => A4m w' m.bc m.cn m.cv m.ov m.cells m.own (i : Nat) j.who h5 hs) (by unfold C6; (repeat' constructor)) ?_
  rintro n' v ⟨r, rfl⟩
  simp only [C6, List.cons_append, List.nil_append]
  (have zz:=trivial;repeat((first|clear zz|with_reducible first|refine A3 ?_|refine A5 fun _=>?_|refine A4 fun _=>?_);try simp(disch:=first|omega|assumption|((repeat(first|exact A1|exact uH|apply A2|apply uT));first|done|fail)|(simp;first|done|omega|fail))[d2, dv, md, wq]))
  refine B0 { m.dx with cn := n', own := K7 m.own (i : Nat) j.who, tv := .slice ta m.ts.length tc } ⟨rfl, by simp only [WoH.ws, WoH.dx], rfl⟩ ?_
  simp only [WoH.dx]
  (repeat' constructor)
end Go.Proofs.YtpnidmkaobfhiaaGreat
namespace Go.Proofs.YtpnidmkaobfhiaaGreat
open Go
def A0j (X : Nat → Prop) (R : Value → WP) : WP :=
 A0 PR (Instr.build 23 #[(0, (.int .i64 1)), (1, (.int .i64 1)), (2, (.int .i64 1)), (3, (.int .i64 5)), (4, (.int .i64 2))]) fun t8 =>
 B3 PR X 9 [t8] fun t9 =>
 A0 PR (Instr.extract t9 0) fun t10 =>
 A0 PR (Instr.extract t9 1) fun t11 =>
 A0 PR (Instr.build 83 #[(0, (.int .i64 7)), (1, (.int .i64 1))]) fun t12 =>
 B9 PR X (Instr.buildSlice 36 1 #[(0, t12)]) fun t13 =>
 A0 PR (Instr.build 38 #[(0, (.int .i64 1)), (2, t13)]) fun t14 =>
 B3 PR X 10 [(.int .i64 0), t14] fun t15 =>
 A0 PR (Instr.build 38 #[(0, (.int .i64 1))]) fun t16 =>
 B3 PR X 10 [(.int .i64 1), t16] fun t17 =>
 jn (n := 1) (fun t0 =>
 jn (n := 1) (fun t5 =>
 B3 PR X 17 [t17, t10] fun t42 =>
 B9 PR X (Instr.alloc 49 true (.tuple #[])) fun t6 =>
 C2 PR X (Instr.storeAt 49 t6 t42) <|
 A0 PR (binOp .eql 3 t5 (.int .i64 6)) fun t44 =>
 gj t44 true (fun J => J t15) fun t46 =>
 gj t44 true (fun J => B3 PR X 20 [t46] J) fun t47 =>
 gj t44 true (fun J => A0 PR (Instr.build 57 #[]) J) fun t48 =>
 gj t44 true (fun J => A6 PR (J0 .eql 57 (.tmp 47) (.tmp 48) t47 t48) J) fun t49 =>
 A0 PR (do pure (if ← asBool t44 then t49 else (.bool false))) fun t50 =>
 gj t50 true (fun J => J t15) fun t52 =>
 gj t50 true (fun J => B3 PR X 19 [t52] J) fun t53 =>
 gj t50 true (fun J => A0 PR (binOp .eql 3 t53 (.int .i64 (-1))) J) fun t54 =>
 A0 PR (do pure (if ← asBool t50 then t54 else (.bool false))) fun t55 =>
 gj t55 true (fun J => A6 PR (Instr.loadAt 49 t6) J) fun t57 =>
 gj t55 true (fun J => A0 PR (Instr.build 49 #[(0, (.bool true)), (1, (.bool true))]) J) fun t58 =>
 gj t55 true (fun J => A6 PR (J0 .eql 49 (.tmp 57) (.tmp 58) t57 t58) J) fun t59 =>
 A0 PR (do pure (if ← asBool t55 then t59 else (.bool false))) fun t60 =>
 gj t60 true (fun J => J t17) fun t62 =>
 gj t60 true (fun J => B3 PR X 20 [t62] J) fun t63 =>
 gj t60 true (fun J => A0 PR (Instr.build 57 #[(0, (.int .i64 1))]) J) fun t64 =>
 gj t60 true (fun J => A6 PR (J0 .eql 57 (.tmp 63) (.tmp 64) t63 t64) J) fun t65 =>
 A0 PR (do pure (if ← asBool t60 then t65 else (.bool false))) fun t66 =>
 gj t66 true (fun J => J t17) fun t68 =>
 gj t66 true (fun J => J t10) fun t69 =>
 gj t66 true (fun J => B3 PR X 15 [t68, t69] J) fun t70 =>
 gj t66 true (fun J => A0 PR (Op.unary .not t70) J) fun t71 =>
 A0 PR (do pure (if ← asBool t66 then t71 else (.bool false))) fun t72 =>
 R t72) fun J1 =>
 lp (n := 1) (fun L2 t5_1 =>
 jn (n := 0) (
 B3 PR X 17 [t15, t10] fun t37 =>
 A0 PR (binOp .add 3 t5_1 (.int .i64 1)) fun t39 =>
 L2 t39) fun J3 =>
 A0 PR (binOp .lss 3 t5_1 (.int .i64 20)) fun t29 =>
 gj t29 true (fun J => J t15) fun t31 =>
 gj t29 true (fun J => J t10) fun t32 =>
 gj t29 true (fun J => B3 PR X 15 [t31, t32] J) fun t33 =>
 A0 PR (do pure (if ← asBool t29 then t33 else (.bool false))) fun t34 =>
 B7 t34 (
 J3) (
 J1 t5_1)) (.int .i64 0)) fun J4 =>
 A6 PR (J0 .eql 30 (.tmp 18) (.const (.pointer none)) t10 (.pointer none)) fun t19 =>
 gj t19 false (fun J => J t15) fun t21 =>
 gj t19 false (fun J => A6 PR (J0 .eql 34 (.tmp 21) (.const (.pointer none)) t21 (.pointer none)) J) fun t22 =>
 A0 PR (do pure (if ← asBool t19 then (.bool true) else t22)) fun t23 =>
 gj t23 false (fun J => J t17) fun t25 =>
 gj t23 false (fun J => A6 PR (J0 .eql 34 (.tmp 25) (.const (.pointer none)) t25 (.pointer none)) J) fun t26 =>
 A0 PR (do pure (if ← asBool t23 then (.bool true) else t26)) fun t27 =>
 B7 t27 (
 R (.bool false)) (
 J4 (.bool false))
theorem A5C : B2 PR 5 := A7 Tryz.func5 (by kernel_rfl) rfl
theorem A50 {X : Nat → Prop} {R : Value → WP} {w : World} (h : A0j X R w) : Fn PR X 5 #[] w R := C9 (args := []) mixed Tryz.func5 (by kernel_rfl) h
def A0n (X : Nat → Prop) (t0 : Value) (R : Value → WP) : WP :=
 A6 PR (J0 .neq 30 (.tmp 3) (.const (.pointer none)) t0 (.pointer none)) fun t4 =>
 gj t4 true (fun J => J t0) fun t6 =>
 gj t4 true (fun J => A0 PR (A9 t6) J) fun t7 =>
 gj t4 true (fun J => A0 PR (Instr.fieldAt 74 t7 1) J) fun t8 =>
 gj t4 true (fun J => A6 PR (Instr.loadAt 69 t8) J) fun t9 =>
 gj t4 true (fun J => A6 PR (J0 .neq 69 (.tmp 9) (.const (.pointer none)) t9 (.pointer none)) J) fun t10 =>
 A0 PR (do pure (if ← asBool t4 then t10 else (.bool false))) fun t11 =>
 gj t11 true (fun J => J t0) fun t13 =>
 gj t11 true (fun J => A0 PR (A9 t13) J) fun t14 =>
 gj t11 true (fun J => A0 PR (Instr.fieldAt 74 t14 2) J) fun t15 =>
 gj t11 true (fun J => A6 PR (Instr.loadAt 70 t15) J) fun t16 =>
 gj t11 true (fun J => A6 PR (J0 .neq 70 (.tmp 16) (.const (.pointer none)) t16 (.pointer none)) J) fun t17 =>
 A0 PR (do pure (if ← asBool t11 then t17 else (.bool false))) fun t18 =>
 gj t18 true (fun J => J t0) fun t20 =>
 gj t18 true (fun J => A0 PR (A9 t20) J) fun t21 =>
 gj t18 true (fun J => A0 PR (Instr.fieldAt 74 t21 3) J) fun t22 =>
 gj t18 true (fun J => A6 PR (Instr.loadAt 71 t22) J) fun t23 =>
 gj t18 true (fun J => A6 PR (J0 .neq 71 (.tmp 23) (.const (.pointer none)) t23 (.pointer none)) J) fun t24 =>
 A0 PR (do pure (if ← asBool t18 then t24 else (.bool false))) fun t25 =>
 R t25
theorem A5A : B2 PR 11 := A7 Tryz.func11 (by kernel_rfl) rfl
theorem A5j {X : Nat → Prop} {t0 : Value} {R : Value → WP} {w : World} (h : A0n X t0 R w) : Fn PR X 11 #[t0] w R := C9 (args := [t0]) mixed Tryz.func11 (by kernel_rfl) h
def A1Z (X : Nat → Prop) (t0 t1 : Value) (R : Value → WP) : WP :=
 jn (n := 2) (fun t4 t5 =>
 B3 PR X 63 [t0, t1] fun t57 =>
 R t57) fun J1 =>
 lp (n := 2) (fun L2 t4_1 t5_1 =>
 jn (n := 0) (
 jn (n := 1) (fun t4_2 =>
 A0 PR (binOp .add 3 t5_1 (.int .i64 1)) fun t13 =>
 L2 t4_2 t13) fun J3 =>
 A0 PR (A9 t0) fun t16 =>
 A0 PR (Instr.fieldAt 74 t16 2) fun t17 =>
 A6 PR (Instr.loadAt 70 t17) fun t18 =>
 B3 PR X 26 [t18, t5_1] fun t20 =>
 A0 PR (Instr.extract t20 0) fun t21 =>
 A0 PR (Instr.extract t20 1) fun t22 =>
 A0 PR (A9 t1) fun t25 =>
 A0 PR (Instr.fieldAt 110 t25 5) fun t26 =>
 A6 PR (Instr.loadAt 107 t26) fun t27 =>
 B3 PR X 60 [t27, t5_1] fun t29 =>
 A0 PR (Instr.extract t29 0) fun t30 =>
 A0 PR (Instr.extract t29 1) fun t31 =>
 drw <|
 A0 PR (binOp .neq 3 t21 t30) fun t34 =>
 gj t34 false (fun J => J t22) fun t36 =>
 gj t34 false (fun J => J t31) fun t37 =>
 gj t34 false (fun J => A0 PR (binOp .neq 4 t36 t37) J) fun t38 =>
 A0 PR (do pure (if ← asBool t34 then (.bool true) else t38)) fun t39 =>
 gj t39 false (fun J => J t0) fun t41 =>
 gj t39 false (fun J => A0 PR (A9 t41) J) fun t42 =>
 gj t39 false (fun J => A0 PR (Instr.fieldAt 74 t42 3) J) fun t43 =>
 gj t39 false (fun J => A6 PR (Instr.loadAt 71 t43) J) fun t44 =>
 gj t39 false (fun J => J t5_1) fun t45 =>
 gj t39 false (fun J => J t1) fun t47 =>
 gj t39 false (fun J => A0 PR (A9 t47) J) fun t48 =>
 gj t39 false (fun J => A0 PR (Instr.fieldAt 110 t48 6) J) fun t49 =>
 gj t39 false (fun J => A6 PR (Instr.loadAt 108 t49) J) fun t50 =>
 gj t39 false (fun J => J t5_1) fun t51 =>
 gj t39 false (fun J => B3 PR X 61 [t44, t45] J) fun t46 =>
 watch PR [((some (t39, false)), (Instr.loadAt 108 t49), t50)] <|
 gj t39 false (fun J => B3 PR X 62 [t50, t51] J) fun t52 =>
 gj t39 false (fun J => A0 PR (binOp .neq 3 t46 t52) J) fun t53 =>
 A0 PR (do pure (if ← asBool t39 then (.bool true) else t53)) fun t54 =>
 B7 t54 (
 R (.bool false)) (
 J3 t4_1)) fun J4 =>
 A0 PR (binOp .lss 3 t5_1 (.int .i64 9)) fun t11 =>
 B7 t11 (
 J4) (
 J1 t4_1 t5_1)) (.bool false) (.int .i64 (-1))
theorem A5Z : B2 PR 21 := A7 Tryz.func21 (by kernel_rfl) rfl
theorem A7T {X : Nat → Prop} {t0 t1 : Value} {R : Value → WP} {w : World} (h : A1Z X t0 t1 R w) : Fn PR X 21 #[t0, t1] w R := C9 (args := [t0, t1]) mixed Tryz.func21 (by kernel_rfl) h
end Go.Proofs.YtpnidmkaobfhiaaGreat
namespace Go.Proofs.YtpnidmkaobfhiaaGreat
open Go
def A3a : Nat → RunV → RunV → Prop
 | 0, r, r' => r = r'
 | k + 1, r, r' => r.j.ready r.x = true ∧ A3a k r.next r'
theorem A3a.trans {r r' r'' : RunV} : ∀ {k m : Nat}, A3a k r r' → A3a m r' r'' → A3a (k + m) r r''
 | 0, m, h, h' => by cases h; simpa using h'
 | k + 1, m, h, h' => by
  rw [show k + 1 + m = k + m + 1 by omega]
  exact ⟨h.1, A3a.trans h.2 h'⟩
theorem A3a.run {r r' : RunV} : ∀ {k : Nat} (f : Nat), A3a k r r' → A1k (k + f) r = A1k f r'
 | 0, f, h => by cases h; simp
 | k + 1, f, h => by
  rw [show k + 1 + f = k + f + 1 by omega, A1k, if_pos h.1]
  exact A3a.run f h.2
theorem C46 {r : RunV} (h : r.j.b.st = -1) : ∀ f, A1k f r = r
 | 0 => rfl
 | f + 1 => by rw [A1k, if_neg (by simp [JV.ready, h])]
theorem A3a.ends {r r' : RunV} {k : Nat} (h : A3a k r r') (hk : k ≤ 200) (he : r'.j.b.st = -1) : A1k 200 r = r' := by
 have := h.run (200 - k)
 rw [show k + (200 - k) = 200 by omega] at this
 rw [this, C46 he]
theorem A3a.one {r : RunV} (h : r.j.ready r.x = true) : A3a 1 r r.next := ⟨h, rfl⟩
def C4G (x : WS) (k : Nat) : List Int := (List.range k).map fun i : Nat => D5 x.cells (F9 x.c (((i : Nat) : Int) + 1))
def B0P (P : List Int) (l : List (Int × Int)) : List (Int × Int) := l.map fun s => if K3 P s then (0, 0) else s
def B05 (P : List Int) (l : List (Int × Int)) (s : List SlV) : List SlV := List.zipWith (fun k s => if K3 P k then .no else s) l s
theorem C8x (P : List Int) : K3 P (0, 0) = false := rfl
end Go.Proofs.YtpnidmkaobfhiaaGreat
namespace Go.Proofs.YtpnidmkaobfhiaaGreat
open Go
structure UInv (n : Nat) (j : JU) (x : WS) : Prop where
 ok : WsOk x
 st : -1 ≤ j.b.st ∧ j.b.st ≤ n
 pins : j.pins.length ≤ n
 slot : -1 ≤ j.slot ∧ j.slot ≤ 8
 old : 0 ≤ j.old ∧ j.old ≤ 1000
 cur : 0 ≤ D5 x.cells 1 ∧ D5 x.cells 1 ≤ 1000
theorem d5 (l : List SlV) (i : Int) (x : SlV) : (g5 l i x).length = l.length := by unfold g5; split <;> simp
theorem A3y (l : List SlV) (i : Int) (p : List G8) : (r4 l i p).length = l.length := by
 unfold r4; split
 ·split
  ·exact d5 _ _ _
  ·rfl
 ·rfl
theorem A2L (l : List (Int × Int)) (i a : Int) (s : Int × Int) : (A1d l i a s).length = l.length := by unfold A1d; split <;> simp
theorem A21 (l : List (Int × Int)) : (M6 l).length = l.length := by unfold M6; split <;> simp
theorem p5 (l : List Int) (i v : Int) : (K9 l i v).length = l.length := by unfold K9; split <;> simp
theorem b9 (l : List Int) (i v : Int) : D5 (K9 l i v) i = if 0 ≤ i ∧ i < l.length then v else 0 := by
 unfold D5 K9
 by_cases h : 0 ≤ i ∧ i < l.length
 ·rw [if_pos h, if_pos h, if_pos (by rw [List.length_set]; exact h), List.getD_eq_getElem?_getD, List.getElem?_set_self (by omega)]; rfl
 ·rw [if_neg h, if_neg h, if_neg h]
theorem Q4 {i k : Int} (l : List Int) (v : Int) (h : i ≠ k) : D5 (K9 l i v) k = D5 l k := by
 unfold D5 K9
 by_cases h1 : 0 ≤ i ∧ i < l.length
 ·rw [if_pos h1, List.length_set]
  by_cases h2 : 0 ≤ k ∧ k < l.length
  ·rw [if_pos h2, if_pos h2, List.getD_eq_getElem?_getD, List.getD_eq_getElem?_getD, List.getElem?_set_ne (by omega)]
  ·rw [if_neg h2, if_neg h2]
 ·rw [if_neg h1]
theorem B18 (l : List (Int × Int)) : -1 ≤ E5 l ∧ E5 l < max 1 l.length := by
 unfold E5; split <;> omega
theorem B0x (j : JU) (x : WS) : (H0 j x).1.pool = j.pool := by
 unfold H0 U0 E4 A5F
 repeat' split
 all_goals rfl
theorem C1B {n : Nat} {j : JU} {x : WS} (h : UInv n j x) (hst : j.b.st ≠ -1) : UInv (n + 1) (H0 j x).1 (H0 j x).2.1 := by
 obtain ⟨⟨w1, w2, w3, w4, w5⟩, s1, s2, s3, s4, s5⟩ := h
 have ht := B18 x.keep
 unfold H0
 by_cases c1 : j.b.st = 0 ∧ T9 j ≠ 0
 ·rw [if_pos c1]
  exact ⟨⟨w1, w2, w3, w4, w5⟩, by simp only [JB.refuse]; omega, by simp only; omega, s3, s4, s5⟩
 rw [if_neg c1]
 by_cases c2 : j.b.st = 0 ∨ j.b.st - x.c.wk < 0
 ·rw [if_pos c2]
  exact ⟨⟨w1, w2, w3, w4, w5⟩, by simp only [E4]; omega, by simp only [List.length_append, List.length_singleton]; omega, s3, s4, s5⟩
 rw [if_neg c2]
 by_cases d0 : j.b.st - x.c.wk = 0
 ·rw [if_pos d0]
  unfold U0
  by_cases e1 : 0 ≤ G3 x.keep j.pins
  ·rw [if_pos e1]
   exact ⟨⟨w1, w2, w3, by simp only [d5]; omega, by simp only [m4, A2L]; omega⟩, by simp only; omega, by simp only; omega, s3, s4, s5⟩
  rw [if_neg e1]
  by_cases e2 : E5 x.keep < 0
  ·rw [if_pos e2]
   exact ⟨⟨w1, w2, w3, w4, w5⟩, by simp only [JB.refuse]; omega, by simp only; omega, by simp only; omega, s4, s5⟩
  rw [if_neg e2]
  exact ⟨⟨w1, w2, w3, by simp only [d5]; omega, by simp only [A21]; omega⟩, by simp only; omega, by simp only; omega, by simp only; omega, s4, s5⟩
 rw [if_neg d0]
 by_cases d1 : j.b.st - x.c.wk = 1
 ·rw [if_pos d1]
  exact ⟨⟨w1, w2, w3, by simp only [A3y]; omega, w5⟩, by simp only [E4]; omega, by simp only [E4]; omega, s3, s4, s5⟩
 rw [if_neg d1]
 by_cases d2 : j.b.st - x.c.wk = 2
 ·rw [if_pos d2]
  exact ⟨⟨w1, w2, w3, w4, w5⟩, by simp only [E4]; omega, by simp only [E4]; omega, s3, s5, s5⟩
 rw [if_neg d2]
 by_cases d3 : j.b.st - x.c.wk = 3
 ·rw [if_pos d3]
  refine ⟨⟨w1, by simp only [p5]; omega, w3, w4, w5⟩, by simp only [E4]; omega, by simp only [E4]; omega, s3, s4, ?_⟩
  simp only [b9]
  split <;> omega
 rw [if_neg d3]
 unfold A5F
 refine ⟨⟨w1, by simp only [p5]; omega, w3, w4, ?_⟩, by simp only; omega, by simp only [E4]; omega, s3, s4, ?_⟩
 ·simp only
  split
  ·simp only [l6, A2L]; omega
  ·omega
 ·simp only
  rw [Q4 _ _ (by omega)]
  exact s5
end Go.Proofs.YtpnidmkaobfhiaaGreat
namespace Go.Proofs.YtpnidmkaobfhiaaGreat
open Go
theorem P5 : ∀ A : List Res, Sels A A
 | [] => Sels.nil
 | r :: A => Sels.cons Sel.here (P5 A)
theorem A1n (B : List Res) : ∀ A : List Res, Part A (A ++ B) B
 | [] => Part.nil
 | r :: A => Part.cons Sel.here (A1n B A)
def B28 (x : JV × WS) : JV × WS := ((x.1.step0 x.2).1, (x.1.step0 x.2).2.1)
def A5N (x : JV × WS) (n tk bad : Nat) : RunV := ⟨x.1, x.2, n, tk, bad⟩
theorem C3f {x : JV × WS} {n tk bad : Nat} (h : x.1.ready x.2 = false) : ∀ f, A1k f (A5N x n tk bad) = A5N x n tk bad
 | 0 => rfl
 | f + 1 => by rw [A1k, if_neg (by rw [show (A5N x n tk bad).j.ready (A5N x n tk bad).x = false from h]; decide)]
theorem C0p {x : JV × WS} {n tk bad : Nat} (h : x.1.ready x.2 = true) (f : Nat) : A1k (f + 1) (A5N x n tk bad) = A1k f (A5N (B28 x) (n + 1) (tk + (x.1.step0 x.2).2.2.1.toNat) (bad + (x.1.step0 x.2).2.2.2.2.toNat)) := by
 rw [A1k, if_pos (show (A5N x n tk bad).j.ready (A5N x n tk bad).x = true from h)]; rfl
end Go.Proofs.YtpnidmkaobfhiaaGreat
namespace Go.Proofs.YtpnidmkaobfhiaaGreat
open Go
theorem Fn.frame {f : FuncId} {args : Array Value} {w : World} {α : Type} {φ : α → Value → Prop} {Hn : α → List Res} {Hc Hk : List Res} (h : Fn PR B6 f args w (Rn (B1 Hc) w φ Hn)) (hw : LW false (B1 (Hc ++ Hk)) w (Hc ++ Hk) w) :
  Fn PR B6 f args w (Rn (B1 (Hc ++ Hk)) w φ fun a => Hn a ++ Hk) := h.mono fun v w' ⟨a, h1, h2⟩ => ⟨a, h1, hw.part h2⟩
theorem B73 (w : World) (m : WoH) (i : Int) (hb : bl w m.b = some (.cells (E7 m.c (.pointer (some ⟨m.bc, 0, none⟩)) (.pointer (some ⟨m.bs, 0, none⟩)) (.pointer (some ⟨m.bk, 0, none⟩)) m.tv m.pv (.int .i64 m.now)) 74 (0, 0)))
  (hc : bl w m.bc = some (.cells #[.int .i64 m.cn, m.cv, m.ov] 147 (0, 0))) (hv : D2 w m.ov m.own.length (C1 m.own)) :
  Fn PR B6 249 #[.pointer (some ⟨m.b, 0, none⟩), .int .i64 i] w (fun u w' => u = .bool (decide (A2c m.own i < 0)) ∧ D6 [] w w') := by
 refine Fn.pure (B2Y (TW.go (κ := false) (S := []) ?_))
 unfold A6U
 have h5 : w.cell? ⟨m.b, 5, none⟩ = some (.pointer (some ⟨m.bc, 0, none⟩)) := by rw [D7 hb]; rfl
 (have zz:=trivial;repeat((first|clear zz|with_reducible first|refine A3 ?_|refine A5 fun _=>?_|refine A4 fun _=>?_);try simp(disch:=first|omega|assumption|((repeat(first|exact A1|exact uH|apply A2|apply uT));first|done|fail)|(simp;first|done|omega|fail))[h5]))
 refine D4 A10 (fun w' hw' => B4m w' m.bc m.cn m.cv m.ov m.own i (hw'.ks.2.1 _ _ (by simp) rfl hc) (hv.ks hw'.ks (by simp))) ?_
 (have zz:=trivial;repeat((first|clear zz|with_reducible first|refine A3 ?_|refine A5 fun _=>?_|refine A4 fun _=>?_);try simp(disch:=first|omega|assumption|((repeat(first|exact A1|exact uH|apply A2|apply uT));first|done|fail)|(simp;first|done|omega|fail))[]))
 exact B4 rfl
structure WoAt (w : World) (m : WoH) : Prop where
 b : bl w m.b = some (.cells (E7 m.c (.pointer (some ⟨m.bc, 0, none⟩)) (.pointer (some ⟨m.bs, 0, none⟩)) (.pointer (some ⟨m.bk, 0, none⟩)) m.tv m.pv (.int .i64 m.now)) 74 (0, 0))
 c : bl w m.bc = some (.cells #[.int .i64 m.cn, m.cv, m.ov] 147 (0, 0))
 v : D2 w m.ov m.own.length (C1 m.own)
theorem WoAt.own {κ : Bool} {S : List Nat} {w0 w : World} {H : List Res} {m : WoH} (hw : LW κ S w0 H w) (h : ∀ r ∈ B8 m, r ∈ H) : WoAt w m :=
 ⟨hw.pt (h _ (by unfold B8 E0; (repeat constructor))), hw.pt (h _ (by unfold B8; (repeat constructor))), H3.own (e := 3) (k := 1) (h _ (by unfold B8; (repeat constructor))) w hw⟩
theorem WoAt.ks {w w' : World} {m : WoH} (h : WoAt w m) (hk : KS false [] w w') : WoAt w' m := ⟨hk.2.1 _ _ (by simp) rfl h.b, hk.2.1 _ _ (by simp) rfl h.c, h.v.ks hk (by simp)⟩
theorem B4W (w : World) (b : Nat) (j : JE) (tv : Value) (m : WoH) (hb : bl w b = some (.cells (D3 j.b [.int .i64 j.shard, .int .i64 (j.place : Nat), tv]) 101 (0, 0))) (hm : WoAt w m) :
  Fn PR B6 248 #[.pointer (some ⟨b, 0, none⟩), .pointer (some ⟨m.b, 0, none⟩)] w (fun u w' => u = .bool ((JV.exp j).waits m.ws) ∧ D6 [] w w') := by
 refine Fn.pure (A5l (TW.go (κ := false) (S := []) ?_))
 unfold A0f
 have h1 : w.cell? ⟨b, 1, none⟩ = some (.int .i64 j.b.st) := by rw [D7 hb]; rfl
 have h6 : w.cell? ⟨b, 6, none⟩ = some (.int .i64 j.shard) := by rw [D7 hb]; rfl
 have ho : m.ws.own = m.own := rfl
 by_cases c1 : j.b.st = 0
 ·(have zz:=trivial;repeat((first|clear zz|with_reducible first|refine A3 ?_|refine A5 fun _=>?_|refine A4 fun _=>?_);try simp(disch:=first|omega|assumption|((repeat(first|exact A1|exact uH|apply A2|apply uT));first|done|fail)|(simp;first|done|omega|fail))[h1, h6, c1]))
  refine D4 A5B (fun w' hw' => let h := hm.ks hw'.ks; B73 w' m j.shard h.b h.c h.v) ?_
  (have zz:=trivial;repeat((first|clear zz|with_reducible first|refine A3 ?_|refine A5 fun _=>?_|refine A4 fun _=>?_);try simp(disch:=first|omega|assumption|((repeat(first|exact A1|exact uH|apply A2|apply uT));first|done|fail)|(simp;first|done|omega|fail))[]))
  exact B4 (by simp [JV.waits, c1, ho])
 ·(have zz:=trivial;repeat((first|clear zz|with_reducible first|refine A3 ?_|refine A5 fun _=>?_|refine A4 fun _=>?_);try simp(disch:=first|omega|assumption|((repeat(first|exact A1|exact uH|apply A2|apply uT));first|done|fail)|(simp;first|done|omega|fail))[h1, h6, c1]))
  exact B4 (by simp [JV.waits, c1])
theorem B4V (w : World) (b : Nat) (j : JB) (m : WoH) (hl : m.ts.length ≤ 1000) (hb : bl w b = some (.cells (D3 j []) 104 (0, 0))) (hm : WoAt w m) (htv : ∃ a c, m.tv = .slice a m.ts.length c) :
  Fn PR B6 251 #[.pointer (some ⟨b, 0, none⟩), .pointer (some ⟨m.b, 0, none⟩)] w (fun u w' => u = .bool ((JV.sta j).waits m.ws) ∧ D6 [] w w') := by
 refine Fn.pure (A7Q (TW.go (κ := false) (S := []) ?_))
 unfold A1V
 obtain ⟨a, c, htv⟩ := htv
 have h1 : w.cell? ⟨b, 1, none⟩ = some (.int .i64 j.st) := by rw [D7 hb]; rfl
 have h8 : w.cell? ⟨m.b, 8, none⟩ = some (.slice a m.ts.length c) := by rw [D7 hm.b]; exact congrArg some htv
 have ho : m.ws.own = m.own := rfl
 have htl : m.ws.tabs.length = m.ts.length := by simp [WoH.ws]
 by_cases c1 : j.st < (m.ts.length : Nat)
 ·(have zz:=trivial;repeat((first|clear zz|with_reducible first|refine A3 ?_|refine A5 fun _=>?_|refine A4 fun _=>?_);try simp(disch:=first|omega|assumption|((repeat(first|exact A1|exact uH|apply A2|apply uT));first|done|fail)|(simp;first|done|omega|fail))[h1, h8, c1]))
  refine D4 A5B (fun w' hw' => let h := hm.ks hw'.ks; B73 w' m j.st h.b h.c h.v) ?_
  (have zz:=trivial;repeat((first|clear zz|with_reducible first|refine A3 ?_|refine A5 fun _=>?_|refine A4 fun _=>?_);try simp(disch:=first|omega|assumption|((repeat(first|exact A1|exact uH|apply A2|apply uT));first|done|fail)|(simp;first|done|omega|fail))[c1]))
  exact B4 (by simp [JV.waits, htl, c1, ho])
 ·(have zz:=trivial;repeat((first|clear zz|with_reducible first|refine A3 ?_|refine A5 fun _=>?_|refine A4 fun _=>?_);try simp(disch:=first|omega|assumption|((repeat(first|exact A1|exact uH|apply A2|apply uT));first|done|fail)|(simp;first|done|omega|fail))[h1, h8, c1]))
  exact B4 (by simp [JV.waits, htl, c1])
def C30 {β : Type} (j : JB) (wt : Bool) (told : A0N) (φ : β → Prop) : Option β → Value → Prop
 | none, u => (j.st = -1 ∨ wt = true) ∧ u = D8 (false, false, false)
 | some a, u => (j.st ≠ -1 ∧ wt = false) ∧ u = D8 told ∧ φ a
def C3z {β : Type} (Hc : List Res) (Hn : β → List Res) : Option β → List Res
 | none => Hc
 | some a => Hn a
theorem A9A (w : World) (jb b : Nat) (I : Value) (j : JB) (rest : List Value) (T : TypeId) (wp : Value) (wt : Bool) (told : A0N) (fW fS : FuncId) (argsW argsS : Array Value) (hI : I = Q5 b ∨ I = A23 b ∨ I = A2k b ∨ I = A2j b)
  (Hc : List Res) {β : Type} (φ : β → Prop) (Hn : β → List Res)
  (hcw : ∀ w, (callMethod I "gangplank/control.waits" [wp].toArray).run PR w = .ok (.enter fW argsW) w) (hcs : ∀ w, (callMethod I "gangplank/control.step" [wp].toArray).run PR w = .ok (.enter fS argsS) w)
  (hpt : Res.pt b (.cells (D3 j rest) T) ∈ Hc)
  (hW : ∀ w', LW false (B1 (F7 jb I :: Hc)) w (F7 jb I :: Hc) w' → Fn PR B6 fW argsW w' (fun v w'' => v = .bool wt ∧ D6 [] w' w''))
  (hSt : j.st ≠ -1 → wt = false → ∀ w', LW false (B1 (F7 jb I :: Hc)) w (Hc ++ [F7 jb I]) w' → LW false (B1 Hc) w' Hc w' → Fn PR B6 fS argsS w' (Rn (B1 Hc) w' (fun a u => u = D8 told ∧ φ a) Hn))
  (hw : LW false (B1 (F7 jb I :: Hc)) w (F7 jb I :: Hc) w) :
  Fn PR B6 17 #[.pointer (some ⟨jb, 0, none⟩), wp] w (Rn (B1 (F7 jb I :: Hc)) w (C30 j wt told φ) fun y => F7 jb I :: C3z Hc Hn y) := by
 refine A3P (TW.goH (κ := false) ?_ hw)
 unfold w6
 generalize hS : B1 (F7 jb I :: Hc) = S at *
 have hR := fun (w' : World) (hw' : LW false S w (F7 jb I :: Hc) w') =>
  p9 w' jb b I j rest T wp wt fW argsW hI (hw'.pt (List.mem_cons_self ..)) (hw'.pt (List.mem_cons_of_mem _ hpt)) hcw (fun w'' hk => hW w'' (hw'.ext hk))
 generalize hφ : C30 j wt told φ = Φ
 generalize hHn : (fun y => F7 jb I :: C3z Hc Hn y) = Hn'
 (have zz:=trivial;repeat((first|clear zz|with_reducible first|refine A3 ?_|refine A5 fun _=>?_|refine A4 fun _=>?_);try simp(disch:=first|omega|assumption|((repeat(first|exact A1|exact uH|apply A2|apply uT));first|done|fail)|(simp;first|done|omega|fail))[]))
 rename_i bx
 refine D4 Q3 (fun w' hw' => hR w' (hw'.sub (List.sublist_cons_self _ _))) ?_
 by_cases c1 : j.st = -1
 ·(have zz:=trivial;repeat((first|clear zz|with_reducible first|refine A3 ?_|refine A5 fun _=>?_|refine A4 fun _=>?_);try simp(disch:=first|omega|assumption|((repeat(first|exact A1|exact uH|apply A2|apply uT));first|done|fail)|(simp;first|done|omega|fail))[c1]))
  subst hφ hHn
  exact TW.sub (B0 none ⟨Or.inl c1, rfl⟩ (P5 _)) (List.sublist_cons_self _ _)
 cases wt with
 | true =>
  (have zz:=trivial;repeat((first|clear zz|with_reducible first|refine A3 ?_|refine A5 fun _=>?_|refine A4 fun _=>?_);try simp(disch:=first|omega|assumption|((repeat(first|exact A1|exact uH|apply A2|apply uT));first|done|fail)|(simp;first|done|omega|fail))[c1]))
  subst hφ hHn
  exact TW.sub (B0 none ⟨Or.inr rfl, rfl⟩ (P5 _)) (List.sublist_cons_self _ _)
 | false =>
  (have zz:=trivial;repeat((first|clear zz|with_reducible first|refine A3 ?_|refine A5 fun _=>?_|refine A4 fun _=>?_);try simp(disch:=first|omega|assumption|((repeat(first|exact A1|exact uH|apply A2|apply uT));first|done|fail)|(simp;first|done|omega|fail))[c1]))
  simp only [F7]
  (have zz:=trivial;repeat((first|clear zz|with_reducible first|refine A3 ?_|refine A5 fun _=>?_|refine A4 fun _=>?_);try simp(disch:=first|omega|assumption|((repeat(first|exact A1|exact uH|apply A2|apply uT));first|done|fail)|(simp;first|done|omega|fail))[c1]))
  refine C05 (Hc := Hc) (Hk := [.pt bx (.cells #[.bool false, .bool false, .bool false] 49), F7 jb I]) hcs (fun w' hw' hs => hSt c1 rfl w' (hw'.sub (List.Sublist.append (List.Sublist.refl _) (List.sublist_cons_self _ _))) hs) ?_ ?_
  ·have hp : ∀ (A : List Res) (r s : Res), Part A (r :: s :: A) [r, s] := fun A r s => by
    induction A with
    | nil => exact Part.nil
    | cons s A ih => exact Part.cons (.there (.there .here)) ih
   exact hp Hc _ _
  rintro a v ⟨rfl, hv⟩
  refine TW.perm ?_ List.perm_append_comm
  simp only [List.cons_append, List.nil_append, D8]
  (have zz:=trivial;repeat((first|clear zz|with_reducible first|refine A3 ?_|refine A5 fun _=>?_|refine A4 fun _=>?_);try simp(disch:=first|omega|assumption|((repeat(first|exact A1|exact uH|apply A2|apply uT));first|done|fail)|(simp;first|done|omega|fail))[]))
  subst hφ hHn
  exact TW.sub (B0 (some a) ⟨⟨c1, rfl⟩, rfl, hv⟩ (P5 _)) (List.sublist_cons_self _ _)
end Go.Proofs.YtpnidmkaobfhiaaGreat
