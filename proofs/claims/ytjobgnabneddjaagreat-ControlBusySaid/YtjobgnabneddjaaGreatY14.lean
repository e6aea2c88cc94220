/- The proof of a given statement, a part of it (Atm ShRing ShPoints Points ShFlows Flows Flows2 Points2 Ring ShSweep Sweep Ws Cells Cells2 ShEpoch Ep Ep2 ShSlots). No condition but what each lemma says. -/
import Derived.Conc.AtomicLaws2
import Derived.Test.YtjobgnabneddjaaGreatY13
set_option linter.unusedVariables false
set_option linter.unusedSimpArgs false
namespace Go.Proofs.YtjobgnabneddjaaGreat
open Go
theorem A6l {w : World} {b o : Nat} {c : Array Value} {T : TypeId} (v : Value) (hb : bl w b = some (.cells c T (0, 0))) : w.setCell ⟨b, o, none⟩ v = World.putb w b (.cells (c.setIfInBounds o v) T (0, 0)) := by
 unfold World.setCell World.putb
 congr 1
 apply Array.ext_getElem?
 intro r
 rw [Array.getElem?_modify]
 by_cases hr : b = r
 ·subst hr
  have : w.heap[b]? = some (.cells c T (0, 0)) := hb
  rw [Array.getElem?_setIfInBounds_self_of_lt (show b < w.heap.size from F8 hb)]
  simp [this]
 ·rw [Array.getElem?_setIfInBounds_ne hr]; simp [hr]
theorem A9G {w : World} {b o : Nat} {c : Array Value} {T : TypeId} (hb : bl w b = some (.cells c T (0, 0))) : w.frozen? ⟨b, o, none⟩ = false := by
 have : w.heap[b]? = some (.cells c T (0, 0)) := hb
 simp [World.frozen?, this]
theorem A7N {w : World} {b o : Nat} {c : Array Value} {T : TypeId} {x d : Int} (hb : bl w b = some (.cells c T (0, 0))) (ho : c[o]? = some (.int .i64 x)) :
  (callFunc 234 #[.pointer (some ⟨b, o, none⟩), .int .i64 d]).run PR w = .ok (.value (.int .i64 (IntKind.i64.wrap (x + d)))) (World.putb w b (.cells (c.setIfInBounds o (.int .i64 (IntKind.i64.wrap (x + d)))) T (0, 0))) := by
 have h1 : Extern.findNext Tryz.f234 = none := by kernel_rfl
 have h2 : Extern.find Tryz.f234 = some (Extern.Atomic.update (Op.intArith .add) .i64 true) := by kernel_rfl
 have h3 : (Tryz.f234.name == "runtime.NumGoroutine") = false := by kernel_rfl
 have h4 : Tryz.f234.body.isNone = true := by kernel_rfl
 have h5 : PR.funcs[234]? = some Tryz.f234 := Tryz.func234
 have hc : w.cell? ⟨b, o, none⟩ = some (.int .i64 x) := by rw [C4 hb]; exact ho
 have hf := A9G (o := o) hb
 simp only [callFunc, Sem.run_bind, run_program, Result.andThen_ok, h5, h3, h4, Bool.false_eq_true, if_false, if_true, h1, h2]
 have := Conc.run_add_entry (P := PR) (ad := ⟨b, o, none⟩) (k := .i64) (v := x) (d := d) hc hf
 rw [A6l _ hb] at this
 have hm : (mark (Mark.extern 234)).run PR w = .ok () w := rfl
 rw [hm, Result.andThen_ok, this]
 rfl
theorem A9S {κ : Bool} {X : Nat → Prop} {S : List Nat} {w0 : World} {H H' : List Res} {K : Value → WP} {b o : Nat} {c : Array Value} {T : TypeId} {x d : Int} (ho : c[o]? = some (.int .i64 x))
  (hu : Up (.pt b (.cells c T (0, 0))) (.pt b (.cells (c.setIfInBounds o (.int .i64 (IntKind.i64.wrap (x + d)))) T (0, 0))) H H')
  (hK : TW κ S w0 H' (K (.int .i64 (IntKind.i64.wrap (x + d))))) : TW κ S w0 H (B7 PR X 234 [.pointer (some ⟨b, o, none⟩), .int .i64 d] K) := fun w hw => by
 have hm : Res.pt b (.cells c T (0, 0)) ∈ H := by obtain ⟨A, B, rfl, _⟩ := hu.parts; simp
 have hb := hw.pt hm
 refine Or.inr ⟨_, _, A7N hb ho, Sk.putb _ hb, hK _ (hw.up hu ⟨KS.putb hb (by simp [Res.foot]), ?_, ?_, by simp⟩)⟩
 ·simp only [List.mem_singleton, forall_eq, Res.holds]; exact ⟨N2 (F8 hb), rfl⟩
 ·simp only [List.mem_singleton, forall_eq, Res.foot]; exact ⟨Or.inl (by simp), by have := F8 hb; simpa using this⟩
end Go.Proofs.YtjobgnabneddjaaGreat
namespace Go.Proofs.YtjobgnabneddjaaGreat
open Go
end Go.Proofs.YtjobgnabneddjaaGreat
namespace Go.Proofs.YtjobgnabneddjaaGreat
open Go
def A2e (X : Nat → Prop) (t0 : Value) (R : Value → WP) : WP :=
 jn (n := 2) (fun t3 t10 =>
 R t3) fun J1 =>
 B7 PR X 161 [t0] fun t7 =>
 B7 PR X 160 [t7, (.func (.func 162) #[] #[])] fun t8 =>
 A0 PR (A9 .len #[281] 0 [t8]) fun t9 =>
 lp (n := 2) (fun L2 t3_1 t10_1 =>
 A0 PR (binOp .lss 3 t10_1 t9) fun t11 =>
 jn (n := 0) (
 jn (n := 1) (fun t3_2 =>
 A0 PR (binOp .add 3 t10_1 (.int .i64 1)) fun t18 =>
 L2 t3_2 t18) fun J3 =>
 A0 PR (Instr.indexAt 281 t8 t10_1) fun t12 =>
 A6 PR (Instr.loadAt 284 t12) fun t13 =>
 B5 PR X (Instr.alloc 284 true (.tuple #[])) fun t5 =>
 E0 PR X (Instr.storeAt 284 t5 t13) <|
 A6 PR (Instr.loadAt 284 t5) fun t15 =>
 B5 PR X (Instr.buildSlice 193 1 #[(0, t15)]) fun t16 =>
 B5 PR X (A9 .append #[193, 193] 193 [t3_1, t16]) fun t17 =>
 J3 t17) fun J4 =>
 D0 t11 (
 J4) (
 J1 t3_1 t10_1)) (.slice none 0 0) (.int .i64 0)
theorem A5b : A8 PR 112 := A7 Tryz.func112 (by kernel_rfl) rfl
theorem A6M {X : Nat → Prop} {t0 : Value} {R : Value → WP} {w : World} (h : A2e X t0 R w) : Fn PR X 112 #[t0] w R := D6 (args := [t0]) mixed Tryz.func112 (by kernel_rfl) h
def A0v (X : Nat → Prop) (t0 : Value) (R : Value → WP) : WP :=
 B5 PR X (Instr.box 58 t0) fun t1 =>
 A0 PR (Instr.makeFunc (.func 214) #[] #[t1]) fun t3 =>
 R t3
theorem A33 : A8 PR 161 := A7 Tryz.func161 (by kernel_rfl) rfl
theorem A4d {X : Nat → Prop} {t0 : Value} {R : Value → WP} {w : World} (h : A0v X t0 R w) : Fn PR X 161 #[t0] w R := D6 (args := [t0]) mixed Tryz.func161 (by kernel_rfl) h
def a7 (X : Nat → Prop) (t0 t1 : Value) (R : Value → WP) : WP :=
 B5 PR X (Instr.box 284 t0) fun t2 =>
 B5 PR X (Instr.box 284 t1) fun t3 =>
 drw <|
 A0 PR (Instr.fieldAt 284 t2 0) fun t5 =>
 A6 PR (Instr.loadAt 89 t5) fun t6 =>
 A0 PR (Instr.fieldAt 284 t3 0) fun t7 =>
 A6 PR (Instr.loadAt 89 t7) fun t8 =>
 A0 PR (Instr.fieldAt 284 t2 1) fun t10 =>
 A6 PR (Instr.loadAt 3 t10) fun t11 =>
 A0 PR (Instr.fieldAt 284 t3 1) fun t12 =>
 A6 PR (Instr.loadAt 3 t12) fun t13 =>
 B7 PR X 217 [t6, t8] fun t9 =>
 watch PR [(none, (Instr.loadAt 3 t12), t13), (none, (Instr.loadAt 3 t10), t11)] <|
 B7 PR X 218 [t11, t13] fun t14 =>
 B5 PR X (Instr.buildSlice 37 2 #[(0, t9), (1, t14)]) fun t15 =>
 B7 PR X 216 [t15] fun t16 =>
 R t16
theorem A0V : A8 PR 162 := A7 Tryz.func162 (by kernel_rfl) rfl
theorem A0e {X : Nat → Prop} {t0 t1 : Value} {R : Value → WP} {w : World} (h : a7 X t0 t1 R w) : Fn PR X 162 #[t0, t1] w R := D6 (args := [t0, t1]) mixed Tryz.func162 (by kernel_rfl) h
def q5 (X : Nat → Prop) (t0 t1 : Value) (R : Value → WP) : WP :=
 A6 PR (Instr.loadAt 58 t1) fun t6 =>
 A0 PR (A9 .len #[58] 0 [t6]) fun t7 =>
 lp (n := 1) (fun L1 t8 =>
 A0 PR (binOp .lss 3 t8 t7) fun t9 =>
 jn (n := 0) (
 jn (n := 1) (fun t17 =>
 A0 PR (binOp .add 3 t8 (.int .i64 1)) fun t31 =>
 L1 t31) fun J2 =>
 A0 PR (Instr.indexAt 58 t6 t8) fun t10 =>
 A6 PR (Instr.loadAt 155 t10) fun t11 =>
 B5 PR X (Instr.alloc 155 true (.tuple #[])) fun t4 =>
 E0 PR X (Instr.storeAt 155 t4 t11) <|
 A0 PR (Instr.fieldAt 155 t4 1) fun t12 =>
 A6 PR (Instr.loadAt 3 t12) fun t13 =>
 A0 PR (A9 .min #[3, 3] 0 [t13, (.int .i64 16)]) fun t14 =>
 A0 PR (A9 .max #[3, 3] 0 [(.int .i64 0), t14]) fun t15 =>
 A0 PR (binOp .mul 3 (.int .i64 8) t15) fun t16 =>
 lp (n := 1) (fun L3 t17_1 =>
 A0 PR (binOp .lss 3 t17_1 t16) fun t18 =>
 jn (n := 0) (
 jn (n := 0) (
 A0 PR (binOp .add 3 t17_1 (.int .i64 1)) fun t30 =>
 L3 t30) fun J4 =>
 drw <|
 A0 PR (Instr.fieldAt 155 t4 0) fun t21 =>
 A6 PR (Instr.loadAt 3 t21) fun t22 =>
 A0 PR (Instr.fieldAt 155 t4 0) fun t25 =>
 A6 PR (Instr.loadAt 3 t25) fun t26 =>
 B7 PR X 215 [t22, t17_1] fun t24 =>
 watch PR [(none, (Instr.loadAt 3 t25), t26)] <|
 A0 PR (Instr.build 284 #[(0, t24), (1, t26)]) fun t27 =>
 c7 PR X t0 [t27] fun t28 =>
 A0 PR (Op.unary .not t28) fun t29 =>
 D0 t29 (
 R (.tuple #[])) (
 J4)) fun J5 =>
 D0 t18 (
 J5) (
 J2 t17_1)) (.int .i64 0)) fun J6 =>
 D0 t9 (
 J6) (
 R (.tuple #[]))) (.int .i64 0)
theorem A2b : A8 PR 214 := A7 Tryz.func214 (by kernel_rfl) rfl
theorem A3C {X : Nat → Prop} {t0 t1 : Value} {R : Value → WP} {w : World} (h : q5 X t0 t1 R w) : Fn PR X 214 #[t0, t1] w R := D6 (args := [t0, t1]) mixed Tryz.func214 (by kernel_rfl) h
theorem A3F {X : Nat → Prop} {t0 t1 : Value} {K : Value → WP} {w : World} (h : Fn PR X 214 #[t0, t1] w K) : u4 PR X 214 [t0, t1] K w := ⟨A2b, h⟩
def A0f (X : Nat → Prop) (t0 t1 : Value) (R : Value → WP) : WP :=
 A0 PR (convert 3 89 t0) fun t6 =>
 B7 PR X 176 [t6, (.int .i64 4)] fun t7 =>
 B7 PR X 135 [t7] fun t8 =>
 A0 PR (convert 3 89 t1) fun t10 =>
 B7 PR X 176 [t10, (.int .i64 2)] fun t11 =>
 B7 PR X 176 [(.int .u64 0), (.int .i64 4)] fun t12 =>
 A0 PR (binOp .add 9 t11 t12) fun t13 =>
 B7 PR X 183 [t8, t13] fun t14 =>
 R t14
theorem A4N : A8 PR 215 := A7 Tryz.func215 (by kernel_rfl) rfl
theorem A4f {X : Nat → Prop} {t0 t1 : Value} {R : Value → WP} {w : World} (h : A0f X t0 t1 R w) : Fn PR X 215 #[t0, t1] w R := D6 (args := [t0, t1]) mixed Tryz.func215 (by kernel_rfl) h
end Go.Proofs.YtjobgnabneddjaaGreat
namespace Go.Proofs.YtjobgnabneddjaaGreat
open Go
def A8F (id : Int) (n : Nat) : Nat := A8T (A8K (A2U (IntKind.u64.wrap id) 4)) (A2U n 2 ++ A2U 0 4)
theorem B2v (w : World) (id : Int) (n : Nat) (hn : n < 2 ^ 62) : Fn PR C2 215 #[.int .i64 id, .int .i64 (n : Int)] w (fun v w' => v = .int .u64 (A8F id n : Nat) ∧ C7 [] w w') := by
 refine Fn.pure (A4f (TW.go (κ := false) (S := []) ?_))
 unfold A0f
 (have zz:=trivial;repeat((first|clear zz|with_reducible first|refine A3 ?_|refine A5 fun _=>?_|refine A4 fun _=>?_);try simp(disch:=first|omega|assumption|((repeat(first|exact A1|exact uH|apply A2|apply uT));first|done|fail)|(simp;first|done|omega|fail))[]))
 refine F4 p9 (fun w' hw' => A6q w' _ _) ?_
 (have zz:=trivial;repeat((first|clear zz|with_reducible first|refine A3 ?_|refine A5 fun _=>?_|refine A4 fun _=>?_);try simp(disch:=first|omega|assumption|((repeat(first|exact A1|exact uH|apply A2|apply uT));first|done|fail)|(simp;first|done|omega|fail))[]))
 refine F4 A7C (fun w' _ => A82 w' _ (by simp)) ?_
 (have zz:=trivial;repeat((first|clear zz|with_reducible first|refine A3 ?_|refine A5 fun _=>?_|refine A4 fun _=>?_);try simp(disch:=first|omega|assumption|((repeat(first|exact A1|exact uH|apply A2|apply uT));first|done|fail)|(simp;first|done|omega|fail))[]))
 refine F4 p9 (fun w' hw' => A6q w' _ _) ?_
 (have zz:=trivial;repeat((first|clear zz|with_reducible first|refine A3 ?_|refine A5 fun _=>?_|refine A4 fun _=>?_);try simp(disch:=first|omega|assumption|((repeat(first|exact A1|exact uH|apply A2|apply uT));first|done|fail)|(simp;first|done|omega|fail))[]))
 refine F4 p9 (fun w' hw' => A6q w' _ _) ?_
 (have zz:=trivial;repeat((first|clear zz|with_reducible first|refine A3 ?_|refine A5 fun _=>?_|refine A4 fun _=>?_);try simp(disch:=first|omega|assumption|((repeat(first|exact A1|exact uH|apply A2|apply uT));first|done|fail)|(simp;first|done|omega|fail))[B31]))
 refine F4 A2m (fun w' _ => A7u w' _ _ (B2Z _) (by simp)) ?_
 exact D1 rfl
def wtN (b : E8) : Nat := 8 * (max 0 (min b.2 16)).toNat
def A4Z (b : E8) : List (Nat × Int) := (List.range (wtN b)).map fun n => (A8F b.1 n, b.1)
def E6 (p : List E8) : List (Nat × Int) := p.flatMap A4Z
def E3 (x : Nat × Int) : List Value := [.int .u64 (x.1 : Nat), .int .i64 x.2]
def ptA (x : Nat × Int) : List Value := [.agg #[.int .u64 (x.1 : Nat), .int .i64 x.2]]
abbrev A4L (b : Nat) : Value := .func (.func 214) #[] #[.pointer (some ⟨b, 0, none⟩)]
theorem B1S (w : World) (v : Value) (hv : ∃ a n c, v = .slice a n c) : Fn PR C2 161 #[v] w (Rn [] w (fun b u => u = A4L b) fun b => [.pt b (.cells #[v] 58)]) := by
 obtain ⟨a, n, c, rfl⟩ := hv
 refine A4d (TW.go (κ := false) (S := []) ?_)
 unfold A0v
 (have zz:=trivial;repeat((first|clear zz|with_reducible first|refine A3 ?_|refine A5 fun _=>?_|refine A4 fun _=>?_);try simp(disch:=first|omega|assumption|((repeat(first|exact A1|exact uH|apply A2|apply uT));first|done|fail)|(simp;first|done|omega|fail))[]))
 rename_i b
 exact A2T b rfl (by simp)
theorem A7z {p : List E8} {i : Nat} {x : E8} (hx : p[i]? = some x) : E6 (p.take (i + 1)) = E6 (p.take i) ++ A4Z x := by
 rw [List.take_add_one, hx]; simp [E6]
theorem B0L {p : List E8} {i n : Nat} {x : E8} (hx : p[i]? = some x) (hn : n < wtN x) : (E6 p)[(E6 (p.take i)).length + n]? = some (A8F x.1 n, x.1) := by
 have e : p = p.take (i + 1) ++ p.drop (i + 1) := (List.take_append_drop _ _).symm
 conv => lhs; arg 1; rw [e]
 have h2 : E6 (p.take (i + 1) ++ p.drop (i + 1)) = E6 (p.take (i + 1)) ++ E6 (p.drop (i + 1)) := by simp only [E6, List.flatMap_append]
 rw [h2, A7z hx, List.append_assoc, List.getElem?_append_right (by omega), Nat.add_sub_cancel_left, List.getElem?_append_left (by simp [A4Z, hn])]
 simp [A4Z, hn]
theorem B1r (b : Nat) (v : Value) (p : List E8) (hn : p.length ≤ 1000000) : A3z (A4L b) [.pt b (.cells #[v] 58)] (RqS v p.length (p.flatMap F9)) ((E6 p).map ptA) := by
 refine ⟨_, _, _, rfl, fun y J E hJ hE stJ stE hy w0 h0 => ?_⟩
 obtain ⟨a, c, hv, hr⟩ := (hJ _ _ _ h0).2
 subst hv
 refine A3F (A3C (TW.at (κ := true) ?_ (hJ _ _ _ h0).1))
 unfold q5
 (have zz:=trivial;repeat((first|clear zz|with_reducible first|refine A3 ?_|refine A5 fun _=>?_|refine A4 fun _=>?_);try simp(disch:=first|omega|assumption|((repeat(first|exact A1|exact uH|apply A2|apply uT));first|done|fail)|(simp;first|done|omega|fail))[]))
 refine A2n p.length (fun i => (E6 (p.take i)).length) (fun _ => _) hJ stJ (by simpa [E6] using h0) fun i a' hi hJi hRi L hL => ?_
 by_cases hlt : i < p.length
 ·obtain ⟨_, _, hv, hr⟩ := hRi
  obtain ⟨b', o, hb, hrow, hnb⟩ := hr (by omega)
  cases hv
  subst hb
  obtain ⟨x, hx⟩ : ∃ x, p[i]? = some x := ⟨_, List.getElem?_eq_getElem hlt⟩
  have h1 := hrow.at (f := F9) (k := 2) (fun _ => rfl) hx
  rw [F9] at h1
  have hlen : (E6 (p.take (i + 1))).length = (E6 (p.take i)).length + wtN x := by rw [A7z hx]; simp [A4Z]
  rw [hlen] at hL
  have hw : 8 * max 0 (min x.2 16) = (wtN x : Nat) := by unfold wtN; omega
  have hwl : wtN x ≤ 128 := by unfold wtN; omega
  (have zz:=trivial;repeat((first|clear zz|with_reducible first|refine A3 ?_|refine A5 fun _=>?_|refine A4 fun _=>?_);try simp(disch:=first|omega|assumption|((repeat(first|exact A1|exact uH|apply A2|apply uT));first|done|fail)|(simp;first|done|omega|fail))[hlt, h1]))
  rename_i b4
  rw [hw]
  refine A2n (wtN x) (fun n => (E6 (p.take i)).length + n) (fun _ => _) hJ stJ hJi fun n a2 hi2 hJn hRn L2 hL2 => ?_
  by_cases hlt2 : n < wtN x
  ·have hg := B0L hx hlt2
   obtain ⟨hgi, hg'⟩ := List.getElem?_eq_some_iff.1 hg
   (have zz:=trivial;repeat((first|clear zz|with_reducible first|refine A3 ?_|refine A5 fun _=>?_|refine A4 fun _=>?_);try simp(disch:=first|omega|assumption|((repeat(first|exact A1|exact uH|apply A2|apply uT));first|done|fail)|(simp;first|done|omega|fail))[hlt2]))
   refine F4 A4N (fun w' _ => B2v w' x.1 n (by omega)) ?_
   (have zz:=trivial;repeat((first|clear zz|with_reducible first|refine A3 ?_|refine A5 fun _=>?_|refine A4 fun _=>?_);try simp(disch:=first|omega|assumption|((repeat(first|exact A1|exact uH|apply A2|apply uT));first|done|fail)|(simp;first|done|omega|fail))[]))
   refine A5x hJ hE stJ hy hJn (by simpa using hgi) (by rw [List.getElem_map, hg', ptA]) (fun w3 h => ?_) (fun w3 h => ?_)
   ·(have zz:=trivial;repeat((first|clear zz|with_reducible first|refine A3 ?_|refine A5 fun _=>?_|refine A4 fun _=>?_);try simp(disch:=first|omega|assumption|((repeat(first|exact A1|exact uH|apply A2|apply uT));first|done|fail)|(simp;first|done|omega|fail))[]))
    exact fun w' hw' => hL2 hlt2 w' (stJ _ _ _ _ _ h hw')
   ·(have zz:=trivial;repeat((first|clear zz|with_reducible first|refine A3 ?_|refine A5 fun _=>?_|refine A4 fun _=>?_);try simp(disch:=first|omega|assumption|((repeat(first|exact A1|exact uH|apply A2|apply uT));first|done|fail)|(simp;first|done|omega|fail))[]))
    exact A4V stE h
  ·obtain rfl : n = wtN x := by omega
   (have zz:=trivial;repeat((first|clear zz|with_reducible first|refine A3 ?_|refine A5 fun _=>?_|refine A4 fun _=>?_);try simp(disch:=first|omega|assumption|((repeat(first|exact A1|exact uH|apply A2|apply uT));first|done|fail)|(simp;first|done|omega|fail))[]))
   exact fun w' hw' => hL hlt w' (stJ _ _ _ _ _ hJn (hw'.sub (by simp)))
 ·obtain rfl : i = p.length := by omega
  rw [List.take_length] at hJi
  (have zz:=trivial;repeat((first|clear zz|with_reducible first|refine A3 ?_|refine A5 fun _=>?_|refine A4 fun _=>?_);try simp(disch:=first|omega|assumption|((repeat(first|exact A1|exact uH|apply A2|apply uT));first|done|fail)|(simp;first|done|omega|fail))[]))
  exact A4F stJ (by simpa using hJi)
end Go.Proofs.YtjobgnabneddjaaGreat
namespace Go.Proofs.YtjobgnabneddjaaGreat
open Go
def A2a (X : Nat → Prop) (t0 : Value) (R : Value → WP) : WP :=
 A0 PR (A9 .min #[3, 3] 0 [t0, (.int .i64 64)]) fun t4 =>
 A0 PR (A9 .max #[3, 3] 0 [(.int .i64 0), t4]) fun t5 =>
 B5 PR X (Instr.makeSlice 84 t5 t5) fun t6 =>
 R t6
theorem A5k : A8 PR 73 := A7 Tryz.func73 (by kernel_rfl) rfl
theorem A6j {X : Nat → Prop} {t0 : Value} {R : Value → WP} {w : World} (h : A2a X t0 R w) : Fn PR X 73 #[t0] w R := D6 (args := [t0]) mixed Tryz.func73 (by kernel_rfl) h
end Go.Proofs.YtjobgnabneddjaaGreat
namespace Go.Proofs.YtjobgnabneddjaaGreat
open Go
abbrev A4u (v : Value) (l : List EnV) : Res := .own 218 4 v l.length (l.flatMap A3b)
def j3 (n : Nat) : List EnV := List.replicate (min n 64) noE
theorem B4y (n : Nat) : (Builtin.zeroCells (Value.agg #[.int .i64 0, .string noB, .int .i64 0, .int .i64 0]).cells n).toList = (List.replicate n noE).flatMap A3b := by
 have h4 : (Value.agg #[.int .i64 0, .string noB, .int .i64 0, .int .i64 0]).cells.size = 4 := rfl
 have hz : (Builtin.zeroCells (Value.agg #[.int .i64 0, .string noB, .int .i64 0, .int .i64 0]).cells n).toList.length = n * 4 := by simp [size_zeroCells]
 have hr : ((List.replicate n noE).flatMap A3b).length = n * 4 := by rw [H8 (k := 4) fun _ => rfl]; simp
 apply List.ext_getElem (by rw [hz, hr])
 intro i h1 h2
 rw [hz] at h1
 have hf := l5 (f := A3b) (k := 4) (fun _ => rfl) (List.replicate n noE) (i / 4) (i % 4) (by omega)
 rw [show i / 4 * 4 + i % 4 = i by omega, List.getElem?_eq_getElem h2, List.getElem?_replicate_of_lt (by omega)] at hf
 have e : (Builtin.zeroCells (Value.agg #[.int .i64 0, .string noB, .int .i64 0, .int .i64 0]).cells n).toList[i]'(by rw [hz]; exact h1) = (Value.agg #[.int .i64 0, .string noB, .int .i64 0, .int .i64 0]).cells[i % 4]! := by
  simp [Builtin.zeroCells]
 rw [e]
 have h3 : i % 4 = 0 ∨ i % 4 = 1 ∨ i % 4 = 2 ∨ i % 4 = 3 := by omega
 rcases h3 with h3 | h3 | h3 | h3 <;> (rw [h3] at hf ⊢; simp [A3b, noE] at hf ⊢; exact hf.symm)
theorem A7M (w : World) (n : Nat) (hn : n ≤ 1000000) : Fn PR C2 73 #[.int .i64 (n : Int)] w (Rn [] w (fun r u => u = r) fun r => [A4u r (j3 n)]) := by
 refine A6j (TW.go (κ := false) (S := []) ?_)
 unfold A2a
 have e : max 0 (min (n : Int) 64) = ((min n 64 : Nat) : Int) := by omega
 (have zz:=trivial;repeat((first|clear zz|with_reducible first|refine A3 ?_|refine A5 fun _=>?_|refine A4 fun _=>?_);try simp(disch:=first|omega|assumption|((repeat(first|exact A1|exact uH|apply A2|apply uT));first|done|fail)|(simp;first|done|omega|fail))[e]))
 refine A1g (by omega) (by omega) (by omega) (by omega) fun bs => ?_
 rw [Int.toNat_natCast]
 refine A2T _ rfl ?_
 simp only [A4u, j3, List.length_replicate, ← B4y]
 exact List.Sublist.refl _
def B7H (l : List EnV) (x : EnV) : Option (List EnV) :=
 let at0 := B1x l x.key
 let at1 := if at0 < 0 then B4V l x.key else at0
 if at1 < 0 then none else some (l.set at1.toNat x)
def A77 : Nat → List EnV → List (Nat × EnV)
 | _, [] => []
 | i, x :: r => if x.st = 1 then (i, x) :: A77 (i + 1) r else A77 (i + 1) r
def B4q (l : List EnV) : List (Nat × EnV) := A77 0 l
end Go.Proofs.YtjobgnabneddjaaGreat
namespace Go.Proofs.YtjobgnabneddjaaGreat
open Go
def B4f : EnV := ⟨2, noB, 0, 0⟩
def B7c (acc : List EnV) (x : EnV) : List EnV := (B7H acc x).getD acc
def B4b (l : List EnV) : List EnV := (B4q l).foldl (fun acc p => B7c acc p.2) (j3 l.length)
theorem A88 {κ : Bool} {S : List Nat} {w0 : World} {H : List Res} {K0 : WP} {e : TypeId} {k : Nat} {v : Value} {q : Nat} {xs : List Value} (hm : Res.own e k v q xs ∈ H) (h : v.cells = #[v] → v.cells.size = 1 → v.cells.toList.all plain = true → TW κ S w0 H K0) : TW κ S w0 H K0 := fun w hw => by
 obtain ⟨a, c, rfl⟩ := L7.form (hw.hold _ hm); exact h rfl rfl rfl w hw
theorem q7 {κ : Bool} {S : List Nat} {w0 : World} {H : List Res} {K0 : WP} {e : TypeId} {k : Nat} {v : Value} {q : Nat} {xs : List Value} (hm : Res.own e k v q xs ∈ H) (h : ∀ a c, v = .slice a q c → TW κ S w0 H K0) : TW κ S w0 H K0 := fun w hw => by
 obtain ⟨a, c, rfl⟩ := L7.form (hw.hold _ hm); exact h a c rfl w hw
def B2y (u : List EnV) : List EnV := if u.length < 2 * A96 u 2 then B4b u else u
end Go.Proofs.YtjobgnabneddjaaGreat
namespace Go.Proofs.YtjobgnabneddjaaGreat
open Go
theorem S6 (x : Nat × Int) : (E3 x).length = 2 := rfl
abbrev A1V (v : Value) (l : List (Nat × Int)) : Res := .own 284 2 v l.length (l.flatMap E3)
theorem RqS.of2 {S : List Nat} {v : Value} {n : Nat} {xs : List Value} {w0 w : World} {A F : List Res} (h : G1 w0 v n xs) (hx : 0 < n → 0 < xs.length) (hS : 0 < n → ∀ g ∈ G8 v, g ∉ S) (hw : LW false S w0 (A ++ F) w) : RqS v n xs F w := by
 obtain ⟨a, c, rfl, hr⟩ := h.form
 refine ⟨a, c, rfl, fun hn => ?_⟩
 obtain ⟨b, o, rfl, hrow⟩ := hr hn
 have hb := hS hn b (by simp [G8])
 refine ⟨b, o, rfl, hw.ks.row hb hrow, hw.notin_old ?_ hb⟩
 have h0 := hrow 0 (hx hn)
 rw [List.getElem?_eq_getElem (hx hn)] at h0
 obtain ⟨c', t', z', h1, h2⟩ := V2 h0
 exact F8 h1
theorem G1.ks0 {κ : Bool} {S : List Nat} {a b : World} {v : Value} {n : Nat} {xs : List Value} (h : G1 a v n xs) (hx : n = 0 → xs = []) (hk : KS κ S a b) (hS : 0 < n → ∀ g ∈ G8 v, g ∉ S) : G1 b v n xs := by
 rcases Nat.eq_zero_or_pos n with h0 | h0
 ·obtain ⟨c, d, rfl, _⟩ := h.form
  exact Or.inl ⟨h0, hx h0, c, d, by rw [h0]⟩
 ·exact h.ks hk (hS h0)
theorem B3w (b : E8) : wtN b ≤ 128 := by unfold wtN; omega
theorem A4b (p : List E8) : (E6 p).length ≤ p.length * 128 := by
 induction p with
 | nil => simp [E6]
 | cons b p ih =>
  have := B3w b
  have e : (E6 (b :: p)).length = wtN b + (E6 p).length := by simp [E6, A4Z]
  rw [e, List.length_cons]; omega
theorem A64 (w : World) (b : Nat) (v : Value) (p : List E8) (hn : p.length ≤ 1000) (hv : G1 w v p.length (p.flatMap F9)) (hS : 0 < p.length → ∀ g ∈ G8 v, g ∉ [b])
  (hw : LW false [b] w [.pt b (.cells #[v] 58)] w) :
  Fn PR C2 248 #[.slice none 0 0, A4L b] w (Rn [b] w (fun r u => u = r) fun r => [A1V r (E6 p)]) := by
 refine P3 (TW.goH (κ := false) (S := [b]) ?_ hw)
 unfold G6
 (have zz:=trivial;repeat((first|clear zz|with_reducible first|refine A3 ?_|refine A5 fun _=>?_|refine A4 fun _=>?_);try simp(disch:=first|omega|assumption|((repeat(first|exact A1|exact uH|apply A2|apply uT));first|done|fail)|(simp;first|done|omega|fail))[]))
 rename_i bt
 have hll := A4b p
 refine r4 284 2 ?_
 refine Sels.tw (rs := [.pt b (.cells #[v] 58), .own 284 2 (.slice none 0 0) 0 [], .pt bt (.cells #[.slice none 0 0] 281)]) (by (repeat' constructor)) ?_
 refine A5y (B1r b v p (by omega)) (by intro y hy; obtain ⟨p, _, rfl⟩ := List.mem_map.1 hy; rfl) (fun i (x : Option Addr × Nat) => True) (fun i x => [.own 284 2 (.slice x.1 i x.2) i (((E6 p).take i).flatMap E3), .pt bt (.cells #[.slice x.1 i x.2] 281)])
  (fun c (y : Unit) => False) (fun y => []) (none, 0) trivial ?_ ?_ ?_ ?_ (by simp)
 ·intro i _ F w1 _ hw
  exact RqS.of2 hv (fun h => by rw [H8 (k := 2) fun _ => rfl]; omega) hS hw
 ·rintro i hi ⟨xa, xc⟩ F _ K' hK _
  have hi' : i < (E6 p).length := by simpa using hi
  have hst : ((E6 p).take (i + 1)).flatMap E3 = ((E6 p).take i).flatMap E3 ++ E3 (E6 p)[i] := by
   rw [List.take_add_one, List.getElem?_eq_getElem hi', List.flatMap_append]; simp
  simp only [hst] at hK
  simp only [List.getElem_map]
  have hl0 : (((E6 p).take i).flatMap E3).length = i * 2 := by rw [H8 S6, List.length_take]; congr 1; omega
  generalize (E6 p)[i] = q at *
  simp only [ptA, VF.app, E3] at *
  (have zz:=trivial;repeat((first|clear zz|with_reducible first|refine A3 ?_|refine A5 fun _=>?_|refine A4 fun _=>?_|refine m5 fun _=>?_|refine m9 (hK:=fun _=>?_)|refine m7 (hK:=fun _=>?_)|refine m4 (hK:=fun _=>?_)|refine m0 (hK:=fun _=>?_)|refine l9 (hK:=fun _=>?_));try simp(disch:=first|omega|assumption|((repeat(first|exact A1|exact uH|apply A2|apply uT));first|done|fail)|(simp;first|done|omega|fail))[]))
  refine A1P (e := 284) (k := 2) (q := i) (r := 1) (xs := ((E6 p).take i).flatMap E3) (news := [.int .u64 (q.1 : Nat), .int .i64 q.2]) (by (repeat constructor)) (Y8.own (by (repeat constructor))) (by decide) (by simp) (by simp) (by simp only [maxLen]; omega) (by omega) fun a' c' => ?_
  (have zz:=trivial;repeat((first|clear zz|with_reducible first|refine A3 ?_|refine A5 fun _=>?_|refine A4 fun _=>?_);try simp(disch:=first|omega|assumption|((repeat(first|exact A1|exact uH|apply A2|apply uT));first|done|fail)|(simp;first|done|omega|fail))[]))
  exact TW.sub (hK (a', c') trivial) (by ((try simp only [List.cons_append, List.nil_append, List.append_assoc]); (repeat (first | exact List.Sublist.refl _ | exact List.nil_sublist _ | with_reducible apply List.Sublist.cons_cons | apply List.Sublist.cons)); first | done | fail))
 ·rintro ⟨xa, xc⟩ _
  (have zz:=trivial;repeat((first|clear zz|with_reducible first|refine A3 ?_|refine A5 fun _=>?_|refine A4 fun _=>?_);try simp(disch:=first|omega|assumption|((repeat(first|exact A1|exact uH|apply A2|apply uT));first|done|fail)|(simp;first|done|omega|fail))[]))
  refine B2 (.slice xa (E6 p).length xc) rfl ?_
  exact Sels.cons Sel.here Sels.nil
 ·rintro _ _ h; exact h.elim
theorem A8u (w : World) (b : Nat) (v : Value) (p : List E8) (hn : p.length ≤ 1000) (hv : G1 w v p.length (p.flatMap F9)) (hS : 0 < p.length → ∀ g ∈ G8 v, g ∉ [b])
  (hw : LW false [b] w [.pt b (.cells #[v] 58)] w) :
  Fn PR C2 212 #[A4L b] w (Rn [b] w (fun r u => u = r) fun r => [A1V r (E6 p)]) := by
 refine g9 (TW.goH (κ := false) (S := [b]) ?_ hw)
 unfold N9
 refine B9 (Hc := [.pt b (.cells #[v] 58)]) N7 (fun w' hw' hs => A64 w' b v p hn (hv.ks0 (fun h => by rw [List.length_eq_zero_iff.1 h]; rfl) hw'.ks hS) hS hs) (by (repeat' constructor)) ?_
 rintro _ r rfl
 exact B2 r rfl (by (repeat' constructor))
end Go.Proofs.YtjobgnabneddjaaGreat
namespace Go.Proofs.YtjobgnabneddjaaGreat
open Go
def leP (x y : Nat × Int) : Bool := decide (x.1 < y.1 ∨ (x.1 = y.1 ∧ x.2 ≤ y.2))
def L9 (l : List (Nat × Int)) : List (Nat × Int) := l.mergeSort leP
theorem a6 (l : List (Nat × Int)) : (L9 l).length = l.length := by simp [L9]
end Go.Proofs.YtjobgnabneddjaaGreat
namespace Go.Proofs.YtjobgnabneddjaaGreat
open Go
end Go.Proofs.YtjobgnabneddjaaGreat
namespace Go.Proofs.YtjobgnabneddjaaGreat
open Go
def B7N (x : EnV) (now : Int) : Bool := decide (x.st = 1) && decide (x.dl < now)
def B2p (f n m : Nat) : List Nat := (List.range n).map fun i => (f + i) % m
def B5d (now : Int) (s : List EnV × Nat) (j : Nat) : List EnV × Nat := if B7N (s.1.getD j noE) now then (s.1.set j B4f, s.2 + 1) else s
def B3K (l : List EnV) (f n : Nat) (now : Int) : List EnV × Nat := (B2p f n l.length).foldl (B5d now) (l, 0)
def A8d (l : List EnV) (f : Int) : Nat := if f < 0 ∨ (l.length : Int) ≤ f then 0 else f.toNat
def B16 (l : List EnV) (n : Int) : Nat := min n.toNat l.length
def B3x (l : List EnV) (f n now : Int) : List EnV × Nat × Nat :=
 let s := B3K l (A8d l f) (B16 l n) now
 (if 0 < s.2 then B2y s.1 else s.1, if 0 < l.length then (A8d l f + B16 l n) % l.length else A8d l f, s.2)
@[simp] theorem B6U {κ : Bool} {S : List Nat} {w0 : World} {H : List Res} {K0 : WP} {t : TypeId} {z : Value} [h : TS t z] {b o : Nat} {c : Array Value} {T : TypeId} {f : Nat × Nat} {v : Value} {l : List Rd} {x y : Bool} (hm : Res.pt b (.cells c T f) ∈ H) (hv : c[o]? = some v) :
  TW κ S w0 H (watch PR ((some (.bool x, y), Instr.loadAt t (.pointer (some ⟨b, o, none⟩)), v) :: l) K0) = TW κ S w0 H (watch PR l K0) := let ⟨_, _, h, hd⟩ := h.ti; A9k fun _ w hw => c6 h hd (by rw [C4 (hw.pt hm)]; exact hv)
end Go.Proofs.YtjobgnabneddjaaGreat
namespace Go.Proofs.YtjobgnabneddjaaGreat
open Go
inductive SlV where
 | no
 | bld
 | rdy (p : List E8)
structure WS where
 c : CfgV
 cells : List Int
 own : List Int
 sl : List SlV
 keep : List (Int × Int)
 tabs : List (List EnV)
 places : List Nat
 now : Int
def E2 (l : List Int) (i : Int) : Int := if 0 ≤ i ∧ i < l.length then l.getD i.toNat 0 else 0
def K3 (l : List Int) (i v : Int) : List Int := if 0 ≤ i ∧ i < l.length then l.set i.toNat v else l
def B30 (l : List Int) (i : Int) : Int := if 0 ≤ i ∧ i < l.length then l.getD i.toNat 0 else -1
def B1z (l : List Int) (i a b : Int) : List Int := if 0 ≤ i ∧ i < l.length ∧ l.getD i.toNat 0 = a then l.set i.toNat b else l
def B13 (l : List Int) (i who : Int) : List Int := if 0 ≤ who then B1z l i (-1) who else l
def A42 (l : List Int) (i who : Int) : List Int := if 0 ≤ who then B1z l i who (-1) else l
def L0 (l : List SlV) (i : Int) (x : SlV) : List SlV := if 0 ≤ i ∧ i < l.length then l.set i.toNat x else l
def w9 (l : List SlV) (i : Int) : SlV := if 0 ≤ i ∧ i < l.length then l.getD i.toNat .no else .no
def j1 (l : List SlV) (i : Int) (p : List E8) : List SlV :=
 match w9 l i with
 | .bld => if H0 p = 0 then L0 l i (.rdy p) else l
 | _ => l
def stK (l : List (Int × Int)) (i : Int) : Int := if 0 ≤ i ∧ i < l.length then (l.getD i.toNat (0, 0)).1 else -1
def D3 (l : List (Int × Int)) : Int := if l.findIdx (· = (0, 0)) < l.length then (l.findIdx (· = (0, 0)) : Nat) else -1
def V1 (pins : List Int) (e : Int) : Bool := pins.all fun p => p = 0 || e < p
def D4 (pins : List Int) (s : Int × Int) : Bool := decide (s.1 = 2) && V1 pins s.2
def H2 (l : List (Int × Int)) (pins : List Int) : Int := if l.findIdx (D4 pins) < l.length then (l.findIdx (D4 pins) : Nat) else -1
def z8 (l : List (Int × Int)) (i a : Int) (s : Int × Int) : List (Int × Int) := if stK l i = a ∧ 0 ≤ i then l.set i.toNat s else l
def A1T (l : List (Int × Int)) (i : Int) : List (Int × Int) := z8 l i 2 (0, 0)
def A2B (l : List (Int × Int)) (i e : Int) : List (Int × Int) := z8 l i 1 (2, e)
def F5 (l : List (Int × Int)) : List (Int × Int) := if D3 l < 0 then l else l.set (D3 l).toNat (1, (l.getD (D3 l).toNat (0, 0)).2)
def s7 (c : CfgV) (who : Int) : Int := if who < 1 ∨ c.wk < who then -1 else 1 + who
abbrev r7 := Bool × Bool × Bool
structure JB where
 who : Int
 st : Int
 ans : AnsV
structure JU where
 b : JB
 pool : List E8
 pins : List Int
 slot : Int
 old : Int
def S1 : AnsV := ⟨0, 0, false, 0⟩
def JB.refuse (b : JB) (e : Int) : JB := { b with st := -1, ans := ⟨e, 0, false, 0⟩ }
def J0 (j : JU) : Int := if j.b.who = 0 then H0 j.pool else 1
def G7 (j : JU) (x : WS) : JU × WS × r7 :=
 if 0 ≤ H2 x.keep j.pins then (j, { x with sl := L0 x.sl (H2 x.keep j.pins) .no, keep := A1T x.keep (H2 x.keep j.pins) }, false, false, false)
 else if D3 x.keep < 0 then ({ j with b := j.b.refuse 13, slot := D3 x.keep }, x, true, true, false)
 else ({ j with slot := D3 x.keep, b := { j.b with st := j.b.st + 1 } }, { x with sl := L0 x.sl (D3 x.keep) .bld, keep := F5 x.keep }, false, false, false)
def D5 (j : JU) : JU := { j with b := { j.b with st := j.b.st + 1 } }
def A0g (j : JU) (x : WS) : JU × WS × r7 :=
 let e := IntKind.i64.wrap (E2 x.cells 0 + 1)
 ({ j with b := { j.b with st := -1 } }, { x with cells := K3 x.cells 0 e, keep := if 0 < j.old then A2B x.keep (j.old - 1) e else x.keep }, false, true, false)
def C8 (j : JU) (x : WS) : JU × WS × r7 :=
 if j.b.st = 0 ∧ J0 j ≠ 0 then ({ j with b := j.b.refuse (J0 j) }, x, true, true, false)
 else if j.b.st = 0 ∨ j.b.st - x.c.wk < 0 then ({ D5 j with pins := j.pins ++ [E2 x.cells (s7 x.c (j.b.st + 1))] }, x, false, false, false)
 else if j.b.st - x.c.wk = 0 then G7 j x
 else if j.b.st - x.c.wk = 1 then (D5 j, { x with sl := j1 x.sl j.slot j.pool }, false, false, false)
 else if j.b.st - x.c.wk = 2 then ({ D5 j with old := E2 x.cells 1 }, x, false, false, false)
 else if j.b.st - x.c.wk = 3 then (D5 j, { x with cells := K3 x.cells 1 (j.slot + 1) }, true, false, false)
 else A0g (D5 j) x
structure JE where
 b : JB
 shard : Int
 place : Nat
 table : List EnV
def B3C (x : WS) (i : Int) : Bool := decide (0 ≤ i) && decide (i < x.tabs.length)
def B27 (x : WS) (i : Int) : List EnV := x.tabs.getD i.toNat []
def B3g (x : WS) (i : Int) : Nat := x.places.getD i.toNat 0
def JE.up (j : JE) : JE := { j with b := { j.b with st := j.b.st + 1 } }
def A7x (j : JE) (x : WS) : JE × WS × r7 :=
 if B3C x j.shard = false then ({ j with b := j.b.refuse 1 }, x, true, true, false)
 else if j.b.st = 0 then (j.up, { x with own := B13 x.own j.shard j.b.who }, false, false, false)
 else if j.b.st = 1 then
  let s := B3x (B27 x j.shard) (B3g x j.shard) 4 x.now
  ({ j with b := { j.b with st := j.b.st + 1, ans := { j.b.ans with count := (s.2.2 : Nat) } }, table := s.1, place := s.2.1 }, x, true, false, false)
 else if j.b.st = 2 then (j.up, { x with tabs := x.tabs.set j.shard.toNat j.table, places := x.places.set j.shard.toNat j.place }, false, false, false)
 else ({ j with b := { j.b with st := -1 } }, { x with own := A42 x.own j.shard j.b.who }, false, true, false)
def A7Z (b : JB) (x : WS) : JB × WS × r7 :=
 let n : Int := x.tabs.length
 let i := b.st % n
 if b.st < n then ({ b with st := b.st + 1 }, { x with own := B13 x.own i b.who }, decide (i = n - 1), false, false)
 else if b.st < 2 * n then ({ b with st := b.st + 1, ans := { b.ans with count := IntKind.i64.wrap (b.ans.count + (A96 (B27 x i) 1 : Nat)) } }, x, false, false, false)
 else if i = n - 1 then ({ b with st := -1 }, { x with own := A42 x.own i b.who }, false, true, false)
 else ({ b with st := b.st + 1 }, { x with own := A42 x.own i b.who }, false, false, false)
inductive JV where
 | upd (j : JU)
 | exp (j : JE)
 | sta (b : JB)
 | non (b : JB)
def JV.b : JV → JB
 | .upd j => j.b
 | .exp j => j.b
 | .sta b => b
 | .non b => b
def JV.waits (j : JV) (x : WS) : Bool :=
 match j with
 | .upd _ => false
 | .exp j => decide (j.b.st = 0) && !decide (B30 x.own j.shard < 0)
 | .sta b => decide (b.st < x.tabs.length) && !decide (B30 x.own b.st < 0)
 | .non _ => false
def JV.ready (j : JV) (x : WS) : Bool := !decide (j.b.st = -1) && !j.waits x
def JV.step0 (j : JV) (x : WS) : JV × WS × r7 :=
 match j with
 | .upd j => (.upd (C8 j x).1, (C8 j x).2)
 | .exp j => (.exp (A7x j x).1, (A7x j x).2)
 | .sta b => (.sta (A7Z b x).1, (A7Z b x).2)
 | .non b => (.non (b.refuse 1), x, true, true, false)
def JV.step (j : JV) (x : WS) : JV × WS × r7 := if j.ready x then j.step0 x else (j, x, false, false, false)
structure RunV where
 j : JV
 x : WS
 n : Nat
 tk : Nat
 bad : Nat
def RunV.next (r : RunV) : RunV := ⟨(r.j.step0 r.x).1, (r.j.step0 r.x).2.1, r.n + 1, r.tk + (r.j.step0 r.x).2.2.1.toNat, r.bad + (r.j.step0 r.x).2.2.2.2.toNat⟩
def H6 : Nat → RunV → RunV
 | 0, r => r
 | f + 1, r => if r.j.ready r.x then H6 f r.next else r
end Go.Proofs.YtjobgnabneddjaaGreat
namespace Go.Proofs.YtjobgnabneddjaaGreat
open Go
def E7 (l : List Int) : List Value := l.map fun n => .int .i64 n
@[simp] theorem B7D (l : List Int) : (E7 l).length = l.length := by unfold E7; rw [List.length_map]
theorem A23 {l : List Int} {i : Nat} (h : i < l.length) : (E7 l)[i]? = some (.int .i64 (l.getD i 0)) := by
 unfold E7; rw [List.getElem?_map, List.getElem?_eq_getElem h, List.getD_eq_getElem?_getD, List.getElem?_eq_getElem h]; rfl
theorem A3p {l : List Int} {i : Nat} (h : i < l.length) (v : Int) : Z7 (E7 l) i [.int .i64 v] = E7 (l.set i v) := by
 unfold Z7 E7
 rw [List.map_set, List.set_eq_take_append_cons_drop, if_pos (by simpa using h)]
 simp
def C0 (b : Nat) (n : Int) (cv ov : Value) (cs os : List Int) : List Res := [.pt b (.cells #[.int .i64 n, cv, ov] 141), .own 3 1 cv cs.length (E7 cs), .own 3 1 ov os.length (E7 os)]
theorem B0J (w : World) (b : Nat) (n : Int) (cv ov : Value) (hw : LW false [b] w [.pt b (.cells #[.int .i64 n, cv, ov] 141)] w) :
  Fn PR C2 178 #[.pointer (some ⟨b, 0, none⟩), .int .i64 1] w (Rn [b] w (fun (_ : Unit) u => u = .int .i64 (IntKind.i64.wrap (n + 1))) fun _ => [.pt b (.cells #[.int .i64 (IntKind.i64.wrap (n + 1)), cv, ov] 141)]) := by
 refine u7 (TW.goH (κ := false) (S := [b]) ?_ hw)
 unfold U5
 (have zz:=trivial;repeat((first|clear zz|with_reducible first|refine A3 ?_|refine A5 fun _=>?_|refine A4 fun _=>?_);try simp(disch:=first|omega|assumption|((repeat(first|exact A1|exact uH|apply A2|apply uT));first|done|fail)|(simp;first|done|omega|fail))[]))
 refine A9S (x := n) (c := #[.int .i64 n, cv, ov]) (o := 0) rfl Up.here ?_
 exact B2 () rfl (by (repeat' constructor))
theorem A9W (w : World) (b : Nat) (n : Int) (cv ov : Value) (hw : LW false [b] w [.pt b (.cells #[.int .i64 n, cv, ov] 141)] w) :
  Fn PR C2 129 #[.pointer (some ⟨b, 0, none⟩)] w (Rn [b] w (fun (n : Int) u => u = .tuple #[]) fun n => [.pt b (.cells #[.int .i64 n, cv, ov] 141)]) := by
 refine A0M (TW.goH (κ := false) (S := [b]) ?_ hw)
 unfold Y5
 (have zz:=trivial;repeat((first|clear zz|with_reducible first|refine A3 ?_|refine A5 fun _=>?_|refine A4 fun _=>?_);try simp(disch:=first|omega|assumption|((repeat(first|exact A1|exact uH|apply A2|apply uT));first|done|fail)|(simp;first|done|omega|fail))[]))
 refine B9 (Hc := [.pt b (.cells #[.int .i64 n, cv, ov] 141)]) r3 (fun w' _ hs => B0J w' b n cv ov hs) (by (repeat' constructor)) ?_
 rintro _ v rfl
 exact B2 (IntKind.i64.wrap (n + 1)) rfl (by (repeat' constructor))
def A1d (v : Value) (l : List Int) (i : Int) (u : Value) : Prop := if 0 ≤ i ∧ i < l.length then ∃ g c, v = .slice (some ⟨g, 0, none⟩) l.length c ∧ u = .pointer (some ⟨g, i.toNat, none⟩) else u = .pointer none
theorem A48 (w : World) (b : Nat) (n : Int) (cv ov : Value) (v : Value) (l : List Int) (i : Int) (hl : l.length ≤ 1024) (hv : L7 w 3 1 v l.length (E7 l)) (hw : LW false [b] w [.pt b (.cells #[.int .i64 n, cv, ov] 141)] w) :
  Fn PR C2 74 #[.pointer (some ⟨b, 0, none⟩), v, .int .i64 i] w (Rn [b] w (fun (n : Int) u => A1d v l i u) fun n => [.pt b (.cells #[.int .i64 n, cv, ov] 141)]) := by
 refine A12 (TW.goH (κ := false) (S := [b]) ?_ hw)
 unfold k5
 obtain ⟨a, c, rfl⟩ := hv.form
 by_cases c1 : i < 0
 ·(have zz:=trivial;repeat((first|clear zz|with_reducible first|refine A3 ?_|refine A5 fun _=>?_|refine A4 fun _=>?_);try simp(disch:=first|omega|assumption|((repeat(first|exact A1|exact uH|apply A2|apply uT));first|done|fail)|(simp;first|done|omega|fail))[c1]))
  exact B2 n (by unfold A1d; rw [if_neg (by omega)]) (by (repeat' constructor))
 by_cases c2 : (l.length : Int) ≤ i
 ·(have zz:=trivial;repeat((first|clear zz|with_reducible first|refine A3 ?_|refine A5 fun _=>?_|refine A4 fun _=>?_);try simp(disch:=first|omega|assumption|((repeat(first|exact A1|exact uH|apply A2|apply uT));first|done|fail)|(simp;first|done|omega|fail))[c1, c2]))
  exact B2 n (by unfold A1d; rw [if_neg (by omega)]) (by (repeat' constructor))
 obtain ⟨j, rfl⟩ : ∃ j : Nat, i = j := ⟨i.toNat, by omega⟩
 have hj : j < l.length := by omega
 have hj2 : ¬ l.length ≤ j := by omega
 rcases hv.2 with ⟨h, e⟩ | ⟨g, cap, cur, e, h2⟩
 ·omega
 cases e
 (have zz:=trivial;repeat((first|clear zz|with_reducible first|refine A3 ?_|refine A5 fun _=>?_|refine A4 fun _=>?_);try simp(disch:=first|omega|assumption|((repeat(first|exact A1|exact uH|apply A2|apply uT));first|done|fail)|(simp;first|done|omega|fail))[c1, c2, hj, hj2]))
 refine B9 (Hc := [.pt b (.cells #[.int .i64 n, cv, ov] 141)]) x9 (fun w' _ hs => A9W w' b n cv ov hs) (by (repeat' constructor)) ?_
 rintro m v rfl
 (have zz:=trivial;repeat((first|clear zz|with_reducible first|refine A3 ?_|refine A5 fun _=>?_|refine A4 fun _=>?_);try simp(disch:=first|omega|assumption|((repeat(first|exact A1|exact uH|apply A2|apply uT));first|done|fail)|(simp;first|done|omega|fail))[c1, c2, hj, hj2]))
 exact B2 m (by unfold A1d; rw [if_pos (by omega)]; exact ⟨_, _, rfl, by simp⟩) (by (repeat' constructor))
theorem A1S (w : World) (b : Nat) (n : Int) (cv ov : Value) (cs os : List Int) (i : Int) (hl : cs.length ≤ 1024) (hw : LW false (B1 (C0 b n cv ov cs os)) w (C0 b n cv ov cs os) w) :
  Fn PR C2 35 #[.pointer (some ⟨b, 0, none⟩), .int .i64 i] w (Rn (B1 (C0 b n cv ov cs os)) w (fun (n : Int) u => u = .int .i64 (E2 cs i)) fun n => C0 b n cv ov cs os) := by
 refine A11 (TW.goH (κ := false) (S := B1 (C0 b n cv ov cs os)) ?_ hw)
 unfold k7
 refine q7 (e := 3) (k := 1) (v := cv) (q := cs.length) (xs := E7 cs) (by simp only [C0]; (repeat constructor)) fun ca cc e => ?_
 subst e
 simp only [C0]
 (have zz:=trivial;repeat((first|clear zz|with_reducible first|refine A3 ?_|refine A5 fun _=>?_|refine A4 fun _=>?_);try simp(disch:=first|omega|assumption|((repeat(first|exact A1|exact uH|apply A2|apply uT));first|done|fail)|(simp;first|done|omega|fail))[]))
 refine B9 (Hc := [.pt b (.cells #[.int .i64 n, .slice ca cs.length cc, ov] 141)]) T1 (fun w' hw' hs => A48 w' b n (.slice ca cs.length cc) ov (.slice ca cs.length cc) cs i hl (hw'.hold (.own 3 1 (.slice ca cs.length cc) cs.length (E7 cs)) ?_) hs) (by (repeat' constructor)) ?_
 ·(repeat constructor)
 intro m u hu
 unfold A1d at hu
 by_cases c1 : 0 ≤ i ∧ i < cs.length
 ·rw [if_pos c1] at hu
  obtain ⟨g, c, e, rfl⟩ := hu
  cases e
  obtain ⟨j, rfl⟩ : ∃ j : Nat, i = j := ⟨i.toNat, by omega⟩
  have hj : j < cs.length := by omega
  have hg := A23 hj
  (have zz:=trivial;repeat((first|clear zz|with_reducible first|refine A3 ?_|refine A5 fun _=>?_|refine A4 fun _=>?_);try simp(disch:=first|omega|assumption|((repeat(first|exact A1|exact uH|apply A2|apply uT));first|done|fail)|(simp;first|done|omega|fail))[hg]))
  exact B2 m (by unfold E2; rw [if_pos c1, Int.toNat_natCast]; exact (List.getElem?_eq_some_iff.1 hg).2) (by (repeat' constructor))
 ·rw [if_neg c1] at hu
  subst hu
  (have zz:=trivial;repeat((first|clear zz|with_reducible first|refine A3 ?_|refine A5 fun _=>?_|refine A4 fun _=>?_);try simp(disch:=first|omega|assumption|((repeat(first|exact A1|exact uH|apply A2|apply uT));first|done|fail)|(simp;first|done|omega|fail))[]))
  exact B2 m (by unfold E2; rw [if_neg c1]) (by (repeat' constructor))
theorem A2V (w : World) (b : Nat) (n : Int) (cv ov : Value) (cs os : List Int) (i v : Int) (hl : cs.length ≤ 1024) (hw : LW false (B1 (C0 b n cv ov cs os)) w (C0 b n cv ov cs os) w) :
  Fn PR C2 31 #[.pointer (some ⟨b, 0, none⟩), .int .i64 i, .int .i64 v] w (Rn (B1 (C0 b n cv ov cs os)) w (fun (n : Int) u => u = .tuple #[]) fun n => C0 b n cv ov (K3 cs i v) os) := by
 refine A1M (TW.goH (κ := false) (S := B1 (C0 b n cv ov cs os)) ?_ hw)
 unfold g7
 refine q7 (e := 3) (k := 1) (v := cv) (q := cs.length) (xs := E7 cs) (by simp only [C0]; (repeat constructor)) fun ca cc e => ?_
 subst e
 simp only [C0]
 (have zz:=trivial;repeat((first|clear zz|with_reducible first|refine A3 ?_|refine A5 fun _=>?_|refine A4 fun _=>?_);try simp(disch:=first|omega|assumption|((repeat(first|exact A1|exact uH|apply A2|apply uT));first|done|fail)|(simp;first|done|omega|fail))[]))
 refine B9 (Hc := [.pt b (.cells #[.int .i64 n, .slice ca cs.length cc, ov] 141)]) T1 (fun w' hw' hs => A48 w' b n (.slice ca cs.length cc) ov (.slice ca cs.length cc) cs i hl (hw'.hold (.own 3 1 (.slice ca cs.length cc) cs.length (E7 cs)) ?_) hs) (by (repeat' constructor)) ?_
 ·(repeat constructor)
 intro m u hu
 unfold A1d at hu
 by_cases c1 : 0 ≤ i ∧ i < cs.length
 ·rw [if_pos c1] at hu
  obtain ⟨g, c, e, rfl⟩ := hu
  cases e
  obtain ⟨j, rfl⟩ : ∃ j : Nat, i = j := ⟨i.toNat, by omega⟩
  have hj : j < cs.length := by omega
  (have zz:=trivial;repeat((first|clear zz|with_reducible first|refine A3 ?_|refine A5 fun _=>?_|refine A4 fun _=>?_);try simp(disch:=first|omega|assumption|((repeat(first|exact A1|exact uH|apply A2|apply uT));first|done|fail)|(simp;first|done|omega|fail))[]))
  refine v7 (by (repeat constructor)) (by simp) (by simp; omega) (by simp) ?_
  refine B2 m rfl ?_
  have e : Z7 (E7 cs) ((j : Nat) : Int).toNat [.int .i64 v] = E7 (K3 cs j v) := by unfold K3; rw [if_pos c1, Int.toNat_natCast, A3p hj]
  have el : (K3 cs j v).length = cs.length := by unfold K3; rw [if_pos c1, List.length_set]
  rw [el, ← e]
  simp
  (repeat' constructor)
 ·rw [if_neg c1] at hu
  subst hu
  (have zz:=trivial;repeat((first|clear zz|with_reducible first|refine A3 ?_|refine A5 fun _=>?_|refine A4 fun _=>?_);try simp(disch:=first|omega|assumption|((repeat(first|exact A1|exact uH|apply A2|apply uT));first|done|fail)|(simp;first|done|omega|fail))[]))
  exact B2 m rfl (by unfold K3; rw [if_neg c1]; (repeat' constructor))
theorem A7f (w : World) (b : Nat) (n : Int) (cv ov : Value) (cs os : List Int) (i d : Int) (hl : cs.length ≤ 1024) (hi : 0 ≤ i ∧ i < cs.length) (hw : LW false (B1 (C0 b n cv ov cs os)) w (C0 b n cv ov cs os) w) :
  Fn PR C2 93 #[.pointer (some ⟨b, 0, none⟩), .int .i64 i, .int .i64 d] w (Rn (B1 (C0 b n cv ov cs os)) w (fun (n : Int) u => u = .int .i64 (IntKind.i64.wrap (E2 cs i + d))) fun n => C0 b n cv ov (K3 cs i (IntKind.i64.wrap (E2 cs i + d))) os) := by
 refine A2J (TW.goH (κ := false) (S := B1 (C0 b n cv ov cs os)) ?_ hw)
 unfold n0
 refine q7 (e := 3) (k := 1) (v := cv) (q := cs.length) (xs := E7 cs) (by simp only [C0]; (repeat constructor)) fun ca cc e => ?_
 subst e
 simp only [C0]
 (have zz:=trivial;repeat((first|clear zz|with_reducible first|refine A3 ?_|refine A5 fun _=>?_|refine A4 fun _=>?_);try simp(disch:=first|omega|assumption|((repeat(first|exact A1|exact uH|apply A2|apply uT));first|done|fail)|(simp;first|done|omega|fail))[]))
 refine B9 (Hc := [.pt b (.cells #[.int .i64 n, .slice ca cs.length cc, ov] 141)]) T1 (fun w' hw' hs => A48 w' b n (.slice ca cs.length cc) ov (.slice ca cs.length cc) cs i hl (hw'.hold (.own 3 1 (.slice ca cs.length cc) cs.length (E7 cs)) ?_) hs) (by (repeat' constructor)) ?_
 ·(repeat constructor)
 intro m u hu
 unfold A1d at hu
 rw [if_pos hi] at hu
 obtain ⟨g, c, e, rfl⟩ := hu
 cases e
 obtain ⟨j, rfl⟩ : ∃ j : Nat, i = j := ⟨i.toNat, by omega⟩
 have hj : j < cs.length := by omega
 have hg := A23 hj
 have hld : E2 cs j = cs.getD j 0 := by unfold E2; rw [if_pos hi, Int.toNat_natCast]
 rw [hld]
 obtain ⟨z, hz⟩ : ∃ z, z = cs.getD j 0 := ⟨_, rfl⟩
 rw [← hz] at hg ⊢
 have hgg := (List.getElem?_eq_some_iff.1 hg).2
 (have zz:=trivial;repeat((first|clear zz|with_reducible first|refine A3 ?_|refine A5 fun _=>?_|refine A4 fun _=>?_);try simp(disch:=first|omega|assumption|((repeat(first|exact A1|exact uH|apply A2|apply uT));first|done|fail)|(simp;first|done|omega|fail))[hg, hgg]))
 refine v7 (by (repeat constructor)) (by simp) (by simp; omega) (by simp) ?_
 have e : ∀ v : Int, Z7 (E7 cs) j (Value.int .i64 v).cells.toList = E7 (K3 cs j v) := fun v => by unfold K3; rw [if_pos hi, Int.toNat_natCast, ← A3p hj]; rfl
 have el : ∀ v : Int, (K3 cs j v).length = cs.length := fun v => by unfold K3; rw [if_pos hi, List.length_set]
 have hr : ∀ v : Int, (E7 (K3 cs j v))[j]? = some (.int .i64 v) := fun v => by
  rw [A23 (by rw [el]; exact hj)]; unfold K3; rw [if_pos hi, Int.toNat_natCast, List.getD_eq_getElem?_getD, List.getElem?_set_self hj]; rfl
 have hrr : ∀ v : Int, ∀ h, (E7 (K3 cs j v))[j]'h = .int .i64 v := fun v h => (List.getElem?_eq_some_iff.1 (hr v)).2
 simp only [Int.toNat_natCast, e]
 (have zz:=trivial;repeat((first|clear zz|with_reducible first|refine A3 ?_|refine A5 fun _=>?_|refine A4 fun _=>?_);try simp(disch:=first|omega|assumption|((repeat(first|exact A1|exact uH|apply A2|apply uT));first|done|fail)|(simp;first|done|omega|fail))[el, e, hr, hrr]))
 exact B2 m rfl (by (repeat' constructor))
def u5 (u : Value) : Prop := ∃ r : Bool, u = .bool r
theorem T6 (r : Bool) : u5 (.bool r) := ⟨r, rfl⟩
end Go.Proofs.YtjobgnabneddjaaGreat
namespace Go.Proofs.YtjobgnabneddjaaGreat
open Go
theorem A26 (n : Nat) : (Builtin.zeroCells (Value.int .i64 0).cells n).toList = E7 (List.replicate n 0) := by
 have hz : (Builtin.zeroCells (Value.int .i64 0).cells n).toList.length = n := by simp [size_zeroCells]
 apply List.ext_getElem (by rw [hz]; simp)
 intro i h1 h2
 simp [Builtin.zeroCells, E7, Nat.mod_one]
theorem B7J {l i : Nat} (h : i < l) (a b : Int) : (List.replicate i a ++ List.replicate (l - i) b).set i a = List.replicate (i + 1) a ++ List.replicate (l - (i + 1)) b := by
 rw [List.set_append_right _ _ (by simp)]
 obtain ⟨k, hk⟩ : ∃ k, l - i = k + 1 := ⟨l - i - 1, by omega⟩
 have : l - (i + 1) = k := by omega
 rw [hk, this, List.replicate_succ' (n := i)]
 simp [List.replicate_succ]
theorem A08 (w : World) (n : Nat) (h : n ≤ 1024) : Fn PR C2 128 #[.int .i64 (n : Nat)] w (fun u w' => u = .int .i64 (n : Nat) ∧ C7 [] w w') := by
 refine Fn.pure (A4C (TW.go (κ := false) (S := []) ?_))
 unfold z6
 have h1 : max ((n : Nat) : Int) 0 = n := by omega
 have h2 : min ((n : Nat) : Int) 1024 = n := by omega
 (have zz:=trivial;repeat((first|clear zz|with_reducible first|refine A3 ?_|refine A5 fun _=>?_|refine A4 fun _=>?_);try simp(disch:=first|omega|assumption|((repeat(first|exact A1|exact uH|apply A2|apply uT));first|done|fail)|(simp;first|done|omega|fail))[h1, h2]))
 exact D1 rfl
theorem A7U (w : World) (a l : Nat) (ha : a ≤ 1024) (hl : l ≤ 1024) : Fn PR C2 68 #[.int .i64 (a : Nat), .int .i64 (l : Nat)] w
  (Rn [] w (fun (x : Nat × Value × Value) u => u = .pointer (some ⟨x.1, 0, none⟩)) fun x => C0 x.1 0 x.2.1 x.2.2 (List.replicate a 0) (List.replicate l (-1))) := by
 refine A6B (TW.go (κ := false) (S := []) ?_)
 unfold A2E
 (have zz:=trivial;repeat((first|clear zz|with_reducible first|refine A3 ?_|refine A5 fun _=>?_|refine A4 fun _=>?_);try simp(disch:=first|omega|assumption|((repeat(first|exact A1|exact uH|apply A2|apply uT));first|done|fail)|(simp;first|done|omega|fail))[]))
 refine B5S (α := Nat × Nat × Nat) (fun _ => True) (fun x => C0 x.1 0 (.slice (some ⟨x.2.1, 0, none⟩) a a) (.slice (some ⟨x.2.2, 0, none⟩) l l) (List.replicate a 0) (List.replicate l 0)) (fun x => .pointer (some ⟨x.1, 0, none⟩)) ?_ ?_
 ·rintro ⟨b, bc, bo⟩ _
  simp only [C0]
  (have zz:=trivial;repeat((first|clear zz|with_reducible first|refine A3 ?_|refine A5 fun _=>?_|refine A4 fun _=>?_);try simp(disch:=first|omega|assumption|((repeat(first|exact A1|exact uH|apply A2|apply uT));first|done|fail)|(simp;first|done|omega|fail))[]))
  refine B3A l (fun i => [.pt b (.cells #[.int .i64 0, .slice (some ⟨bc, 0, none⟩) a a, .slice (some ⟨bo, 0, none⟩) l l] 141), .own 3 1 (.slice (some ⟨bc, 0, none⟩) a a) a (E7 (List.replicate a 0)), .own 3 1 (.slice (some ⟨bo, 0, none⟩) l l) l (E7 (List.replicate i (-1) ++ List.replicate (l - i) 0))]) ?_ (by simp)
  intro i hi L hL
  by_cases hlt : i < l
  ·(have zz:=trivial;repeat((first|clear zz|with_reducible first|refine A3 ?_|refine A5 fun _=>?_|refine A4 fun _=>?_);try simp(disch:=first|omega|assumption|((repeat(first|exact A1|exact uH|apply A2|apply uT));first|done|fail)|(simp;first|done|omega|fail))[hlt]))
   refine v7 (by (repeat constructor)) (by simp) (by simp; omega) (by simp) ?_
   have e : Z7 (E7 (List.replicate i (-1) ++ List.replicate (l - i) 0)) i (Value.int .i64 (-1)).cells.toList = E7 (List.replicate (i + 1) (-1) ++ List.replicate (l - (i + 1)) 0) := by
    rw [← B7J hlt, ← A3p (by simp; omega)]; rfl
   rw [e]
   (have zz:=trivial;repeat((first|clear zz|with_reducible first|refine A3 ?_|refine A5 fun _=>?_|refine A4 fun _=>?_);try simp(disch:=first|omega|assumption|((repeat(first|exact A1|exact uH|apply A2|apply uT));first|done|fail)|(simp;first|done|omega|fail))[]))
   exact hL hlt
  ·obtain rfl : i = l := by omega
   (have zz:=trivial;repeat((first|clear zz|with_reducible first|refine A3 ?_|refine A5 fun _=>?_|refine A4 fun _=>?_);try simp(disch:=first|omega|assumption|((repeat(first|exact A1|exact uH|apply A2|apply uT));first|done|fail)|(simp;first|done|omega|fail))[]))
   refine B2 (b, .slice (some ⟨bc, 0, none⟩) a a, .slice (some ⟨bo, 0, none⟩) i i) rfl ?_
   simp only [List.length_replicate]
   (repeat' constructor)
 ·intro C hC
  have hC' : ∀ b bc bo, TW false [] w (C0 b 0 (.slice (some ⟨bc, 0, none⟩) a a) (.slice (some ⟨bo, 0, none⟩) l l) (List.replicate a 0) (List.replicate l 0)) (C (.pointer (some ⟨b, 0, none⟩))) := fun b bc bo => hC (b, bc, bo) trivial
  simp only [C0, List.length_replicate] at hC'
  refine F4 Z8 (fun w' _ => A08 w' a ha) ?_
  (have zz:=trivial;repeat((first|clear zz|with_reducible first|refine A3 ?_|refine A5 fun _=>?_|refine A4 fun _=>?_);try simp(disch:=first|omega|assumption|((repeat(first|exact A1|exact uH|apply A2|apply uT));first|done|fail)|(simp;first|done|omega|fail))[]))
  refine ⟨?_, ?_, fun _ _ => trivial⟩
  ·refine A1g (by omega) (by omega) (by omega) (by omega) fun bc => ?_
   rw [Int.toNat_natCast, A26]
   refine F4 Z8 (fun w' _ => A08 w' l hl) ?_
   refine A1g (by omega) (by omega) (by omega) (by omega) fun bo => ?_
   rw [Int.toNat_natCast, A26]
   (have zz:=trivial;repeat((first|clear zz|with_reducible first|refine A3 ?_|refine A5 fun _=>?_|refine A4 fun _=>?_);try simp(disch:=first|omega|assumption|((repeat(first|exact A1|exact uH|apply A2|apply uT));first|done|fail)|(simp;first|done|omega|fail))[]))
   rename_i b
   exact Sels.tw (by (repeat' constructor)) (hC' b bc bo)
  ·refine F4 Z8 (fun w' _ => A08 w' l hl) ?_
   (have zz:=trivial;repeat((first|clear zz|with_reducible first|refine A3 ?_|refine A5 fun _=>?_|refine A4 fun _=>?_);try simp(disch:=first|omega|assumption|((repeat(first|exact A1|exact uH|apply A2|apply uT));first|done|fail)|(simp;first|done|omega|fail))[]))
   refine ⟨?_, ?_, fun _ _ => trivial⟩
   ·refine A1g (by omega) (by omega) (by omega) (by omega) fun bc => ?_
    rw [Int.toNat_natCast, A26]
    refine A1g (by omega) (by omega) (by omega) (by omega) fun bo => ?_
    rw [Int.toNat_natCast, A26]
    (have zz:=trivial;repeat((first|clear zz|with_reducible first|refine A3 ?_|refine A5 fun _=>?_|refine A4 fun _=>?_);try simp(disch:=first|omega|assumption|((repeat(first|exact A1|exact uH|apply A2|apply uT));first|done|fail)|(simp;first|done|omega|fail))[]))
    rename_i b
    exact Sels.tw (by (repeat' constructor)) (hC' b bc bo)
   ·refine A1g (by omega) (by omega) (by omega) (by omega) fun bo => ?_
    rw [Int.toNat_natCast, A26]
    refine A1g (by omega) (by omega) (by omega) (by omega) fun bc => ?_
    rw [Int.toNat_natCast, A26]
    (have zz:=trivial;repeat((first|clear zz|with_reducible first|refine A3 ?_|refine A5 fun _=>?_|refine A4 fun _=>?_);try simp(disch:=first|omega|assumption|((repeat(first|exact A1|exact uH|apply A2|apply uT));first|done|fail)|(simp;first|done|omega|fail))[]))
    rename_i b
    exact Sels.tw (by (repeat' constructor)) (hC' b bc bo)
end Go.Proofs.YtjobgnabneddjaaGreat
namespace Go.Proofs.YtjobgnabneddjaaGreat
open Go
def a8 (X : Nat → Prop) (t0 t1 : Value) (R : Value → WP) : WP :=
 jn (n := 1) (fun t4 =>
 A0 PR (B4 t0) fun t17 =>
 A0 PR (Instr.fieldAt 203 t17 0) fun t18 =>
 A0 PR (Instr.indexAt 201 t18 t1) fun t19 =>
 A0 PR (Instr.fieldAt 200 t19 0) fun t20 =>
 A6 PR (Instr.loadAt 3 t20) fun t21 =>
 R t21) fun J1 =>
 A0 PR (binOp .lss 3 t1 (.int .i64 0)) fun t6 =>
 gj t6 false (fun J => J t1) fun t8 =>
 gj t6 false (fun J => J t0) fun t9 =>
 gj t6 false (fun J => A0 PR (B4 t9) J) fun t10 =>
 gj t6 false (fun J => A0 PR (Instr.fieldAt 203 t10 1) J) fun t11 =>
 gj t6 false (fun J => A6 PR (Instr.loadAt 3 t11) J) fun t12 =>
 gj t6 false (fun J => A0 PR (binOp .geq 3 t8 t12) J) fun t13 =>
 A0 PR (do pure (if ← asBool t6 then (.bool true) else t13)) fun t14 =>
 D0 t14 (
 R (.int .i64 (-1))) (
 J1 (.int .i64 0))
theorem A0S : A8 PR 51 := A7 Tryz.func51 (by kernel_rfl) rfl
theorem A0n {X : Nat → Prop} {t0 t1 : Value} {R : Value → WP} {w : World} (h : a8 X t0 t1 R w) : Fn PR X 51 #[t0, t1] w R := D6 (args := [t0, t1]) mixed Tryz.func51 (by kernel_rfl) h
def A19 (X : Nat → Prop) (t0 : Value) (R : Value → WP) : WP :=
 A0 PR (A9 .min #[3, 3] 0 [t0, (.int .i64 8)]) fun t4 =>
 A0 PR (A9 .max #[3, 3] 0 [(.int .i64 0), t4]) fun t5 =>
 A0 PR (Instr.build 203 #[(1, t5)]) fun t6 =>
 B5 PR X (Instr.box 203 t6) fun t7 =>
 R t7
theorem A5m : A8 PR 71 := A7 Tryz.func71 (by kernel_rfl) rfl
theorem A6d {X : Nat → Prop} {t0 : Value} {R : Value → WP} {w : World} (h : A19 X t0 R w) : Fn PR X 71 #[t0] w R := D6 (args := [t0]) mixed Tryz.func71 (by kernel_rfl) h
def f9 (X : Nat → Prop) (t0 : Value) (R : Value → WP) : WP :=
 jn (n := 2) (fun t2 t13 =>
 R (.int .i64 (-1))) fun J1 =>
 drw <|
 A0 PR (B4 t0) fun t5 =>
 A0 PR (Instr.fieldAt 203 t5 0) fun t6 =>
 A0 PR (B4 t0) fun t8 =>
 A0 PR (Instr.fieldAt 203 t8 1) fun t9 =>
 A6 PR (Instr.loadAt 3 t9) fun t10 =>
 A0 PR (Instr.sliceAt 201 t6 none (some t10) none) fun t11 =>
 A0 PR (A9 .len #[443] 0 [t11]) fun t12 =>
 lp (n := 2) (fun L2 t2_1 t13_1 =>
 A0 PR (binOp .lss 3 t13_1 t12) fun t14 =>
 jn (n := 0) (
 jn (n := 1) (fun t2_2 =>
 A0 PR (binOp .add 3 t13_1 (.int .i64 1)) fun t31 =>
 L2 t2_2 t31) fun J3 =>
 A0 PR (B4 t0) fun t18 =>
 A0 PR (Instr.fieldAt 203 t18 0) fun t19 =>
 A0 PR (Instr.indexAt 201 t19 t13_1) fun t20 =>
 A6 PR (Instr.loadAt 200 t20) fun t21 =>
 A0 PR (Instr.build 200 #[]) fun t22 =>
 A6 PR (F6 .eql 200 (.tmp 21) (.tmp 22) t21 t22) fun t23 =>
 D0 t23 (
 A0 PR (B4 t0) fun t26 =>
 A0 PR (Instr.fieldAt 203 t26 0) fun t27 =>
 A0 PR (Instr.indexAt 201 t27 t13_1) fun t28 =>
 A0 PR (Instr.fieldAt 200 t28 0) fun t29 =>
 E0 PR X (Instr.storeAt 3 t29 (.int .i64 1)) <|
 R t13_1) (
 J3 t2_1)) fun J4 =>
 D0 t14 (
 J4) (
 J1 t2_1 t13_1)) (.int .i64 0) (.int .i64 0)
theorem d4 : A8 PR 314 := A7 Tryz.func314 (by kernel_rfl) rfl
theorem A1H {X : Nat → Prop} {t0 : Value} {R : Value → WP} {w : World} (h : f9 X t0 R w) : Fn PR X 314 #[t0] w R := D6 (args := [t0]) mixed Tryz.func314 (by kernel_rfl) h
def Z1 (X : Nat → Prop) (t0 t1 t2 : Value) (R : Value → WP) : WP :=
 A0 PR (Instr.build 200 #[(0, (.int .i64 2)), (1, t2)]) fun t10 =>
 B7 PR X 326 [t0, t1, (.int .i64 1), t10] fun t11 =>
 R t11
theorem y5 : A8 PR 322 := A7 Tryz.func322 (by kernel_rfl) rfl
theorem A0U {X : Nat → Prop} {t0 t1 t2 : Value} {R : Value → WP} {w : World} (h : Z1 X t0 t1 t2 R w) : Fn PR X 322 #[t0, t1, t2] w R := D6 (args := [t0, t1, t2]) mixed Tryz.func322 (by kernel_rfl) h
def j7 (X : Nat → Prop) (t0 t1 : Value) (R : Value → WP) : WP :=
 B5 PR X (Instr.box 35 t0) fun t2 =>
 B5 PR X (Instr.box 37 t1) fun t3 =>
 B5 PR X (Instr.alloc 3 true (.tuple #[])) fun t4 =>
 jn (n := 0) (
 E0 PR X (Instr.storeAt 3 t4 (.int .i64 (-1))) <|
 unw (A6 PR (G4 [.c 3 t4]) R)) fun J1 =>
 A6 PR (Instr.loadAt 35 t2) fun t8 =>
 B7 PR X 327 [t8, (.int .i64 2)] fun t9 =>
 rng (N := 1) PR X (fun t10 K2 =>
 bgn <|
 jn (n := 1) (fun t13 =>
 E0 PR (fun _ => False) (Instr.storeAt 3 t4 t10) <|
 K2 (some .ret)) fun J3 =>
 A6 PR (Instr.loadAt 37 t3) fun t11 =>
 A0 PR (A9 .len #[37] 0 [t11]) fun t12 =>
 lp (n := 1) (fun L4 t13_1 =>
 A0 PR (binOp .lss 3 t13_1 t12) fun t14 =>
 jn (n := 0) (
 jn (n := 0) (
 A0 PR (binOp .add 3 t13_1 (.int .i64 1)) fun t30 =>
 L4 t30) fun J5 =>
 A0 PR (Instr.indexAt 37 t11 t13_1) fun t15 =>
 A6 PR (Instr.loadAt 3 t15) fun t16 =>
 A0 PR (binOp .neq 3 t16 (.int .i64 0)) fun t18 =>
 gj t18 true (fun J => J t16) fun t20 =>
 gj t18 true (fun J => A6 PR (Instr.loadAt 35 t2) J) fun t21 =>
 gj t18 true (fun J => J t10) fun t22 =>
 gj t18 true (fun J => A0 PR (B4 t21) J) fun t23 =>
 gj t18 true (fun J => A0 PR (Instr.fieldAt 203 t23 0) J) fun t24 =>
 gj t18 true (fun J => A0 PR (Instr.indexAt 201 t24 t22) J) fun t25 =>
 gj t18 true (fun J => A0 PR (Instr.fieldAt 200 t25 1) J) fun t26 =>
 gj t18 true (fun J => A6 PR (Instr.loadAt 3 t26) J) fun t27 =>
 gj t18 true (fun J => A0 PR (binOp .leq 3 t20 t27) J) fun t28 =>
 A0 PR (do pure (if ← asBool t18 then t28 else (.bool false))) fun t29 =>
 D0 t29 (
 K2 none) (
 J5)) fun J6 =>
 D0 t14 (
 J6) (
 J3 t13_1)) (.int .i64 0)) t9 (fun j => match j with | none => (J1) | some (.exit i) => (match Nat.beq i 0 with | true => (J1) | false => (E9)) | some .ret => (unw (A6 PR (G4 [.c 3 t4]) R)) | some _ => E9)
theorem Q7 : A8 PR 324 := A7 Tryz.func324 (by kernel_rfl) rfl
theorem A1p {X : Nat → Prop} {t0 t1 : Value} {R : Value → WP} {w : World} (h : j7 X t0 t1 R w) : Fn PR X 324 #[t0, t1] w R := D6 (args := [t0, t1]) mixed Tryz.func324 (by kernel_rfl) h
def f7 (X : Nat → Prop) (t0 t1 : Value) (R : Value → WP) : WP :=
 A0 PR (Instr.build 200 #[(0, (.int .i64 0))]) fun t7 =>
 B7 PR X 326 [t0, t1, (.int .i64 2), t7] fun t8 =>
 R t8
theorem A07 : A8 PR 325 := A7 Tryz.func325 (by kernel_rfl) rfl
theorem A1W {X : Nat → Prop} {t0 t1 : Value} {R : Value → WP} {w : World} (h : f7 X t0 t1 R w) : Fn PR X 325 #[t0, t1] w R := D6 (args := [t0, t1]) mixed Tryz.func325 (by kernel_rfl) h
def d9 (X : Nat → Prop) (t0 t1 t2 t3 : Value) (R : Value → WP) : WP :=
 B5 PR X (Instr.box 200 t3) fun t7 =>
 jn (n := 1) (fun t8 =>
 drw <|
 A6 PR (Instr.loadAt 200 t7) fun t16 =>
 A0 PR (B4 t0) fun t17 =>
 A0 PR (Instr.fieldAt 203 t17 0) fun t18 =>
 A0 PR (Instr.indexAt 201 t18 t1) fun t19 =>
 E0 PR X (Instr.storeAt 200 t19 t16) <|
 R (.bool true)) fun J1 =>
 B7 PR X 51 [t0, t1] fun t11 =>
 A0 PR (binOp .neq 3 t11 t2) fun t13 =>
 D0 t13 (
 R (.bool false)) (
 J1 (.bool false))
theorem c8 : A8 PR 326 := A7 Tryz.func326 (by kernel_rfl) rfl
theorem A1j {X : Nat → Prop} {t0 t1 t2 t3 : Value} {R : Value → WP} {w : World} (h : d9 X t0 t1 t2 t3 R w) : Fn PR X 326 #[t0, t1, t2, t3] w R := D6 (args := [t0, t1, t2, t3]) mixed Tryz.func326 (by kernel_rfl) h
def g0 (X : Nat → Prop) (t0 t1 : Value) (R : Value → WP) : WP :=
 B5 PR X (Instr.box 35 t0) fun t2 =>
 B5 PR X (Instr.box 3 t1) fun t3 =>
 A0 PR (Instr.makeFunc (.func 328) #[] #[t2, t3]) fun t5 =>
 R t5
theorem A0b : A8 PR 327 := A7 Tryz.func327 (by kernel_rfl) rfl
theorem A1Q {X : Nat → Prop} {t0 t1 : Value} {R : Value → WP} {w : World} (h : g0 X t0 t1 R w) : Fn PR X 327 #[t0, t1] w R := D6 (args := [t0, t1]) mixed Tryz.func327 (by kernel_rfl) h
def V9 (X : Nat → Prop) (t0 t1 t2 : Value) (R : Value → WP) : WP :=
 A6 PR (Instr.loadAt 35 t1) fun t5 =>
 A0 PR (B4 t5) fun t6 =>
 A0 PR (Instr.fieldAt 203 t6 1) fun t7 =>
 A6 PR (Instr.loadAt 3 t7) fun t8 =>
 lp (n := 1) (fun L1 t9 =>
 A0 PR (binOp .lss 3 t9 t8) fun t10 =>
 jn (n := 0) (
 jn (n := 0) (
 A0 PR (binOp .add 3 t9 (.int .i64 1)) fun t27 =>
 L1 t27) fun J2 =>
 drw <|
 A6 PR (Instr.loadAt 35 t1) fun t12 =>
 A0 PR (B4 t12) fun t14 =>
 A0 PR (Instr.fieldAt 203 t14 0) fun t15 =>
 A0 PR (Instr.indexAt 201 t15 t9) fun t16 =>
 A0 PR (Instr.fieldAt 200 t16 0) fun t17 =>
 A6 PR (Instr.loadAt 3 t17) fun t18 =>
 A6 PR (Instr.loadAt 3 t2) fun t19 =>
 A0 PR (binOp .eql 3 t18 t19) fun t20 =>
 gj t20 true (fun J => J t0) fun t22 =>
 gj t20 true (fun J => J t9) fun t23 =>
 gj t20 true (fun J => c7 PR X t22 [t23] J) fun t24 =>
 gj t20 true (fun J => A0 PR (Op.unary .not t24) J) fun t25 =>
 A0 PR (do pure (if ← asBool t20 then t25 else (.bool false))) fun t26 =>
 D0 t26 (
 R (.tuple #[])) (
 J2)) fun J3 =>
 D0 t10 (
 J3) (
 R (.tuple #[]))) (.int .i64 0)
theorem w7 : A8 PR 328 := A7 Tryz.func328 (by kernel_rfl) rfl
theorem y0 {X : Nat → Prop} {t0 t1 t2 : Value} {R : Value → WP} {w : World} (h : V9 X t0 t1 t2 R w) : Fn PR X 328 #[t0, t1, t2] w R := D6 (args := [t0, t1, t2]) mixed Tryz.func328 (by kernel_rfl) h
theorem x7 {X : Nat → Prop} {t0 t1 t2 : Value} {K : Value → WP} {w : World} (h : Fn PR X 328 #[t0, t1, t2] w K) : u4 PR X 328 [t0, t1, t2] K w := ⟨w7, h⟩
end Go.Proofs.YtjobgnabneddjaaGreat
namespace Go.Proofs.YtjobgnabneddjaaGreat
open Go
def y7 (s : Int × Int) : List Value := [.int .i64 s.1, .int .i64 s.2]
theorem y6 (s : Int × Int) : (y7 s).length = 2 := rfl
def p6 (l : List (Int × Int)) : List (Int × Int) := l ++ List.replicate (8 - l.length) (0, 0)
def P2 (l : List (Int × Int)) : Array Value := ((p6 l).flatMap y7 ++ [Value.int .i64 (l.length : Nat)]).toArray
theorem A59 {l : List (Int × Int)} (h : l.length ≤ 8) : (p6 l).length = 8 := by unfold p6; simp; omega
theorem A3W {l : List (Int × Int)} (h : l.length ≤ 8) : ((p6 l).flatMap y7).length = 16 := by rw [H8 y6, A59 h]
theorem A1B {l : List (Int × Int)} (h : l.length ≤ 8) : (P2 l).size = 17 := by unfold P2; simp only [List.size_toArray, List.length_append, A3W h]; rfl
theorem A7Y {l : List (Int × Int)} (h : l.length ≤ 8) : (P2 l)[16]? = some (.int .i64 (l.length : Nat)) := by
 unfold P2
 have := A3W h
 rw [List.getElem?_toArray, List.getElem?_append_right (by omega), this]; rfl
theorem B2x {l : List (Int × Int)} {i : Nat} (hi : i < l.length) : (p6 l)[i]? = some (l.getD i (0, 0)) := by
 unfold p6
 rw [List.getElem?_append_left hi, List.getD_eq_getElem?_getD, List.getElem?_eq_getElem hi]; rfl
theorem A1L {l : List (Int × Int)} (h : l.length ≤ 8) {i : Nat} (hi : i < l.length) : (P2 l)[i * 2]? = some (.int .i64 (l.getD i (0, 0)).1) ∧ (P2 l)[i * 2 + 1]? = some (.int .i64 (l.getD i (0, 0)).2) := by
 have hl := A3W h
 have h0 := l5 y6 (p6 l) i 0 (by omega)
 have h1 := l5 y6 (p6 l) i 1 (by omega)
 rw [B2x hi] at h0 h1
 unfold P2
 constructor
 ·rw [List.getElem?_toArray, List.getElem?_append_left (by omega)]; simpa [y7] using h0
 ·rw [List.getElem?_toArray, List.getElem?_append_left (by omega)]; simpa [y7] using h1
theorem A5P {l : List (Int × Int)} (h : l.length ≤ 8) {i : Nat} (hi : i < l.length) (s : Int × Int) : E1 (P2 l) (i * 2) (y7 s) = P2 (l.set i s) := by
 unfold P2
 have := B1Y y6 (p6 l) i s (by rw [A59 h]; omega) [.int .i64 (l.length : Nat)]
 rw [this]
 have e : (p6 l).set i s = p6 (l.set i s) := by unfold p6; rw [List.set_append_left _ _ hi, List.length_set]
 rw [e, List.length_set]
def K1 (b : Nat) (l : List (Int × Int)) : Res := .pt b (.cells (P2 l) 203)
def W8 (w : World) (b : Nat) (l : List (Int × Int)) : Prop := bl w b = some (.cells (P2 l) 203 (0, 0))
theorem W8.n {w : World} {b : Nat} {l : List (Int × Int)} (h : W8 w b l) (hl : l.length ≤ 8) : w.cell? ⟨b, 16, none⟩ = some (.int .i64 (l.length : Nat)) := by rw [C4 h]; exact A7Y hl
theorem W8.at {w : World} {b : Nat} {l : List (Int × Int)} (h : W8 w b l) (hl : l.length ≤ 8) {i : Nat} (hi : i < l.length) : w.cell? ⟨b, i * 2, none⟩ = some (.int .i64 (l.getD i (0, 0)).1) ∧ w.cell? ⟨b, i * 2 + 1, none⟩ = some (.int .i64 (l.getD i (0, 0)).2) := by
 rw [C4 h, C4 h]; exact A1L hl hi
theorem W8.ks {κ : Bool} {w w' : World} {b : Nat} {l : List (Int × Int)} {S : List Nat} (h : W8 w b l) (hk : KS κ S w w') (hS : b ∉ S) : W8 w' b l := hk.2.1 _ _ hS rfl h
theorem A8v (w : World) (b : Nat) (l : List (Int × Int)) (i : Int) (hl : l.length ≤ 8) (hb : W8 w b l) :
  Fn PR C2 51 #[.pointer (some ⟨b, 0, none⟩), .int .i64 i] w (fun u w' => u = .int .i64 (stK l i) ∧ C7 [] w w') := by
 refine Fn.pure (A0n (TW.go (κ := false) (S := []) ?_))
 unfold a8
 have hn := hb.n hl
 by_cases c1 : i < 0
 ·(have zz:=trivial;repeat((first|clear zz|with_reducible first|refine A3 ?_|refine A5 fun _=>?_|refine A4 fun _=>?_);try simp(disch:=first|omega|assumption|((repeat(first|exact A1|exact uH|apply A2|apply uT));first|done|fail)|(simp;first|done|omega|fail))[c1]))
  exact D1 (by unfold stK; rw [if_neg (by omega)])
 by_cases c2 : (l.length : Int) ≤ i
 ·(have zz:=trivial;repeat((first|clear zz|with_reducible first|refine A3 ?_|refine A5 fun _=>?_|refine A4 fun _=>?_);try simp(disch:=first|omega|assumption|((repeat(first|exact A1|exact uH|apply A2|apply uT));first|done|fail)|(simp;first|done|omega|fail))[c1, c2, hn]))
  exact D1 (by unfold stK; rw [if_neg (by omega)])
 obtain ⟨j, rfl⟩ : ∃ j : Nat, i = j := ⟨i.toNat, by omega⟩
 have hj : j < l.length := by omega
 have hj2 : ¬ l.length ≤ j := by omega
 have hx := (hb.at hl hj).1
 obtain ⟨z, hz⟩ : ∃ z, z = (l.getD j (0, 0)).1 := ⟨_, rfl⟩
 rw [← hz] at hx
 have hj8 : j < 8 := by omega
 (have zz:=trivial;repeat((first|clear zz|with_reducible first|refine A3 ?_|refine A5 fun _=>?_|refine A4 fun _=>?_);try simp(disch:=first|omega|assumption|((repeat(first|exact A1|exact uH|apply A2|apply uT));first|done|fail)|(simp;first|done|omega|fail))[c1, c2, hj, hj2, hn, hx, hj8]))
 exact D1 (by unfold stK; rw [if_pos (by omega), Int.toNat_natCast, hz])
theorem W8.own {κ : Bool} {S : List Nat} {w0 w : World} {H : List Res} {b : Nat} {l : List (Int × Int)} (hw : LW κ S w0 H w) (hm : K1 b l ∈ H) : W8 w b l := hw.pt hm
theorem A6r (w : World) (b : Nat) (l : List (Int × Int)) (i a : Int) (s : Int × Int) (hl : l.length ≤ 8) (ha : 0 ≤ a) (hw : LW false [b] w [K1 b l] w) :
  Fn PR C2 326 #[.pointer (some ⟨b, 0, none⟩), .int .i64 i, .int .i64 a, .agg #[.int .i64 s.1, .int .i64 s.2]] w (Rn [b] w (fun (_ : Unit) u => u = .bool (decide (stK l i = a))) fun _ => [K1 b (z8 l i a s)]) := by
 refine A1j (TW.goH (κ := false) (S := [b]) ?_ hw)
 unfold d9
 (have zz:=trivial;repeat((first|clear zz|with_reducible first|refine A3 ?_|refine A5 fun _=>?_|refine A4 fun _=>?_);try simp(disch:=first|omega|assumption|((repeat(first|exact A1|exact uH|apply A2|apply uT));first|done|fail)|(simp;first|done|omega|fail))[]))
 rename_i b1
 refine F4 A0S (fun w' hw' => A8v w' b l i hl (W8.own hw' (by (repeat constructor)))) ?_
 unfold z8
 by_cases c1 : stK l i = a
 ·have h2 : 0 ≤ i ∧ i < l.length := by
   unfold stK at c1
   by_cases h : 0 ≤ i ∧ i < l.length
   ·exact h
   ·rw [if_neg h] at c1; omega
  obtain ⟨j, rfl⟩ : ∃ j : Nat, i = j := ⟨i.toNat, by omega⟩
  have hj : j < l.length := by omega
  have hj8 : j < 8 := by omega
  have hsz := A1B hl
  rw [if_pos ⟨c1, by omega⟩, decide_eq_true c1, Int.toNat_natCast]
  have hset := A5P hl hj s
  unfold y7 at hset
  simp only [K1]
  (have zz:=trivial;repeat((first|clear zz|with_reducible first|refine A3 ?_|refine A5 fun _=>?_|refine A4 fun _=>?_);try simp(disch:=first|omega|assumption|((repeat(first|exact A1|exact uH|apply A2|apply uT));first|done|fail)|(simp;first|done|omega|fail))[c1, hj8]))
  simp only [A09, A4y] at hset
  rw [hset]
  exact B2 () rfl (by (repeat' constructor))
 ·rw [if_neg (fun h => c1 h.1), decide_eq_false c1]
  (have zz:=trivial;repeat((first|clear zz|with_reducible first|refine A3 ?_|refine A5 fun _=>?_|refine A4 fun _=>?_);try simp(disch:=first|omega|assumption|((repeat(first|exact A1|exact uH|apply A2|apply uT));first|done|fail)|(simp;first|done|omega|fail))[c1]))
  exact B2 () rfl (by (repeat' constructor))
theorem A8A (w : World) (b : Nat) (l : List (Int × Int)) (i e : Int) (hl : l.length ≤ 8) (hw : LW false [b] w [K1 b l] w) :
  Fn PR C2 322 #[.pointer (some ⟨b, 0, none⟩), .int .i64 i, .int .i64 e] w (Rn [b] w (fun (_ : Unit) u => u5 u) fun _ => [K1 b (A2B l i e)]) := by
 refine A0U (TW.goH (κ := false) (S := [b]) ?_ hw)
 unfold Z1
 (have zz:=trivial;repeat((first|clear zz|with_reducible first|refine A3 ?_|refine A5 fun _=>?_|refine A4 fun _=>?_);try simp(disch:=first|omega|assumption|((repeat(first|exact A1|exact uH|apply A2|apply uT));first|done|fail)|(simp;first|done|omega|fail))[]))
 refine B9 (Hc := [K1 b l]) c8 (fun w' _ hs => A6r w' b l i 1 (2, e) hl (by omega) hs) (by (repeat' constructor)) ?_
 rintro _ v rfl
 exact B2 () (T6 _) (by (repeat' constructor))
theorem B0w (w : World) (b : Nat) (l : List (Int × Int)) (i : Int) (hl : l.length ≤ 8) (hw : LW false [b] w [K1 b l] w) :
  Fn PR C2 325 #[.pointer (some ⟨b, 0, none⟩), .int .i64 i] w (Rn [b] w (fun (_ : Unit) u => u5 u) fun _ => [K1 b (A1T l i)]) := by
 refine A1W (TW.goH (κ := false) (S := [b]) ?_ hw)
 unfold f7
 (have zz:=trivial;repeat((first|clear zz|with_reducible first|refine A3 ?_|refine A5 fun _=>?_|refine A4 fun _=>?_);try simp(disch:=first|omega|assumption|((repeat(first|exact A1|exact uH|apply A2|apply uT));first|done|fail)|(simp;first|done|omega|fail))[]))
 refine B9 (Hc := [K1 b l]) c8 (fun w' _ hs => A6r w' b l i 2 (0, 0) hl (by omega) hs) (by (repeat' constructor)) ?_
 rintro _ v rfl
 exact B2 () (T6 _) (by (repeat' constructor))
theorem B2d (w : World) (n : Nat) (hn : n ≤ 8) : Fn PR C2 71 #[.int .i64 (n : Nat)] w (Rn [] w (fun b u => u = .pointer (some ⟨b, 0, none⟩)) fun b => [K1 b (List.replicate n (0, 0))]) := by
 refine A6d (TW.go (κ := false) (S := []) ?_)
 unfold A19
 have h1 : min ((n : Nat) : Int) 8 = n := by omega
 have h2 : max 0 ((n : Nat) : Int) = n := by omega
 (have zz:=trivial;repeat((first|clear zz|with_reducible first|refine A3 ?_|refine A5 fun _=>?_|refine A4 fun _=>?_);try simp(disch:=first|omega|assumption|((repeat(first|exact A1|exact uH|apply A2|apply uT));first|done|fail)|(simp;first|done|omega|fail))[h1, h2]))
 rename_i b
 have e : P2 (List.replicate n (0, 0)) = #[.int .i64 0, .int .i64 0, .int .i64 0, .int .i64 0, .int .i64 0, .int .i64 0, .int .i64 0, .int .i64 0, .int .i64 0, .int .i64 0, .int .i64 0, .int .i64 0, .int .i64 0, .int .i64 0, .int .i64 0, .int .i64 0, .int .i64 (n : Nat)] := by
  have h : n = 0 ∨ n = 1 ∨ n = 2 ∨ n = 3 ∨ n = 4 ∨ n = 5 ∨ n = 6 ∨ n = 7 ∨ n = 8 := by omega
  rcases h with rfl | rfl | rfl | rfl | rfl | rfl | rfl | rfl | rfl <;> rfl
 refine B2 b rfl ?_
 unfold K1
 rw [e]
 (repeat' constructor)
theorem A8W {l : List (Int × Int)} (h : l.length ≤ 8) {i : Nat} (hi : i < l.length) (a : Int) : (P2 l).setIfInBounds (i * 2) (.int .i64 a) = P2 (l.set i (a, (l.getD i (0, 0)).2)) := by
 rw [← A5P h hi]
 unfold y7
 simp only [A09, A4y]
 apply Array.ext_getElem?
 intro r
 by_cases hr : i * 2 + 1 = r
 ·subst hr
  rw [Array.getElem?_setIfInBounds_ne (by omega), (A1L h hi).2, Array.getElem?_setIfInBounds_self_of_lt (by simp [A1B h]; omega)]
 ·rw [Array.getElem?_setIfInBounds_ne hr]
theorem B4w {xs : List Value} {o : Nat} {a b : Value} (h0 : xs[o]? = some a) (h1 : xs[o + 1]? = some b) : Q1 xs o 2 = some [a, b] := by
 obtain ⟨l0, e0⟩ := List.getElem?_eq_some_iff.1 h0
 obtain ⟨l1, e1⟩ := List.getElem?_eq_some_iff.1 h1
 rw [Q1, if_pos (by omega), List.drop_eq_getElem_cons l0, List.drop_eq_getElem_cons l1, e0, e1]; rfl
theorem B0A {l : List (Int × Int)} (h : l.length ≤ 8) {i : Nat} (hi : i < l.length) : Q1 (P2 l).toList (i * 2) 2 = some [.int .i64 (l.getD i (0, 0)).1, .int .i64 (l.getD i (0, 0)).2] := by
 obtain ⟨h0, h1⟩ := A1L h hi
 exact B4w (by simpa using h0) (by simpa using h1)
theorem A6u {l : List (Int × Int)} {i : Nat} (hi : i < l.length) (h0 : l.getD i (0, 0) = (0, 0)) (hp : ∀ k, k < i → l.getD k (0, 0) ≠ (0, 0)) : D3 l = (i : Nat) ∧ F5 l = l.set i (1, 0) := by
 have hf : l.findIdx (fun x => decide (x = (0, 0))) = i := by
  rw [List.findIdx_eq hi]
  constructor
  ·rw [List.getD_eq_getElem?_getD, List.getElem?_eq_getElem hi] at h0; simpa using h0
  ·intro j hj
   have := hp j hj
   rw [List.getD_eq_getElem?_getD, List.getElem?_eq_getElem (by omega)] at this
   simpa using this
 have ht : D3 l = (i : Nat) := by unfold D3; rw [hf, if_pos hi]
 refine ⟨ht, ?_⟩
 unfold F5
 rw [ht, if_neg (by omega), Int.toNat_natCast, h0]
theorem A6e {l : List (Int × Int)} (hp : ∀ k, k < l.length → l.getD k (0, 0) ≠ (0, 0)) : D3 l = -1 ∧ F5 l = l := by
 have hf : ¬ l.findIdx (fun x => decide (x = (0, 0))) < l.length := by
  rw [List.findIdx_lt_length]
  rintro ⟨x, hx, hx0⟩
  obtain ⟨k, hk, rfl⟩ := List.mem_iff_getElem.1 hx
  have := hp k hk
  rw [List.getD_eq_getElem?_getD, List.getElem?_eq_getElem hk] at this
  simp at hx0
  exact this hx0
 have ht : D3 l = -1 := by unfold D3; rw [if_neg hf]
 refine ⟨ht, ?_⟩
 unfold F5
 rw [ht, if_pos (by omega)]
theorem A6y (w : World) (b : Nat) (l : List (Int × Int)) (hl : l.length ≤ 8) (hw : LW false [b] w [K1 b l] w) :
  Fn PR C2 314 #[.pointer (some ⟨b, 0, none⟩)] w (Rn [b] w (fun (_ : Unit) u => u = .int .i64 (D3 l)) fun _ => [K1 b (F5 l)]) := by
 refine A1H (TW.goH (κ := false) (S := [b]) ?_ hw)
 unfold f9
 have hkn := A7Y hl
 have hle : ((l.length : Nat) : Int) ≤ 8 := by omega
 simp only [K1]
 (have zz:=trivial;repeat((first|clear zz|with_reducible first|refine A3 ?_|refine A5 fun _=>?_|refine A4 fun _=>?_);try simp(disch:=first|omega|assumption|((repeat(first|exact A1|exact uH|apply A2|apply uT));first|done|fail)|(simp;first|done|omega|fail))[hkn, hle]))
 refine A2M (α := Unit) l.length (fun _ _ => .int .i64 0) (fun _ _ => [.pt b (.cells (P2 l) 203)]) (fun i _ => ∀ k, k < i → l.getD k (0, 0) ≠ (0, 0)) () (by simp) ?_
 intro j _ hj hpre L hL
 by_cases hlt : j < l.length
 ·obtain ⟨h0, h1⟩ := A1L hl hlt
  have hj8 : j < 8 := by omega
  obtain ⟨x, hx⟩ : ∃ x, x = l.getD j (0, 0) := ⟨_, rfl⟩
  have hset := A8W hl hlt 1
  have hrow := B0A hl hlt
  rw [← hx] at h0 h1 hset hrow
  by_cases c1 : x = (0, 0)
  ·obtain ⟨e1, e2⟩ := A6u hlt (hx.symm.trans c1) hpre
   rw [e1, e2]
   subst c1
   have hsz := A1B hl
   (have zz:=trivial;repeat((first|clear zz|with_reducible first|refine A3 ?_|refine A5 fun _=>?_|refine A4 fun _=>?_);try simp(disch:=first|omega|assumption|((repeat(first|exact A1|exact uH|apply A2|apply uT));first|done|fail)|(simp;first|done|omega|fail))[hlt, hj8, hrow]))
   rw [hset]
   exact B2 () rfl (by (repeat' constructor))
  ·have c2 : ¬ (x.1 = 0 ∧ x.2 = 0) := fun h => c1 (Prod.ext h.1 h.2)
   have c3 : x.1 = 0 → ¬ x.2 = 0 := fun h h' => c2 ⟨h, h'⟩
   have hn : ∀ k, k < j + 1 → l.getD k (0, 0) ≠ (0, 0) := fun k hk => by
    by_cases e : k = j
    ·subst e; rw [← hx]; exact c1
    ·exact hpre k (by omega)
   by_cases c4 : x.1 = 0
   ·have c5 := c3 c4
    (have zz:=trivial;repeat((first|clear zz|with_reducible first|refine A3 ?_|refine A5 fun _=>?_|refine A4 fun _=>?_);try simp(disch:=first|omega|assumption|((repeat(first|exact A1|exact uH|apply A2|apply uT));first|done|fail)|(simp;first|done|omega|fail))[hlt, hj8, hrow, c4, c5]))
    exact hL hlt () hn
   ·(have zz:=trivial;repeat((first|clear zz|with_reducible first|refine A3 ?_|refine A5 fun _=>?_|refine A4 fun _=>?_);try simp(disch:=first|omega|assumption|((repeat(first|exact A1|exact uH|apply A2|apply uT));first|done|fail)|(simp;first|done|omega|fail))[hlt, hj8, hrow, c4]))
    exact hL hlt () hn
 ·obtain rfl : j = l.length := by omega
  obtain ⟨e1, e2⟩ := A6e hpre
  rw [e1, e2]
  (have zz:=trivial;repeat((first|clear zz|with_reducible first|refine A3 ?_|refine A5 fun _=>?_|refine A4 fun _=>?_);try simp(disch:=first|omega|assumption|((repeat(first|exact A1|exact uH|apply A2|apply uT));first|done|fail)|(simp;first|done|omega|fail))[]))
  exact B2 () rfl (by (repeat' constructor))
end Go.Proofs.YtjobgnabneddjaaGreat
namespace Go.Proofs.YtjobgnabneddjaaGreat
open Go
def S3 (p : Nat → Bool) (n : Nat) : List Nat := (List.range n).filter p
theorem A2j (p : Nat → Bool) (n : Nat) : S3 p (n + 1) = if p n = true then S3 p n ++ [n] else S3 p n := by
 unfold S3
 rw [List.range_succ, List.filter_append]
 by_cases h : p n = true <;> simp [h]
theorem B0W (p : Nat → Bool) {m n : Nat} (h : m ≤ n) : ∃ t, S3 p n = S3 p m ++ t := by
 induction n with
 | zero =>
  obtain rfl : m = 0 := by omega
  exact ⟨[], by simp⟩
 | succ n ih =>
  by_cases e : m = n + 1
  ·subst e; exact ⟨[], by simp⟩
  ·obtain ⟨t, ht⟩ := ih (by omega)
   rw [A2j, ht]
   split
   ·exact ⟨t ++ [n], by simp⟩
   ·exact ⟨t, rfl⟩
theorem B2l {p : Nat → Bool} {i n : Nat} (hi : i < n) (hp : p i = true) : (S3 p n)[(S3 p i).length]? = some i := by
 obtain ⟨t, ht⟩ := B0W p (show i + 1 ≤ n by omega)
 rw [ht, A2j, if_pos hp, List.append_assoc, List.getElem?_append_right (Nat.le_refl _), Nat.sub_self]
 rfl
def K8 (l : List (Int × Int)) (st : Int) (i : Nat) : Bool := decide ((l.getD i (0, 0)).1 = st)
abbrev A9u (b2 b3 : Nat) : Value := .func (.func 328) #[] #[.pointer (some ⟨b2, 0, none⟩), .pointer (some ⟨b3, 0, none⟩)]
theorem B04 (w : World) (b : Nat) (st : Int) : Fn PR C2 327 #[.pointer (some ⟨b, 0, none⟩), .int .i64 st] w (Rn [] w (fun (x : Nat × Nat) u => u = A9u x.1 x.2) fun x => [.pt x.2 (.cells #[.int .i64 st] 3), .pt x.1 (.cells #[.pointer (some ⟨b, 0, none⟩)] 35)]) := by
 refine A1Q (TW.go (κ := false) (S := []) ?_)
 unfold g0
 (have zz:=trivial;repeat((first|clear zz|with_reducible first|refine A3 ?_|refine A5 fun _=>?_|refine A4 fun _=>?_);try simp(disch:=first|omega|assumption|((repeat(first|exact A1|exact uH|apply A2|apply uT));first|done|fail)|(simp;first|done|omega|fail))[]))
 rename_i b2 b3
 exact B2 (b2, b3) rfl (by (repeat' constructor))
def A53 (i : Nat) : List Value := [.int .i64 (i : Nat)]
theorem B0p (l : List Nat) : ∀ x ∈ l.map A53, x.length = 1 := by
 intro x hx
 obtain ⟨p, _, rfl⟩ := List.mem_map.1 hx
 rfl
theorem B0z (b b2 b3 : Nat) (l : List (Int × Int)) (st : Int) (hl : l.length ≤ 8) : A3z (A9u b2 b3) [.pt b3 (.cells #[.int .i64 st] 3), .pt b2 (.cells #[.pointer (some ⟨b, 0, none⟩)] 35)] (fun F w => W8 w b l ∧ b ∉ B1 F) ((S3 (K8 l st) l.length).map A53) := by
 refine ⟨_, _, _, rfl, fun y J E hJ hE stJ stE hy w0 h0 => ?_⟩
 have hR := (hJ _ _ _ h0).2
 have hn := hR.1.n hl
 have hnb := hR.2
 have n2 : b ≠ b2 := fun e => hnb (by subst e; simp [B1, Res.foot])
 have n3 : b ≠ b3 := fun e => hnb (by subst e; simp [B1, Res.foot])
 refine x7 (y0 (TW.at (κ := true) ?_ (hJ _ _ _ h0).1))
 unfold V9
 (have zz:=trivial;repeat((first|clear zz|with_reducible first|refine A3 ?_|refine A5 fun _=>?_|refine A4 fun _=>?_);try simp(disch:=first|omega|assumption|((repeat(first|exact A1|exact uH|apply A2|apply uT));first|done|fail)|(simp;first|done|omega|fail))[hn, n2, n3]))
 refine A2n l.length (fun i => (S3 (K8 l st) i).length) (fun _ => _) hJ stJ (by simpa [S3] using h0) fun i a hi hJi hRi L hL => ?_
 by_cases hlt : i < l.length
 ·have hx := (hRi.1.at hl hlt).1
  have hi8 : i < 8 := by omega
  have hsu := A2j (K8 l st) i
  have hlen : ((S3 (K8 l st) l.length).map A53).length = (S3 (K8 l st) l.length).length := by simp
  obtain ⟨z, hz⟩ : ∃ z, z = (l.getD i (0, 0)).1 := ⟨_, rfl⟩
  rw [← hz] at hx
  by_cases c1 : z = st
  ·have hp : K8 l st i = true := by unfold K8; rw [← hz]; exact decide_eq_true c1
   have hat := B2l hlt hp
   rw [if_pos hp] at hsu
   obtain ⟨h1, h2⟩ := List.getElem?_eq_some_iff.1 hat
   rw [hsu, List.length_append, List.length_singleton] at hL
   (have zz:=trivial;repeat((first|clear zz|with_reducible first|refine A3 ?_|refine A5 fun _=>?_|refine A4 fun _=>?_);try simp(disch:=first|omega|assumption|((repeat(first|exact A1|exact uH|apply A2|apply uT));first|done|fail)|(simp;first|done|omega|fail))[hlt, hi8, hx, c1, n2, n3]))
   refine A5x hJ hE stJ hy hJi (by rw [hlen]; exact h1) (by rw [List.getElem_map]; exact congrArg A53 h2) (fun w3 h => ?_) (fun w3 h => ?_)
   ·(have zz:=trivial;repeat((first|clear zz|with_reducible first|refine A3 ?_|refine A5 fun _=>?_|refine A4 fun _=>?_);try simp(disch:=first|omega|assumption|((repeat(first|exact A1|exact uH|apply A2|apply uT));first|done|fail)|(simp;first|done|omega|fail))[c1]))
    exact fun w' hw' => hL hlt w' (stJ _ _ _ _ _ h hw')
   ·(have zz:=trivial;repeat((first|clear zz|with_reducible first|refine A3 ?_|refine A5 fun _=>?_|refine A4 fun _=>?_);try simp(disch:=first|omega|assumption|((repeat(first|exact A1|exact uH|apply A2|apply uT));first|done|fail)|(simp;first|done|omega|fail))[c1]))
    exact A4V stE h
  ·have hp : ¬ K8 l st i = true := by unfold K8; rw [← hz]; simpa using c1
   rw [if_neg hp] at hsu
   rw [hsu] at hL
   (have zz:=trivial;repeat((first|clear zz|with_reducible first|refine A3 ?_|refine A5 fun _=>?_|refine A4 fun _=>?_);try simp(disch:=first|omega|assumption|((repeat(first|exact A1|exact uH|apply A2|apply uT));first|done|fail)|(simp;first|done|omega|fail))[hlt, hi8, hx, c1, n2, n3]))
   exact fun w' hw' => hL hlt w' (stJ _ _ _ _ _ hJi hw')
 ·obtain rfl : i = l.length := by omega
  (have zz:=trivial;repeat((first|clear zz|with_reducible first|refine A3 ?_|refine A5 fun _=>?_|refine A4 fun _=>?_);try simp(disch:=first|omega|assumption|((repeat(first|exact A1|exact uH|apply A2|apply uT));first|done|fail)|(simp;first|done|omega|fail))[]))
  refine A4F stJ ?_
  simpa using hJi
theorem B0f {P : List Int} {l : List (Int × Int)} {i : Nat} (hi : i < l.length) (h0 : D4 P (l.getD i (0, 0)) = true) (hp : ∀ k, k < i → D4 P (l.getD k (0, 0)) = false) : H2 l P = (i : Nat) := by
 have hf : l.findIdx (D4 P) = i := by
  rw [List.findIdx_eq hi]
  constructor
  ·rw [List.getD_eq_getElem?_getD, List.getElem?_eq_getElem hi] at h0; exact h0
  ·intro j hj
   have := hp j hj
   rw [List.getD_eq_getElem?_getD, List.getElem?_eq_getElem (by omega)] at this
   exact this
 unfold H2; rw [hf, if_pos hi]
theorem B06 {P : List Int} {l : List (Int × Int)} (hp : ∀ k, k < l.length → D4 P (l.getD k (0, 0)) = false) : H2 l P = -1 := by
 have hf : ¬ l.findIdx (D4 P) < l.length := by
  rw [List.findIdx_lt_length]
  rintro ⟨x, hx, hx0⟩
  obtain ⟨k, hk, rfl⟩ := List.mem_iff_getElem.1 hx
  have := hp k hk
  rw [List.getD_eq_getElem?_getD, List.getElem?_eq_getElem hk] at this
  rw [show (some l[k]).getD (0, 0) = l[k] from rfl, hx0] at this
  cases this
 unfold H2; rw [if_neg hf]
def r6 (l : List (Int × Int)) (P : List Int) : List Nat → Int
 | [] => -1
 | k :: t => if V1 P (l.getD k (0, 0)).2 = true then (k : Nat) else r6 l P t
theorem A3x {P : List Int} {l : List (Int × Int)} : ∀ (n s : Nat), s + n = l.length → (∀ k, k < s → D4 P (l.getD k (0, 0)) = false) → r6 l P ((List.range' s n).filter (K8 l 2)) = H2 l P
 | 0, s, hs, hp => by
  simp only [List.range'_zero, List.filter_nil, r6]
  rw [B06 (by intro k hk; exact hp k (by omega))]
 | n + 1, s, hs, hp => by
  rw [List.range'_succ, List.filter_cons]
  have step : D4 P (l.getD s (0, 0)) = false → r6 l P ((List.range' (s + 1) n).filter (K8 l 2)) = H2 l P := fun h => A3x n (s + 1) (by omega) fun k hk => by
   by_cases e : k = s
   ·rw [e]; exact h
   ·exact hp k (by omega)
  by_cases h1 : K8 l 2 s = true
  ·rw [if_pos h1, r6]
   have h2 : (l.getD s (0, 0)).1 = 2 := by unfold K8 at h1; simpa using h1
   by_cases h3 : V1 P (l.getD s (0, 0)).2 = true
   ·rw [if_pos h3, B0f (i := s) (by omega) (by unfold D4; rw [h2, h3]; rfl) hp]
   ·rw [if_neg h3]
    exact step (by unfold D4; rw [Bool.eq_false_iff.2 h3]; simp)
  ·rw [if_neg h1]
   exact step (by
    unfold D4
    have : ¬ (l.getD s (0, 0)).1 = 2 := by unfold K8 at h1; simpa using h1
    rw [decide_eq_false this]; rfl)
theorem A8w (P : List Int) (l : List (Int × Int)) : r6 l P (S3 (K8 l 2) l.length) = H2 l P := by
 unfold S3
 rw [List.range_eq_range']
 exact A3x l.length 0 (by omega) (by intros; omega)
theorem A9T {P : List Int} {e : Int} (h : ∀ k, k < P.length → P.getD k 0 = 0 ∨ e < P.getD k 0) : V1 P e = true := by
 unfold V1
 rw [List.all_eq_true]
 intro x hx
 obtain ⟨k, hk, rfl⟩ := List.mem_iff_getElem.1 hx
 have := h k hk
 rw [List.getD_eq_getElem?_getD, List.getElem?_eq_getElem hk] at this
 simpa using this
theorem B0e {P : List Int} {e : Int} {k : Nat} (hk : k < P.length) (h0 : P.getD k 0 ≠ 0) (h1 : P.getD k 0 ≤ e) : V1 P e = false := by
 rw [Bool.eq_false_iff]
 intro h
 unfold V1 at h
 rw [List.all_eq_true] at h
 have := h _ (List.getElem_mem hk)
 rw [List.getD_eq_getElem?_getD, List.getElem?_eq_getElem hk] at h0 h1
 simp at this h0 h1
 omega
theorem B0b (w : World) (b : Nat) (l : List (Int × Int)) (pv : Value) (P : List Int) (hl : l.length ≤ 8) (hb : W8 w b l) (hv : G1 w pv P.length (E7 P)) (hP : P.length ≤ 1000) :
  Fn PR C2 324 #[.pointer (some ⟨b, 0, none⟩), pv] w (fun u w' => u = .int .i64 (H2 l P) ∧ C7 [] w w') := by
 refine Fn.pure (A1p (TW.go (κ := false) (S := []) ?_))
 unfold j7
 obtain ⟨pa, pc, rfl, hr⟩ := hv.form
 (have zz:=trivial;repeat((first|clear zz|with_reducible first|refine A3 ?_|refine A5 fun _=>?_|refine A4 fun _=>?_);try simp(disch:=first|omega|assumption|((repeat(first|exact A1|exact uH|apply A2|apply uT));first|done|fail)|(simp;first|done|omega|fail))[]))
 rename_i b2 b3 b4
 refine U6 A0b (fun w' _ => B04 w' b 2) ?_
 rintro ⟨x2, x3⟩ u rfl
 refine A5y (B0z b x2 x3 l 2 hl) (B0p _) (fun i (_ : Unit) => r6 l P ((S3 (K8 l 2) l.length).drop i) = H2 l P) (fun _ _ => [.pt b4 (.cells #[.int .i64 0] 3), .pt b3 (.cells #[.slice pa P.length pc] 37), .pt b2 (.cells #[.pointer (some ⟨b, 0, none⟩)] 35)])
  (fun c (y : Unit) => c = .ret) (fun y => [.pt b4 (.cells #[.int .i64 (H2 l P)] 3)]) () (by rw [List.drop_zero]; exact A8w P l) ?_ ?_ ?_ ?_ (by simp)
 ·intro i _ F w1 _ hw
  refine ⟨hb.ks hw.ks (by simp), ?_⟩
  exact hw.notin_old (F8 hb) (by simp)
 ·rintro i hi _ F hψ K' hK hE
  have hi' : i < (S3 (K8 l 2) l.length).length := by simpa using hi
  rw [B2M hi', r6] at hψ
  have hqm := List.getElem_mem hi'
  simp only [List.getElem_map]
  generalize (S3 (K8 l 2) l.length)[i] = q at *
  have hq : q < l.length := by
   unfold S3 at hqm
   exact List.mem_range.1 (List.mem_filter.1 hqm).1
  have hq8 : q < 8 := by omega
  have hx := (hb.at hl hq).2
  obtain ⟨z, hz⟩ : ∃ z, z = (l.getD q (0, 0)).2 := ⟨_, rfl⟩
  rw [← hz] at hx hψ
  simp only [A53, VF.app]
  (have zz:=trivial;repeat((first|clear zz|with_reducible first|refine A3 ?_|refine A5 fun _=>?_|refine A4 fun _=>?_);try simp(disch:=first|omega|assumption|((repeat(first|exact A1|exact uH|apply A2|apply uT));first|done|fail)|(simp;first|done|omega|fail))[]))
  refine A4v (α := Unit) P.length (fun _ _ => [.pt b4 (.cells #[.int .i64 0] 3), .pt b3 (.cells #[.slice pa P.length pc] 37), .pt b2 (.cells #[.pointer (some ⟨b, 0, none⟩)] 35)] ++ F) (fun j _ => ∀ k, k < j → P.getD k 0 = 0 ∨ z < P.getD k 0) () (by simp) ?_
  intro j _ hj hpre L hL
  by_cases hlt : j < P.length
  ·obtain ⟨g, o, rfl, hrow⟩ := hr (by omega)
   have hg : w.cell? ⟨g, o + j, none⟩ = some (.int .i64 (P.getD j 0)) := hrow.get (A23 hlt)
   obtain ⟨y, hy⟩ : ∃ y, y = P.getD j 0 := ⟨_, rfl⟩
   rw [← hy] at hg
   have hn : y = 0 ∨ z < y → ∀ k, k < j + 1 → P.getD k 0 = 0 ∨ z < P.getD k 0 := fun h k hk => by
    by_cases e : k = j
    ·subst e; rw [← hy]; exact h
    ·exact hpre k (by omega)
   by_cases c0 : y = 0
   ·subst c0
    (have zz:=trivial;repeat((first|clear zz|with_reducible first|refine A3 ?_|refine A5 fun _=>?_|refine A4 fun _=>?_);try simp(disch:=first|omega|assumption|((repeat(first|exact A1|exact uH|apply A2|apply uT));first|done|fail)|(simp;first|done|omega|fail))[hlt, hg]))
    exact hL hlt () (hn (Or.inl rfl))
   by_cases c1 : y ≤ z
   ·(have zz:=trivial;repeat((first|clear zz|with_reducible first|refine A3 ?_|refine A5 fun _=>?_|refine A4 fun _=>?_);try simp(disch:=first|omega|assumption|((repeat(first|exact A1|exact uH|apply A2|apply uT));first|done|fail)|(simp;first|done|omega|fail))[hlt, hg, c0, c1, hx, hq8]))
    refine hK () ?_
    rw [if_neg] at hψ
    ·exact hψ
    ·rw [B0e hlt (by rw [← hy]; exact c0) (by rw [← hy]; exact c1)]; simp
   ·(have zz:=trivial;repeat((first|clear zz|with_reducible first|refine A3 ?_|refine A5 fun _=>?_|refine A4 fun _=>?_);try simp(disch:=first|omega|assumption|((repeat(first|exact A1|exact uH|apply A2|apply uT));first|done|fail)|(simp;first|done|omega|fail))[hlt, hg, c0, c1, hx, hq8]))
    exact hL hlt () (hn (Or.inr (by omega)))
  ·obtain rfl : j = P.length := by omega
   rw [if_pos (A9T hpre)] at hψ
   (have zz:=trivial;repeat((first|clear zz|with_reducible first|refine A3 ?_|refine A5 fun _=>?_|refine A4 fun _=>?_);try simp(disch:=first|omega|assumption|((repeat(first|exact A1|exact uH|apply A2|apply uT));first|done|fail)|(simp;first|done|omega|fail))[]))
   refine TW.sub (hE .ret () rfl) ?_
   rw [← hψ]
   ((try simp only [List.cons_append, List.nil_append, List.append_assoc]); (repeat (first | exact List.Sublist.refl _ | exact List.nil_sublist _ | with_reducible apply List.Sublist.cons_cons | apply List.Sublist.cons)); first | done | fail)
 ·intro _ hψ
  (have zz:=trivial;repeat((first|clear zz|with_reducible first|refine A3 ?_|refine A5 fun _=>?_|refine A4 fun _=>?_);try simp(disch:=first|omega|assumption|((repeat(first|exact A1|exact uH|apply A2|apply uT));first|done|fail)|(simp;first|done|omega|fail))[]))
  rw [List.length_map, List.drop_length, r6] at hψ
  exact D1 (by rw [← hψ])
 ·rintro _ _ rfl
  (have zz:=trivial;repeat((first|clear zz|with_reducible first|refine A3 ?_|refine A5 fun _=>?_|refine A4 fun _=>?_);try simp(disch:=first|omega|assumption|((repeat(first|exact A1|exact uH|apply A2|apply uT));first|done|fail)|(simp;first|done|omega|fail))[]))
  exact D1 rfl
end Go.Proofs.YtjobgnabneddjaaGreat
namespace Go.Proofs.YtjobgnabneddjaaGreat
open Go
def A2A (X : Nat → Prop) (t0 : Value) (R : Value → WP) : WP :=
 A0 PR (A9 .min #[3, 3] 0 [t0, (.int .i64 8)]) fun t4 =>
 A0 PR (A9 .max #[3, 3] 0 [(.int .i64 0), t4]) fun t5 =>
 B5 PR X (Instr.makeSlice 229 t5 t5) fun t6 =>
 A0 PR (Instr.build 231 #[(0, t6)]) fun t7 =>
 B5 PR X (Instr.box 231 t7) fun t8 =>
 R t8
theorem A5p : A8 PR 70 := A7 Tryz.func70 (by kernel_rfl) rfl
theorem A6m {X : Nat → Prop} {t0 : Value} {R : Value → WP} {w : World} (h : A2A X t0 R w) : Fn PR X 70 #[t0] w R := D6 (args := [t0]) mixed Tryz.func70 (by kernel_rfl) h
def e6 (X : Nat → Prop) (t0 t1 : Value) (R : Value → WP) : WP :=
 A0 PR (Instr.build 263 #[]) fun t7 =>
 A0 PR (Instr.makeInterface 263 t7) fun t8 =>
 B7 PR X 150 [t0, t1, t8] fun t9 =>
 R t9
theorem A0c : A8 PR 94 := A7 Tryz.func94 (by kernel_rfl) rfl
theorem A1m {X : Nat → Prop} {t0 t1 : Value} {R : Value → WP} {w : World} (h : e6 X t0 t1 R w) : Fn PR X 94 #[t0, t1] w R := D6 (args := [t0, t1]) mixed Tryz.func94 (by kernel_rfl) h
def l2 (X : Nat → Prop) (t0 t1 t2 : Value) (R : Value → WP) : WP :=
 jn (n := 1) (fun t6 =>
 jn (n := 1) (fun t6_1 =>
 B7 PR X 123 [t2] fun t41 =>
 B7 PR X 112 [t2] fun t43 =>
 A0 PR (Instr.build 195 #[(0, t41), (1, t43)]) fun t44 =>
 A0 PR (Instr.makeInterface 195 t44) fun t45 =>
 B7 PR X 150 [t0, t1, t45] fun t46 =>
 R t46) fun J1 =>
 A0 PR (B4 t0) fun t27 =>
 A0 PR (Instr.fieldAt 231 t27 0) fun t28 =>
 A6 PR (Instr.loadAt 229 t28) fun t29 =>
 A0 PR (Instr.indexAt 229 t29 t1) fun t31 =>
 A6 PR (Instr.loadAt 266 t31) fun t32 =>
 A0 PR (Instr.typeAssert t32 266 263 true) fun t33 =>
 A0 PR (Instr.extract t33 0) fun t34 =>
 A0 PR (Instr.extract t33 1) fun t35 =>
 B5 PR X (Instr.alloc 263 true (.tuple #[])) fun t7 =>
 E0 PR X (Instr.storeAt 263 t7 t34) <|
 A0 PR (Op.unary .not t35) fun t37 =>
 D0 t37 (
 R (.bool false)) (
 J1 t6)) fun J2 =>
 A0 PR (binOp .lss 3 t1 (.int .i64 0)) fun t10 =>
 gj t10 false (fun J => J t1) fun t12 =>
 gj t10 false (fun J => J t0) fun t13 =>
 gj t10 false (fun J => A0 PR (B4 t13) J) fun t14 =>
 gj t10 false (fun J => A0 PR (Instr.fieldAt 231 t14 0) J) fun t15 =>
 gj t10 false (fun J => A6 PR (Instr.loadAt 229 t15) J) fun t16 =>
 gj t10 false (fun J => A0 PR (A9 .len #[229] 0 [t16]) J) fun t17 =>
 gj t10 false (fun J => A0 PR (binOp .geq 3 t12 t17) J) fun t18 =>
 A0 PR (do pure (if ← asBool t10 then (.bool true) else t18)) fun t19 =>
 gj t19 false (fun J => J t2) fun t21 =>
 gj t19 false (fun J => B7 PR X 29 [t21] J) fun t22 =>
 gj t19 false (fun J => A0 PR (binOp .neq 27 t22 (.int .i64 0)) J) fun t23 =>
 A0 PR (do pure (if ← asBool t19 then (.bool true) else t23)) fun t24 =>
 D0 t24 (
 R (.bool false)) (
 J2 (.bool false))
theorem A1F : A8 PR 95 := A7 Tryz.func95 (by kernel_rfl) rfl
theorem A15 {X : Nat → Prop} {t0 t1 t2 : Value} {R : Value → WP} {w : World} (h : l2 X t0 t1 t2 R w) : Fn PR X 95 #[t0, t1, t2] w R := D6 (args := [t0, t1, t2]) mixed Tryz.func95 (by kernel_rfl) h
def e8 (X : Nat → Prop) (t0 t1 : Value) (R : Value → WP) : WP :=
 B7 PR X 150 [t0, t1, .nilIface] fun t7 =>
 R t7
theorem A0u : A8 PR 98 := A7 Tryz.func98 (by kernel_rfl) rfl
theorem A1Z {X : Nat → Prop} {t0 t1 : Value} {R : Value → WP} {w : World} (h : e8 X t0 t1 R w) : Fn PR X 98 #[t0, t1] w R := D6 (args := [t0, t1]) mixed Tryz.func98 (by kernel_rfl) h
def p4 (X : Nat → Prop) (t0 t1 t2 : Value) (R : Value → WP) : WP :=
 jn (n := 1) (fun t6 =>
 A0 PR (B4 t0) fun t19 =>
 A0 PR (Instr.fieldAt 231 t19 0) fun t20 =>
 A6 PR (Instr.loadAt 229 t20) fun t21 =>
 A0 PR (Instr.indexAt 229 t21 t1) fun t24 =>
 E0 PR X (Instr.storeAt 266 t24 t2) <|
 R (.bool true)) fun J1 =>
 A0 PR (binOp .lss 3 t1 (.int .i64 0)) fun t8 =>
 gj t8 false (fun J => J t1) fun t10 =>
 gj t8 false (fun J => J t0) fun t11 =>
 gj t8 false (fun J => A0 PR (B4 t11) J) fun t12 =>
 gj t8 false (fun J => A0 PR (Instr.fieldAt 231 t12 0) J) fun t13 =>
 gj t8 false (fun J => A6 PR (Instr.loadAt 229 t13) J) fun t14 =>
 gj t8 false (fun J => A0 PR (A9 .len #[229] 0 [t14]) J) fun t15 =>
 gj t8 false (fun J => A0 PR (binOp .geq 3 t10 t15) J) fun t16 =>
 A0 PR (do pure (if ← asBool t8 then (.bool true) else t16)) fun t17 =>
 D0 t17 (
 R (.bool false)) (
 J1 (.bool false))
theorem A13 : A8 PR 150 := A7 Tryz.func150 (by kernel_rfl) rfl
theorem A2K {X : Nat → Prop} {t0 t1 t2 : Value} {R : Value → WP} {w : World} (h : p4 X t0 t1 t2 R w) : Fn PR X 150 #[t0, t1, t2] w R := D6 (args := [t0, t1, t2]) mixed Tryz.func150 (by kernel_rfl) h
end Go.Proofs.YtjobgnabneddjaaGreat
