/- The proof of a given statement, a part of it (ShPoints Points). No condition but what each lemma says. -/
import Derived.Test.YtjobgnabneddjaaGreatN14
set_option linter.unusedVariables false
set_option linter.unusedSimpArgs false
namespace Go.Proofs.YtjobgnabneddjaaGreat
open Go
def B0k (X : Nat → Prop) (t0 : Value) (R : Value → WP) : WP :=
 jn (n := 2) (fun t3 t10 =>
 R t3) fun J1 =>
 B5 PR X 161 [t0] fun t7 =>
 B5 PR X 160 [t7, (.func (.func 162) #[] #[])] fun t8 =>
 A0 PR (A8 .len #[281] 0 [t8]) fun t9 =>
 lp (n := 2) (fun L2 t3_1 t10_1 =>
 A0 PR (binOp .lss 3 t10_1 t9) fun t11 =>
 jn (n := 0) (
 jn (n := 1) (fun t3_2 =>
 A0 PR (binOp .add 3 t10_1 (.int .i64 1)) fun t18 =>
 L2 t3_2 t18) fun J3 =>
 A0 PR (Instr.indexAt 281 t8 t10_1) fun t12 =>
 A6 PR (Instr.loadAt 284 t12) fun t13 =>
 B3 PR X (Instr.alloc 284 true (.tuple #[])) fun t5 =>
 C3 PR X (Instr.storeAt 284 t5 t13) <|
 A6 PR (Instr.loadAt 284 t5) fun t15 =>
 B3 PR X (Instr.buildSlice 193 1 #[(0, t15)]) fun t16 =>
 B3 PR X (A8 .append #[193, 193] 193 [t3_1, t16]) fun t17 =>
 J3 t17) fun J4 =>
 C6 t11 (
 J4) (
 J1 t3_1 t10_1)) (.slice none 0 0) (.int .i64 0)
theorem A9M : A9 PR 112 := A7 Tryz.func112 (by kernel_rfl) rfl
theorem B74 {X : Nat → Prop} {t0 : Value} {R : Value → WP} {w : World} (h : B0k X t0 R w) : Fn PR X 112 #[t0] w R := C8 (args := [t0]) mixed Tryz.func112 (by kernel_rfl) h
def A63 (X : Nat → Prop) (t0 : Value) (R : Value → WP) : WP :=
 B3 PR X (Instr.box 58 t0) fun t1 =>
 A0 PR (Instr.makeFunc (.func 214) #[] #[t1]) fun t3 =>
 R t3
theorem B3s : A9 PR 161 := A7 Tryz.func161 (by kernel_rfl) rfl
theorem B40 {X : Nat → Prop} {t0 : Value} {R : Value → WP} {w : World} (h : A63 X t0 R w) : Fn PR X 161 #[t0] w R := C8 (args := [t0]) mixed Tryz.func161 (by kernel_rfl) h
def A09 (X : Nat → Prop) (t0 t1 : Value) (R : Value → WP) : WP :=
 B3 PR X (Instr.box 284 t0) fun t2 =>
 B3 PR X (Instr.box 284 t1) fun t3 =>
 drw <|
 A0 PR (Instr.fieldAt 284 t2 0) fun t5 =>
 A6 PR (Instr.loadAt 89 t5) fun t6 =>
 A0 PR (Instr.fieldAt 284 t3 0) fun t7 =>
 A6 PR (Instr.loadAt 89 t7) fun t8 =>
 A0 PR (Instr.fieldAt 284 t2 1) fun t10 =>
 A6 PR (Instr.loadAt 3 t10) fun t11 =>
 A0 PR (Instr.fieldAt 284 t3 1) fun t12 =>
 A6 PR (Instr.loadAt 3 t12) fun t13 =>
 B5 PR X 217 [t6, t8] fun t9 =>
 watch PR [(none, (Instr.loadAt 3 t12), t13), (none, (Instr.loadAt 3 t10), t11)] <|
 B5 PR X 218 [t11, t13] fun t14 =>
 B3 PR X (Instr.buildSlice 37 2 #[(0, t9), (1, t14)]) fun t15 =>
 B5 PR X 216 [t15] fun t16 =>
 R t16
theorem A6V : A9 PR 162 := A7 Tryz.func162 (by kernel_rfl) rfl
theorem A7M {X : Nat → Prop} {t0 t1 : Value} {R : Value → WP} {w : World} (h : A09 X t0 t1 R w) : Fn PR X 162 #[t0, t1] w R := C8 (args := [t0, t1]) mixed Tryz.func162 (by kernel_rfl) h
def A30 (X : Nat → Prop) (t0 t1 : Value) (R : Value → WP) : WP :=
 A6 PR (Instr.loadAt 58 t1) fun t6 =>
 A0 PR (A8 .len #[58] 0 [t6]) fun t7 =>
 lp (n := 1) (fun L1 t8 =>
 A0 PR (binOp .lss 3 t8 t7) fun t9 =>
 jn (n := 0) (
 jn (n := 1) (fun t17 =>
 A0 PR (binOp .add 3 t8 (.int .i64 1)) fun t31 =>
 L1 t31) fun J2 =>
 A0 PR (Instr.indexAt 58 t6 t8) fun t10 =>
 A6 PR (Instr.loadAt 155 t10) fun t11 =>
 B3 PR X (Instr.alloc 155 true (.tuple #[])) fun t4 =>
 C3 PR X (Instr.storeAt 155 t4 t11) <|
 A0 PR (Instr.fieldAt 155 t4 1) fun t12 =>
 A6 PR (Instr.loadAt 3 t12) fun t13 =>
 A0 PR (A8 .min #[3, 3] 0 [t13, (.int .i64 16)]) fun t14 =>
 A0 PR (A8 .max #[3, 3] 0 [(.int .i64 0), t14]) fun t15 =>
 A0 PR (binOp .mul 3 (.int .i64 8) t15) fun t16 =>
 lp (n := 1) (fun L3 t17_1 =>
 A0 PR (binOp .lss 3 t17_1 t16) fun t18 =>
 jn (n := 0) (
 jn (n := 0) (
 A0 PR (binOp .add 3 t17_1 (.int .i64 1)) fun t30 =>
 L3 t30) fun J4 =>
 drw <|
 A0 PR (Instr.fieldAt 155 t4 0) fun t21 =>
 A6 PR (Instr.loadAt 3 t21) fun t22 =>
 A0 PR (Instr.fieldAt 155 t4 0) fun t25 =>
 A6 PR (Instr.loadAt 3 t25) fun t26 =>
 B5 PR X 215 [t22, t17_1] fun t24 =>
 watch PR [(none, (Instr.loadAt 3 t25), t26)] <|
 A0 PR (Instr.build 284 #[(0, t24), (1, t26)]) fun t27 =>
 L8 PR X t0 [t27] fun t28 =>
 A0 PR (Op.unary .not t28) fun t29 =>
 C6 t29 (
 R (.tuple #[])) (
 J4)) fun J5 =>
 C6 t18 (
 J5) (
 J2 t17_1)) (.int .i64 0)) fun J6 =>
 C6 t9 (
 J6) (
 R (.tuple #[]))) (.int .i64 0)
theorem B0d : A9 PR 214 := A7 Tryz.func214 (by kernel_rfl) rfl
theorem B1y {X : Nat → Prop} {t0 t1 : Value} {R : Value → WP} {w : World} (h : A30 X t0 t1 R w) : Fn PR X 214 #[t0, t1] w R := C8 (args := [t0, t1]) mixed Tryz.func214 (by kernel_rfl) h
theorem B16 {X : Nat → Prop} {t0 t1 : Value} {K : Value → WP} {w : World} (h : Fn PR X 214 #[t0, t1] w K) : A1v PR X 214 [t0, t1] K w := ⟨B0d, h⟩
def A7q (X : Nat → Prop) (t0 t1 : Value) (R : Value → WP) : WP :=
 A0 PR (convert 3 89 t0) fun t6 =>
 B5 PR X 176 [t6, (.int .i64 4)] fun t7 =>
 B5 PR X 135 [t7] fun t8 =>
 A0 PR (convert 3 89 t1) fun t10 =>
 B5 PR X 176 [t10, (.int .i64 2)] fun t11 =>
 B5 PR X 176 [(.int .u64 0), (.int .i64 4)] fun t12 =>
 A0 PR (binOp .add 9 t11 t12) fun t13 =>
 B5 PR X 183 [t8, t13] fun t14 =>
 R t14
theorem B3d : A9 PR 215 := A7 Tryz.func215 (by kernel_rfl) rfl
theorem B42 {X : Nat → Prop} {t0 t1 : Value} {R : Value → WP} {w : World} (h : A7q X t0 t1 R w) : Fn PR X 215 #[t0, t1] w R := C8 (args := [t0, t1]) mixed Tryz.func215 (by kernel_rfl) h
end Go.Proofs.YtjobgnabneddjaaGreat
namespace Go.Proofs.YtjobgnabneddjaaGreat
open Go
def C07 (id : Int) (n : Nat) : Nat := C01 (c7 (G0 (IntKind.u64.wrap id) 4)) (G0 n 2 ++ G0 0 4)
theorem C7M (w : World) (id : Int) (n : Nat) (hn : n < 2 ^ 62) : Fn PR C0 215 #[.int .i64 id, .int .i64 (n : Int)] w (fun v w' => v = .int .u64 (C07 id n : Nat) ∧ D2 [] w w') := by
 refine Fn.pure (B42 (TW.go (κ := false) (S := []) ?_))
 unfold A7q
 (have zz:=trivial;repeat((first|clear zz|with_reducible first|refine A3 ?_|refine A5 fun _=>?_|refine A4 fun _=>?_);try simp(disch:=first|omega|assumption|((repeat(first|exact A1|exact uH|apply A2|apply uT));first|done|fail)|(simp;first|done|omega|fail))[]))
 refine C4 J0 (fun w' hw' => Z4 w' _ _) ?_
 (have zz:=trivial;repeat((first|clear zz|with_reducible first|refine A3 ?_|refine A5 fun _=>?_|refine A4 fun _=>?_);try simp(disch:=first|omega|assumption|((repeat(first|exact A1|exact uH|apply A2|apply uT));first|done|fail)|(simp;first|done|omega|fail))[]))
 refine C4 A0V (fun w' _ => A3N w' _ (by simp)) ?_
 (have zz:=trivial;repeat((first|clear zz|with_reducible first|refine A3 ?_|refine A5 fun _=>?_|refine A4 fun _=>?_);try simp(disch:=first|omega|assumption|((repeat(first|exact A1|exact uH|apply A2|apply uT));first|done|fail)|(simp;first|done|omega|fail))[]))
 refine C4 J0 (fun w' hw' => Z4 w' _ _) ?_
 (have zz:=trivial;repeat((first|clear zz|with_reducible first|refine A3 ?_|refine A5 fun _=>?_|refine A4 fun _=>?_);try simp(disch:=first|omega|assumption|((repeat(first|exact A1|exact uH|apply A2|apply uT));first|done|fail)|(simp;first|done|omega|fail))[]))
 refine C4 J0 (fun w' hw' => Z4 w' _ _) ?_
 (have zz:=trivial;repeat((first|clear zz|with_reducible first|refine A3 ?_|refine A5 fun _=>?_|refine A4 fun _=>?_);try simp(disch:=first|omega|assumption|((repeat(first|exact A1|exact uH|apply A2|apply uT));first|done|fail)|(simp;first|done|omega|fail))[W7]))
 refine C4 B0P (fun w' _ => B92 w' _ _ (B5D _) (by simp)) ?_
 exact B0 rfl
def wtN (b : E9) : Nat := 8 * (max 0 (min b.2 16)).toNat
def B47 (b : E9) : List (Nat × Int) := (List.range (wtN b)).map fun n => (C07 b.1 n, b.1)
def K9 (p : List E9) : List (Nat × Int) := p.flatMap B47
def H9 (x : Nat × Int) : List Value := [.int .u64 (x.1 : Nat), .int .i64 x.2]
def ptA (x : Nat × Int) : List Value := [.agg #[.int .u64 (x.1 : Nat), .int .i64 x.2]]
abbrev B3r (b : Nat) : Value := .func (.func 214) #[] #[.pointer (some ⟨b, 0, none⟩)]
theorem C5s (w : World) (v : Value) (hv : ∃ a n c, v = .slice a n c) : Fn PR C0 161 #[v] w (Rn [] w (fun b u => u = B3r b) fun b => [.pt b (.cells #[v] 58)]) := by
 obtain ⟨a, n, c, rfl⟩ := hv
 refine B40 (TW.go (κ := false) (S := []) ?_)
 unfold A63
 (have zz:=trivial;repeat((first|clear zz|with_reducible first|refine A3 ?_|refine A5 fun _=>?_|refine A4 fun _=>?_);try simp(disch:=first|omega|assumption|((repeat(first|exact A1|exact uH|apply A2|apply uT));first|done|fail)|(simp;first|done|omega|fail))[]))
 rename_i b
 exact m7 b rfl (by simp)
theorem B9u {p : List E9} {i : Nat} {x : E9} (hx : p[i]? = some x) : K9 (p.take (i + 1)) = K9 (p.take i) ++ B47 x := by
 rw [List.take_add_one, hx]; simp [K9]
theorem C4p {p : List E9} {i n : Nat} {x : E9} (hx : p[i]? = some x) (hn : n < wtN x) : (K9 p)[(K9 (p.take i)).length + n]? = some (C07 x.1 n, x.1) := by
 have e : p = p.take (i + 1) ++ p.drop (i + 1) := (List.take_append_drop _ _).symm
 conv => lhs; arg 1; rw [e]
 have h2 : K9 (p.take (i + 1) ++ p.drop (i + 1)) = K9 (p.take (i + 1)) ++ K9 (p.drop (i + 1)) := by simp only [K9, List.flatMap_append]
 rw [h2, B9u hx, List.append_assoc, List.getElem?_append_right (by omega), Nat.add_sub_cancel_left, List.getElem?_append_left (by simp [B47, hn])]
 simp [B47, hn]
theorem C5G (b : Nat) (v : Value) (p : List E9) (hn : p.length ≤ 1000000) : A5y (B3r b) [.pt b (.cells #[v] 58)] (RqS v p.length (p.flatMap H3)) ((K9 p).map ptA) := by
 refine ⟨_, _, _, rfl, fun y J E hJ hE stJ stE hy w0 h0 => ?_⟩
 obtain ⟨a, c, hv, hr⟩ := (hJ _ _ _ h0).2
 subst hv
 refine B16 (B1y (TW.at (κ := true) ?_ (hJ _ _ _ h0).1))
 unfold A30
 (have zz:=trivial;repeat((first|clear zz|with_reducible first|refine A3 ?_|refine A5 fun _=>?_|refine A4 fun _=>?_);try simp(disch:=first|omega|assumption|((repeat(first|exact A1|exact uH|apply A2|apply uT));first|done|fail)|(simp;first|done|omega|fail))[]))
 refine A4g p.length (fun i => (K9 (p.take i)).length) (fun _ => _) hJ stJ (by simpa [K9] using h0) fun i a' hi hJi hRi L hL => ?_
 by_cases hlt : i < p.length
 ·obtain ⟨_, _, hv, hr⟩ := hRi
  obtain ⟨b', o, hb, hrow, hnb⟩ := hr (by omega)
  cases hv
  subst hb
  obtain ⟨x, hx⟩ : ∃ x, p[i]? = some x := ⟨_, List.getElem?_eq_getElem hlt⟩
  have h1 := hrow.at (f := H3) (k := 2) (fun _ => rfl) hx
  rw [H3] at h1
  have hlen : (K9 (p.take (i + 1))).length = (K9 (p.take i)).length + wtN x := by rw [B9u hx]; simp [B47]
  rw [hlen] at hL
  have hw : 8 * max 0 (min x.2 16) = (wtN x : Nat) := by unfold wtN; omega
  have hwl : wtN x ≤ 128 := by unfold wtN; omega
  (have zz:=trivial;repeat((first|clear zz|with_reducible first|refine A3 ?_|refine A5 fun _=>?_|refine A4 fun _=>?_);try simp(disch:=first|omega|assumption|((repeat(first|exact A1|exact uH|apply A2|apply uT));first|done|fail)|(simp;first|done|omega|fail))[hlt, h1]))
  rename_i b4
  rw [hw]
  refine A4g (wtN x) (fun n => (K9 (p.take i)).length + n) (fun _ => _) hJ stJ hJi fun n a2 hi2 hJn hRn L2 hL2 => ?_
  by_cases hlt2 : n < wtN x
  ·have hg := C4p hx hlt2
   obtain ⟨hgi, hg'⟩ := List.getElem?_eq_some_iff.1 hg
   (have zz:=trivial;repeat((first|clear zz|with_reducible first|refine A3 ?_|refine A5 fun _=>?_|refine A4 fun _=>?_);try simp(disch:=first|omega|assumption|((repeat(first|exact A1|exact uH|apply A2|apply uT));first|done|fail)|(simp;first|done|omega|fail))[hlt2]))
   refine C4 B3d (fun w' _ => C7M w' x.1 n (by omega)) ?_
   (have zz:=trivial;repeat((first|clear zz|with_reducible first|refine A3 ?_|refine A5 fun _=>?_|refine A4 fun _=>?_);try simp(disch:=first|omega|assumption|((repeat(first|exact A1|exact uH|apply A2|apply uT));first|done|fail)|(simp;first|done|omega|fail))[]))
   refine A8D hJ hE stJ hy hJn (by simpa using hgi) (by rw [List.getElem_map, hg', ptA]) (fun w3 h => ?_) (fun w3 h => ?_)
   ·(have zz:=trivial;repeat((first|clear zz|with_reducible first|refine A3 ?_|refine A5 fun _=>?_|refine A4 fun _=>?_);try simp(disch:=first|omega|assumption|((repeat(first|exact A1|exact uH|apply A2|apply uT));first|done|fail)|(simp;first|done|omega|fail))[]))
    exact fun w' hw' => hL2 hlt2 w' (stJ _ _ _ _ _ h hw')
   ·(have zz:=trivial;repeat((first|clear zz|with_reducible first|refine A3 ?_|refine A5 fun _=>?_|refine A4 fun _=>?_);try simp(disch:=first|omega|assumption|((repeat(first|exact A1|exact uH|apply A2|apply uT));first|done|fail)|(simp;first|done|omega|fail))[]))
    exact A4z stE h
  ·obtain rfl : n = wtN x := by omega
   (have zz:=trivial;repeat((first|clear zz|with_reducible first|refine A3 ?_|refine A5 fun _=>?_|refine A4 fun _=>?_);try simp(disch:=first|omega|assumption|((repeat(first|exact A1|exact uH|apply A2|apply uT));first|done|fail)|(simp;first|done|omega|fail))[]))
   exact fun w' hw' => hL hlt w' (stJ _ _ _ _ _ hJn (hw'.sub (by simp)))
 ·obtain rfl : i = p.length := by omega
  rw [List.take_length] at hJi
  (have zz:=trivial;repeat((first|clear zz|with_reducible first|refine A3 ?_|refine A5 fun _=>?_|refine A4 fun _=>?_);try simp(disch:=first|omega|assumption|((repeat(first|exact A1|exact uH|apply A2|apply uT));first|done|fail)|(simp;first|done|omega|fail))[]))
  exact A4v stJ (by simpa using hJi)
end Go.Proofs.YtjobgnabneddjaaGreat
