/- The proof of a given statement, a part of it (ShStd ShOctet Ins Tc Tn Oct). No condition but what each lemma says. -/
import Derived.Test.YtlplkjgcfjdinaaGreatW10
set_option linter.unusedVariables false
set_option linter.unusedSimpArgs false
namespace Go.Proofs.YtlplkjgcfjdinaaGreat
open Go
def M3 (X : Nat → Prop) (t0 t1 : Value) (R : Value → WP) : WP :=
 A0 PR (A8 .len #[35] 0 [t0]) fun t6 =>
 B8 PR X 31 [t0, t6, t1] fun t8 =>
 R (.tuple #[])
theorem S6 : A9 PR 20 := A7 Tryz.func20 (by kernel_rfl) rfl
theorem S9 {X : Nat → Prop} {t0 t1 : Value} {R : Value → WP} {w : World} (h : M3 X t0 t1 R w) : Fn PR X 20 #[t0, t1] w R := C8 (args := [t0, t1]) mixed Tryz.func20 (by kernel_rfl) h
def A0f (X : Nat → Prop) (t0 t1 : Value) (R : Value → WP) : WP :=
 B8 PR X 32 [t0] fun t8 =>
 B8 PR X 32 [t1] fun t10 =>
 jn (n := 1) (fun t4 =>
 jn (n := 1) (fun t4_1 =>
 jn (n := 1) (fun t4_2 =>
 jn (n := 1) (fun t4_3 =>
 R (.int .i64 0)) fun J1 =>
 A0 PR (binOp .gtr 3 t0 t1) fun t19 =>
 B7 t19 (
 R (.int .i64 1)) (
 J1 t4_2)) fun J2 =>
 A0 PR (binOp .lss 3 t0 t1) fun t16 =>
 B7 t16 (
 R (.int .i64 (-1))) (
 J2 t4_1)) fun J3 =>
 B7 t10 (
 R (.int .i64 1)) (
 J3 t4)) fun J4 =>
 B7 t8 (
 jn (n := 1) (fun t4_4 =>
 R (.int .i64 (-1))) fun J5 =>
 B7 t10 (
 R (.int .i64 0)) (
 J5 (.int .i64 0))) (
 J4 (.int .i64 0))
theorem y6 : A9 PR 22 := A7 Tryz.func22 (by kernel_rfl) rfl
theorem A5m {X : Nat → Prop} {t0 t1 : Value} {R : Value → WP} {w : World} (h : A0f X t0 t1 R w) : Fn PR X 22 #[t0, t1] w R := C8 (args := [t0, t1]) mixed Tryz.func22 (by kernel_rfl) h
theorem A6P {X : Nat → Prop} {t0 t1 : Value} {K : Value → WP} {w : World} (h : Fn PR X 22 #[t0, t1] w K) : B8 PR X 22 [t0, t1] K w := Or.inl ⟨y6, h⟩
def P8 (X : Nat → Prop) (t0 t1 t2 : Value) (R : Value → WP) : WP :=
 jn (n := 2) (fun t7 t8 =>
 B8 PR X 40 [t0, t7, t1, t2] fun t27 =>
 lp (n := 3) (fun L1 t7_1 t8_1 t6 =>
 jn (n := 0) (
 A0 PR (binOp .mul 3 (.int .i64 2) t6) fun t32 =>
 jn (n := 2) (fun t7_2 t8_2 =>
 jn (n := 0) (
 A0 PR (binOp .mul 3 t6 (.int .i64 2)) fun t62 =>
 L1 t7_2 t8_2 t62) fun J2 =>
 A0 PR (binOp .add 3 t7_2 t6) fun t51 =>
 A0 PR (binOp .lss 3 t51 t1) fun t54 =>
 B7 t54 (
 B8 PR X 41 [t0, t7_2, t51, t1, t2] fun t60 =>
 J2) (
 J2)) fun J3 =>
 lp (n := 2) (fun L4 t7_3 t8_3 =>
 jn (n := 0) (
 A0 PR (binOp .add 3 t7_3 t6) fun t40 =>
 B8 PR X 41 [t0, t7_3, t40, t8_3, t2] fun t43 =>
 A0 PR (binOp .mul 3 (.int .i64 2) t6) fun t47 =>
 A0 PR (binOp .add 3 t8_3 t47) fun t48 =>
 L4 t8_3 t48) fun J5 =>
 A0 PR (binOp .leq 3 t8_3 t1) fun t35 =>
 B7 t35 (
 J5) (
 J3 t7_3 t8_3)) (.int .i64 0) t32) fun J6 =>
 A0 PR (binOp .lss 3 t6 t1) fun t30 =>
 B7 t30 (
 J6) (
 R (.tuple #[]))) t7 t8 (.int .i64 20)) fun J7 =>
 lp (n := 2) (fun L8 t7_4 t8_4 =>
 jn (n := 0) (
 B8 PR X 40 [t0, t7_4, t8_4, t2] fun t18 =>
 A0 PR (binOp .add 3 t8_4 (.int .i64 20)) fun t22 =>
 L8 t8_4 t22) fun J9 =>
 A0 PR (binOp .leq 3 t8_4 t1) fun t13 =>
 B7 t13 (
 J9) (
 J7 t7_4 t8_4)) (.int .i64 0) (.int .i64 20)
theorem Y5 : A9 PR 31 := A7 Tryz.func31 (by kernel_rfl) rfl
theorem Z5 {X : Nat → Prop} {t0 t1 t2 : Value} {R : Value → WP} {w : World} (h : P8 X t0 t1 t2 R w) : Fn PR X 31 #[t0, t1, t2] w R := C8 (args := [t0, t1, t2]) mixed Tryz.func31 (by kernel_rfl) h
def A1f (X : Nat → Prop) (t0 : Value) (R : Value → WP) : WP :=
 A0 PR (binOp .neq 3 t0 t0) fun t5 =>
 R t5
theorem A6b : A9 PR 32 := A7 Tryz.func32 (by kernel_rfl) rfl
theorem A7U {X : Nat → Prop} {t0 : Value} {R : Value → WP} {w : World} (h : A1f X t0 R w) : Fn PR X 32 #[t0] w R := C8 (args := [t0]) mixed Tryz.func32 (by kernel_rfl) h
theorem A2K {X : Nat → Prop} {t0 : Value} {K : Value → WP} {w : World} (h : Fn PR X 32 #[t0] w K) : B8 PR X 32 [t0] K w := Or.inl ⟨A6b, h⟩
def K6 (X : Nat → Prop) (t0 t1 t2 t3 : Value) (R : Value → WP) : WP :=
 A0 PR (binOp .add 3 t1 (.int .i64 1)) fun t11 =>
 lp (n := 1) (fun L1 t8 =>
 jn (n := 0) (
 jn (n := 1) (fun t9 =>
 A0 PR (binOp .add 3 t8 (.int .i64 1)) fun t16 =>
 L1 t16) fun J2 =>
 lp (n := 1) (fun L3 t9_1 =>
 jn (n := 0) (
 jn (n := 0) (
 A0 PR (binOp .sub 3 t9_1 (.int .i64 1)) fun t36 =>
 L3 t36) fun J4 =>
 drw <|
 A0 PR (binOp .sub 3 t9_1 (.int .i64 1)) fun t41 =>
 A0 PR (binOp .sub 3 t9_1 (.int .i64 1)) fun t44 =>
 A0 PR (Instr.indexAt 35 t0 t44) fun t45 =>
 A6 PR (Instr.loadAt 3 t45) fun t46 =>
 A0 PR (Instr.indexAt 35 t0 t9_1) fun t49 =>
 A6 PR (Instr.loadAt 3 t49) fun t50 =>
 A0 PR (Instr.indexAt 35 t0 t9_1) fun t51 =>
 B6 PR X (Instr.storeAt 3 t51 t46) <|
 A0 PR (Instr.indexAt 35 t0 t41) fun t52 =>
 B6 PR X (Instr.storeAt 3 t52 t50) <|
 J4) fun J5 =>
 drw <|
 A0 PR (binOp .gtr 3 t9_1 t1) fun t20 =>
 gj t20 true (fun J => J t3) fun t22 =>
 gj t20 true (fun J => J t0) fun t23 =>
 gj t20 true (fun J => J t9_1) fun t24 =>
 gj t20 true (fun J => A0 PR (Instr.indexAt 35 t23 t24) J) fun t25 =>
 gj t20 true (fun J => A6 PR (Instr.loadAt 3 t25) J) fun t26 =>
 gj t20 true (fun J => J t0) fun t27 =>
 gj t20 true (fun J => J t9_1) fun t28 =>
 gj t20 true (fun J => A0 PR (binOp .sub 3 t28 (.int .i64 1)) J) fun t29 =>
 gj t20 true (fun J => A0 PR (Instr.indexAt 35 t27 t29) J) fun t30 =>
 gj t20 true (fun J => A6 PR (Instr.loadAt 3 t30) J) fun t31 =>
 gj t20 true (fun J => F4 PR X t22 [t26, t31] J) fun t32 =>
 gj t20 true (fun J => A0 PR (binOp .lss 3 t32 (.int .i64 0)) J) fun t33 =>
 A0 PR (do pure (if ← asBool t20 then t33 else (.bool false))) fun t34 =>
 B7 t34 (
 J5) (
 J2 t9_1)) t8) fun J6 =>
 A0 PR (binOp .lss 3 t8 t2) fun t14 =>
 B7 t14 (
 J6) (
 R (.tuple #[]))) t11
theorem K1 : A9 PR 40 := A7 Tryz.func40 (by kernel_rfl) rfl
theorem S0 {X : Nat → Prop} {t0 t1 t2 t3 : Value} {R : Value → WP} {w : World} (h : K6 X t0 t1 t2 t3 R w) : Fn PR X 40 #[t0, t1, t2, t3] w R := C8 (args := [t0, t1, t2, t3]) mixed Tryz.func40 (by kernel_rfl) h
def N8 (X : Nat → Prop) (t0 t1 t2 t3 t4 : Value) (R : Value → WP) : WP :=
 jn (n := 0) (
 jn (n := 0) (
 A0 PR (binOp .add 3 t1 t3) fun t131 =>
 A0 PR (convert 3 104 t131) fun t132 =>
 A0 PR (binOp .shr 104 t132 (.int .u64 1)) fun t133 =>
 A0 PR (convert 104 3 t133) fun t134 =>
 A0 PR (binOp .add 3 t134 t2) fun t137 =>
 jn (n := 2) (fun t20 t21 =>
 A0 PR (binOp .sub 3 t137 (.int .i64 1)) fun t148 =>
 jn (n := 2) (fun t20_1 t21_1 =>
 A0 PR (binOp .sub 3 t137 t20_1) fun t177 =>
 jn (n := 0) (
 jn (n := 0) (
 A0 PR (binOp .lss 3 t134 t177) fun t208 =>
 gj t208 true (fun J => J t177) fun t210 =>
 gj t208 true (fun J => J t3) fun t211 =>
 gj t208 true (fun J => A0 PR (binOp .lss 3 t210 t211) J) fun t212 =>
 A0 PR (do pure (if ← asBool t208 then t212 else (.bool false))) fun t213 =>
 B7 t213 (
 B8 PR X 41 [t0, t134, t177, t3, t4] fun t219 =>
 R (.tuple #[])) (
 R (.tuple #[]))) fun J1 =>
 A0 PR (binOp .lss 3 t1 t20_1) fun t194 =>
 gj t194 true (fun J => J t20_1) fun t196 =>
 gj t194 true (fun J => J t134) fun t197 =>
 gj t194 true (fun J => A0 PR (binOp .lss 3 t196 t197) J) fun t198 =>
 A0 PR (do pure (if ← asBool t194 then t198 else (.bool false))) fun t199 =>
 B7 t199 (
 B8 PR X 41 [t0, t1, t20_1, t134, t4] fun t205 =>
 J1) (
 J1)) fun J2 =>
 A0 PR (binOp .lss 3 t20_1 t2) fun t180 =>
 gj t180 true (fun J => J t2) fun t182 =>
 gj t180 true (fun J => J t177) fun t183 =>
 gj t180 true (fun J => A0 PR (binOp .lss 3 t182 t183) J) fun t184 =>
 A0 PR (do pure (if ← asBool t180 then t184 else (.bool false))) fun t185 =>
 B7 t185 (
 B8 PR X 51 [t0, t20_1, t2, t177, t4] fun t191 =>
 J2) (
 J2)) fun J3 =>
 lp (n := 2) (fun L4 t20_2 t21_2 =>
 jn (n := 0) (
 A0 PR (binOp .add 3 t20_2 t21_2) fun t154 =>
 A0 PR (convert 3 104 t154) fun t155 =>
 A0 PR (binOp .shr 104 t155 (.int .u64 1)) fun t156 =>
 A0 PR (convert 104 3 t156) fun t157 =>
 drw <|
 A0 PR (binOp .sub 3 t148 t157) fun t162 =>
 A0 PR (Instr.indexAt 35 t0 t162) fun t163 =>
 A6 PR (Instr.loadAt 3 t163) fun t164 =>
 A0 PR (Instr.indexAt 35 t0 t157) fun t167 =>
 A6 PR (Instr.loadAt 3 t167) fun t168 =>
 F4 PR X t4 [t164, t168] fun t169 =>
 A0 PR (binOp .lss 3 t169 (.int .i64 0)) fun t170 =>
 A0 PR (Op.unary .not t170) fun t171 =>
 B7 t171 (
 A0 PR (binOp .add 3 t157 (.int .i64 1)) fun t173 =>
 L4 t173 t21_2) (
 L4 t20_2 t157)) fun J5 =>
 A0 PR (binOp .lss 3 t20_2 t21_2) fun t151 =>
 B7 t151 (
 J5) (
 J3 t20_2 t21_2)) t20 t21) fun J6 =>
 A0 PR (binOp .gtr 3 t2 t134) fun t140 =>
 B7 t140 (
 A0 PR (binOp .sub 3 t137 t3) fun t143 =>
 J6 t143 t134) (
 J6 t1 t2)) fun J7 =>
 A0 PR (binOp .sub 3 t3 t2) fun t79 =>
 A0 PR (binOp .eql 3 t79 (.int .i64 1)) fun t80 =>
 B7 t80 (
 jn (n := 2) (fun t14 t15 =>
 jn (n := 1) (fun t17 =>
 R (.tuple #[])) fun J8 =>
 lp (n := 1) (fun L9 t17_1 =>
 jn (n := 0) (
 jn (n := 0) (
 A0 PR (binOp .sub 3 t17_1 (.int .i64 1)) fun t112 =>
 L9 t112) fun J10 =>
 drw <|
 A0 PR (binOp .sub 3 t17_1 (.int .i64 1)) fun t117 =>
 A0 PR (binOp .sub 3 t17_1 (.int .i64 1)) fun t120 =>
 A0 PR (Instr.indexAt 35 t0 t120) fun t121 =>
 A6 PR (Instr.loadAt 3 t121) fun t122 =>
 A0 PR (Instr.indexAt 35 t0 t17_1) fun t125 =>
 A6 PR (Instr.loadAt 3 t125) fun t126 =>
 A0 PR (Instr.indexAt 35 t0 t17_1) fun t127 =>
 B6 PR X (Instr.storeAt 3 t127 t122) <|
 A0 PR (Instr.indexAt 35 t0 t117) fun t128 =>
 B6 PR X (Instr.storeAt 3 t128 t126) <|
 J10) fun J11 =>
 A0 PR (binOp .gtr 3 t17_1 t14) fun t110 =>
 B7 t110 (
 J11) (
 J8 t17_1)) t2) fun J12 =>
 lp (n := 2) (fun L13 t14_1 t15_1 =>
 jn (n := 0) (
 A0 PR (binOp .add 3 t14_1 t15_1) fun t88 =>
 A0 PR (convert 3 104 t88) fun t89 =>
 A0 PR (binOp .shr 104 t89 (.int .u64 1)) fun t90 =>
 A0 PR (convert 104 3 t90) fun t91 =>
 drw <|
 A0 PR (Instr.indexAt 35 t0 t2) fun t95 =>
 A6 PR (Instr.loadAt 3 t95) fun t96 =>
 A0 PR (Instr.indexAt 35 t0 t91) fun t99 =>
 A6 PR (Instr.loadAt 3 t99) fun t100 =>
 F4 PR X t4 [t96, t100] fun t101 =>
 A0 PR (binOp .lss 3 t101 (.int .i64 0)) fun t102 =>
 A0 PR (Op.unary .not t102) fun t103 =>
 B7 t103 (
 A0 PR (binOp .add 3 t91 (.int .i64 1)) fun t105 =>
 L13 t105 t15_1) (
 L13 t14_1 t91)) fun J14 =>
 A0 PR (binOp .lss 3 t14_1 t15_1) fun t85 =>
 B7 t85 (
 J14) (
 J12 t14_1 t15_1)) t1 t2) (
 J7)) fun J15 =>
 A0 PR (binOp .sub 3 t2 t1) fun t27 =>
 A0 PR (binOp .eql 3 t27 (.int .i64 1)) fun t28 =>
 B7 t28 (
 jn (n := 2) (fun t10 t11 =>
 jn (n := 1) (fun t13 =>
 R (.tuple #[])) fun J16 =>
 lp (n := 1) (fun L17 t13_1 =>
 jn (n := 0) (
 jn (n := 0) (
 A0 PR (binOp .add 3 t13_1 (.int .i64 1)) fun t60 =>
 L17 t60) fun J18 =>
 drw <|
 A0 PR (binOp .add 3 t13_1 (.int .i64 1)) fun t65 =>
 A0 PR (binOp .add 3 t13_1 (.int .i64 1)) fun t68 =>
 A0 PR (Instr.indexAt 35 t0 t68) fun t69 =>
 A6 PR (Instr.loadAt 3 t69) fun t70 =>
 A0 PR (Instr.indexAt 35 t0 t13_1) fun t73 =>
 A6 PR (Instr.loadAt 3 t73) fun t74 =>
 A0 PR (Instr.indexAt 35 t0 t13_1) fun t75 =>
 B6 PR X (Instr.storeAt 3 t75 t70) <|
 A0 PR (Instr.indexAt 35 t0 t65) fun t76 =>
 B6 PR X (Instr.storeAt 3 t76 t74) <|
 J18) fun J19 =>
 A0 PR (binOp .sub 3 t10 (.int .i64 1)) fun t57 =>
 A0 PR (binOp .lss 3 t13_1 t57) fun t58 =>
 B7 t58 (
 J19) (
 J16 t13_1)) t1) fun J20 =>
 lp (n := 2) (fun L21 t10_1 t11_1 =>
 jn (n := 0) (
 A0 PR (binOp .add 3 t10_1 t11_1) fun t36 =>
 A0 PR (convert 3 104 t36) fun t37 =>
 A0 PR (binOp .shr 104 t37 (.int .u64 1)) fun t38 =>
 A0 PR (convert 104 3 t38) fun t39 =>
 drw <|
 A0 PR (Instr.indexAt 35 t0 t39) fun t43 =>
 A6 PR (Instr.loadAt 3 t43) fun t44 =>
 A0 PR (Instr.indexAt 35 t0 t1) fun t47 =>
 A6 PR (Instr.loadAt 3 t47) fun t48 =>
 F4 PR X t4 [t44, t48] fun t49 =>
 A0 PR (binOp .lss 3 t49 (.int .i64 0)) fun t50 =>
 B7 t50 (
 A0 PR (binOp .add 3 t39 (.int .i64 1)) fun t52 =>
 L21 t52 t11_1) (
 L21 t10_1 t39)) fun J22 =>
 A0 PR (binOp .lss 3 t10_1 t11_1) fun t33 =>
 B7 t33 (
 J22) (
 J20 t10_1 t11_1)) t2 t3) (
 J15)
theorem N2 : A9 PR 41 := A7 Tryz.func41 (by kernel_rfl) rfl
theorem W8 {X : Nat → Prop} {t0 t1 t2 t3 t4 : Value} {R : Value → WP} {w : World} (h : N8 X t0 t1 t2 t3 t4 R w) : Fn PR X 41 #[t0, t1, t2, t3, t4] w R := C8 (args := [t0, t1, t2, t3, t4]) mixed Tryz.func41 (by kernel_rfl) h
def Z3 (X : Nat → Prop) (t0 t1 t2 t3 t4 : Value) (R : Value → WP) : WP :=
 A0 PR (binOp .sub 3 t2 t1) fun t14 =>
 A0 PR (binOp .sub 3 t3 t2) fun t17 =>
 jn (n := 2) (fun t10 t11 =>
 A0 PR (binOp .sub 3 t2 t10) fun t53 =>
 B8 PR X 69 [t0, t53, t2, t10, t4] fun t57 =>
 R (.tuple #[])) fun J1 =>
 lp (n := 2) (fun L2 t10_1 t11_1 =>
 jn (n := 0) (
 A0 PR (binOp .gtr 3 t10_1 t11_1) fun t23 =>
 B7 t23 (
 A0 PR (binOp .sub 3 t2 t10_1) fun t27 =>
 B8 PR X 69 [t0, t27, t2, t11_1, t4] fun t31 =>
 A0 PR (binOp .sub 3 t10_1 t11_1) fun t34 =>
 L2 t34 t11_1) (
 A0 PR (binOp .sub 3 t2 t10_1) fun t38 =>
 A0 PR (binOp .add 3 t2 t11_1) fun t41 =>
 A0 PR (binOp .sub 3 t41 t10_1) fun t43 =>
 B8 PR X 69 [t0, t38, t43, t10_1, t4] fun t46 =>
 A0 PR (binOp .sub 3 t11_1 t10_1) fun t49 =>
 L2 t10_1 t49)) fun J3 =>
 A0 PR (binOp .neq 3 t10_1 t11_1) fun t20 =>
 B7 t20 (
 J3) (
 J1 t10_1 t11_1)) t14 t17
theorem A0H : A9 PR 51 := A7 Tryz.func51 (by kernel_rfl) rfl
theorem A0m {X : Nat → Prop} {t0 t1 t2 t3 t4 : Value} {R : Value → WP} {w : World} (h : Z3 X t0 t1 t2 t3 t4 R w) : Fn PR X 51 #[t0, t1, t2, t3, t4] w R := C8 (args := [t0, t1, t2, t3, t4]) mixed Tryz.func51 (by kernel_rfl) h
def V9 (X : Nat → Prop) (t0 t1 t2 t3 t4 : Value) (R : Value → WP) : WP :=
 lp (n := 1) (fun L1 t10 =>
 jn (n := 0) (
 jn (n := 0) (
 A0 PR (binOp .add 3 t10 (.int .i64 1)) fun t15 =>
 L1 t15) fun J2 =>
 drw <|
 A0 PR (binOp .add 3 t1 t10) fun t19 =>
 A0 PR (binOp .add 3 t2 t10) fun t23 =>
 A0 PR (binOp .add 3 t2 t10) fun t27 =>
 A0 PR (Instr.indexAt 35 t0 t27) fun t28 =>
 A6 PR (Instr.loadAt 3 t28) fun t29 =>
 A0 PR (binOp .add 3 t1 t10) fun t33 =>
 A0 PR (Instr.indexAt 35 t0 t33) fun t34 =>
 A6 PR (Instr.loadAt 3 t34) fun t35 =>
 A0 PR (Instr.indexAt 35 t0 t19) fun t36 =>
 B6 PR X (Instr.storeAt 3 t36 t29) <|
 A0 PR (Instr.indexAt 35 t0 t23) fun t37 =>
 B6 PR X (Instr.storeAt 3 t37 t35) <|
 J2) fun J3 =>
 A0 PR (binOp .lss 3 t10 t3) fun t13 =>
 B7 t13 (
 J3) (
 R (.tuple #[]))) (.int .i64 0)
theorem N0 : A9 PR 69 := A7 Tryz.func69 (by kernel_rfl) rfl
theorem v7 {X : Nat → Prop} {t0 t1 t2 t3 t4 : Value} {R : Value → WP} {w : World} (h : V9 X t0 t1 t2 t3 t4 R w) : Fn PR X 69 #[t0, t1, t2, t3, t4] w R := C8 (args := [t0, t1, t2, t3, t4]) mixed Tryz.func69 (by kernel_rfl) h
def N5 (X : Nat → Prop) (t0 : Value) (R : Value → WP) : WP :=
 jn (n := 1) (fun t2 =>
 B1 PR X (Instr.buildSlice 50 0 #[]) fun t5 =>
 B1 PR X (A8 .append #[50, 50] 50 [t5, t0]) fun t7 =>
 R t7) fun J1 =>
 A6 PR (q5 .eql 50 (.tmp 3) (.const (.slice none 0 0)) t0 (.slice none 0 0)) fun t4 =>
 B7 t4 (
 R (.slice none 0 0)) (
 J1 (.slice none 0 0))
theorem Z6 : A9 PR 76 := A7 Tryz.func76 (by kernel_rfl) rfl
theorem d5 {X : Nat → Prop} {t0 : Value} {R : Value → WP} {w : World} (h : N5 X t0 R w) : Fn PR X 76 #[t0] w R := C8 (args := [t0]) mixed Tryz.func76 (by kernel_rfl) h
def Q0 (X : Nat → Prop) (t0 : Value) (R : Value → WP) : WP :=
 jn (n := 1) (fun t2 =>
 B1 PR X (Instr.buildSlice 79 0 #[]) fun t5 =>
 B1 PR X (A8 .append #[79, 79] 79 [t5, t0]) fun t7 =>
 R t7) fun J1 =>
 A6 PR (q5 .eql 79 (.tmp 3) (.const (.slice none 0 0)) t0 (.slice none 0 0)) fun t4 =>
 B7 t4 (
 R (.slice none 0 0)) (
 J1 (.slice none 0 0))
theorem P7 : A9 PR 103 := A7 Tryz.func103 (by kernel_rfl) rfl
theorem l6 {X : Nat → Prop} {t0 : Value} {R : Value → WP} {w : World} (h : Q0 X t0 R w) : Fn PR X 103 #[t0] w R := C8 (args := [t0]) mixed Tryz.func103 (by kernel_rfl) h
def Q8 (X : Nat → Prop) (t0 t1 : Value) (R : Value → WP) : WP :=
 B8 PR X 161 [t0, t1] fun t7 =>
 A0 PR (binOp .geq 3 t7 (.int .i64 0)) fun t8 =>
 R t8
theorem l0 : A9 PR 132 := A7 Tryz.func132 (by kernel_rfl) rfl
theorem n9 {X : Nat → Prop} {t0 t1 : Value} {R : Value → WP} {w : World} (h : Q8 X t0 t1 R w) : Fn PR X 132 #[t0, t1] w R := C8 (args := [t0, t1]) mixed Tryz.func132 (by kernel_rfl) h
def M2 (X : Nat → Prop) (t0 t1 : Value) (R : Value → WP) : WP :=
 jn (n := 2) (fun t4 t8 =>
 R (.int .i64 (-1))) fun J1 =>
 A0 PR (A8 .len #[50] 0 [t0]) fun t7 =>
 lp (n := 2) (fun L2 t4_1 t8_1 =>
 A0 PR (binOp .lss 3 t8_1 t7) fun t9 =>
 jn (n := 0) (
 jn (n := 1) (fun t4_2 =>
 A0 PR (binOp .add 3 t8_1 (.int .i64 1)) fun t18 =>
 L2 t4_2 t18) fun J3 =>
 A0 PR (Instr.indexAt 50 t0 t8_1) fun t14 =>
 A6 PR (Instr.loadAt 129 t14) fun t15 =>
 F4 PR X t1 [t15] fun t16 =>
 B7 t16 (
 R t8_1) (
 J3 t4_1)) fun J4 =>
 B7 t9 (
 J4) (
 J1 t4_1 t8_1)) (.int .i64 0) (.int .i64 0)
theorem W3 : A9 PR 154 := A7 Tryz.func154 (by kernel_rfl) rfl
theorem W9 {X : Nat → Prop} {t0 t1 : Value} {R : Value → WP} {w : World} (h : M2 X t0 t1 R w) : Fn PR X 154 #[t0, t1] w R := C8 (args := [t0, t1]) mixed Tryz.func154 (by kernel_rfl) h
def S4 (X : Nat → Prop) (t0 t1 : Value) (R : Value → WP) : WP :=
 B8 PR X 172 [t0] fun t7 =>
 B8 PR X 173 [t7, t1] fun t10 =>
 R t7
theorem n8 : A9 PR 157 := A7 Tryz.func157 (by kernel_rfl) rfl
theorem p7 {X : Nat → Prop} {t0 t1 : Value} {R : Value → WP} {w : World} (h : S4 X t0 t1 R w) : Fn PR X 157 #[t0, t1] w R := C8 (args := [t0, t1]) mixed Tryz.func157 (by kernel_rfl) h
def T4 (X : Nat → Prop) (t0 t1 : Value) (R : Value → WP) : WP :=
 jn (n := 2) (fun t4 t8 =>
 R (.int .i64 (-1))) fun J1 =>
 A0 PR (A8 .len #[207] 0 [t0]) fun t7 =>
 lp (n := 2) (fun L2 t4_1 t8_1 =>
 A0 PR (binOp .lss 3 t8_1 t7) fun t9 =>
 jn (n := 0) (
 jn (n := 1) (fun t4_2 =>
 A0 PR (binOp .add 3 t8_1 (.int .i64 1)) fun t18 =>
 L2 t4_2 t18) fun J3 =>
 A0 PR (Instr.indexAt 207 t0 t8_1) fun t14 =>
 A6 PR (Instr.loadAt 164 t14) fun t15 =>
 F4 PR X t1 [t15] fun t16 =>
 B7 t16 (
 R t8_1) (
 J3 t4_1)) fun J4 =>
 B7 t9 (
 J4) (
 J1 t4_1 t8_1)) (.int .i64 0) (.int .i64 0)
theorem q9 : A9 PR 161 := A7 Tryz.func161 (by kernel_rfl) rfl
theorem u6 {X : Nat → Prop} {t0 t1 : Value} {R : Value → WP} {w : World} (h : T4 X t0 t1 R w) : Fn PR X 161 #[t0, t1] w R := C8 (args := [t0, t1]) mixed Tryz.func161 (by kernel_rfl) h
def A3L (X : Nat → Prop) (t0 t1 : Value) (R : Value → WP) : WP :=
 jn (n := 2) (fun t5 t6 =>
 R t5) fun J1 =>
 lp (n := 2) (fun L2 t5_1 t6_1 =>
 jn (n := 0) (
 A0 PR (binOp .add 3 t5_1 t6_1) fun t14 =>
 A0 PR (convert 3 104 t14) fun t15 =>
 A0 PR (binOp .shr 104 t15 (.int .u64 1)) fun t16 =>
 A0 PR (convert 104 3 t16) fun t17 =>
 F4 PR X t1 [t17] fun t20 =>
 A0 PR (Op.unary .not t20) fun t21 =>
 B7 t21 (
 A0 PR (binOp .add 3 t17 (.int .i64 1)) fun t23 =>
 L2 t23 t6_1) (
 L2 t5_1 t17)) fun J3 =>
 A0 PR (binOp .lss 3 t5_1 t6_1) fun t11 =>
 B7 t11 (
 J3) (
 J1 t5_1 t6_1)) (.int .i64 0) t0
theorem A7u : A9 PR 170 := A7 Tryz.func170 (by kernel_rfl) rfl
theorem A9U {X : Nat → Prop} {t0 t1 : Value} {R : Value → WP} {w : World} (h : A3L X t0 t1 R w) : Fn PR X 170 #[t0, t1] w R := C8 (args := [t0, t1]) mixed Tryz.func170 (by kernel_rfl) h
def U8 (X : Nat → Prop) (t0 : Value) (R : Value → WP) : WP :=
 B8 PR X 179 [(.slice none 0 0), t0] fun t4 =>
 R t4
theorem u7 : A9 PR 172 := A7 Tryz.func172 (by kernel_rfl) rfl
theorem x4 {X : Nat → Prop} {t0 : Value} {R : Value → WP} {w : World} (h : U8 X t0 R w) : Fn PR X 172 #[t0] w R := C8 (args := [t0]) mixed Tryz.func172 (by kernel_rfl) h
theorem U9 : A9 PR 173 := A7 Tryz.func173 (by kernel_rfl) rfl
def A4d (X : Nat → Prop) (t0 : Value) (R : Value → WP) : WP :=
 jn (n := 2) (fun t2 t8 =>
 R (.int .i64 0)) fun J1 =>
 A0 PR (A8 .len #[35] 0 [t0]) fun t7 =>
 lp (n := 2) (fun L2 t2_1 t8_1 =>
 A0 PR (binOp .lss 3 t8_1 t7) fun t9 =>
 jn (n := 0) (
 jn (n := 1) (fun t2_2 =>
 A0 PR (binOp .add 3 t8_1 (.int .i64 1)) fun t16 =>
 L2 t2_2 t16) fun J3 =>
 A0 PR (Instr.indexAt 35 t0 t8_1) fun t10 =>
 A6 PR (Instr.loadAt 3 t10) fun t11 =>
 A0 PR (binOp .neq 3 t11 (.int .i64 0)) fun t14 =>
 B7 t14 (
 R t11) (
 J3 t2_1)) fun J4 =>
 B7 t9 (
 J4) (
 J1 t2_1 t8_1)) (.int .i64 0) (.int .i64 0)
theorem A9T : A9 PR 176 := A7 Tryz.func176 (by kernel_rfl) rfl
theorem B0V {X : Nat → Prop} {t0 : Value} {R : Value → WP} {w : World} (h : A4d X t0 R w) : Fn PR X 176 #[t0] w R := C8 (args := [t0]) mixed Tryz.func176 (by kernel_rfl) h
theorem B2g {X : Nat → Prop} {t0 : Value} {K : Value → WP} {w : World} (h : Fn PR X 176 #[t0] w K) : B8 PR X 176 [t0] K w := Or.inl ⟨A9T, h⟩
def r7 (X : Nat → Prop) (t0 t1 : Value) (R : Value → WP) : WP :=
 B8 PR X 182 [t0] fun t8 =>
 B8 PR X 182 [t1] fun t10 =>
 jn (n := 1) (fun t4 =>
 jn (n := 1) (fun t4_1 =>
 jn (n := 1) (fun t4_2 =>
 jn (n := 1) (fun t4_3 =>
 R (.int .i64 0)) fun J1 =>
 A0 PR (binOp .gtr 122 t0 t1) fun t19 =>
 B7 t19 (
 R (.int .i64 1)) (
 J1 t4_2)) fun J2 =>
 A0 PR (binOp .lss 122 t0 t1) fun t16 =>
 B7 t16 (
 R (.int .i64 (-1))) (
 J2 t4_1)) fun J3 =>
 B7 t10 (
 R (.int .i64 1)) (
 J3 t4)) fun J4 =>
 B7 t8 (
 jn (n := 1) (fun t4_4 =>
 R (.int .i64 (-1))) fun J5 =>
 B7 t10 (
 R (.int .i64 0)) (
 J5 (.int .i64 0))) (
 J4 (.int .i64 0))
theorem A2r : A9 PR 177 := A7 Tryz.func177 (by kernel_rfl) rfl
theorem A3C {X : Nat → Prop} {t0 t1 : Value} {R : Value → WP} {w : World} (h : r7 X t0 t1 R w) : Fn PR X 177 #[t0, t1] w R := C8 (args := [t0, t1]) mixed Tryz.func177 (by kernel_rfl) h
theorem A4D {X : Nat → Prop} {t0 t1 : Value} {K : Value → WP} {w : World} (h : Fn PR X 177 #[t0, t1] w K) : B8 PR X 177 [t0, t1] K w := Or.inl ⟨A2r, h⟩
def L0 (X : Nat → Prop) (t0 t1 : Value) (R : Value → WP) : WP :=
 B1 PR X (Instr.box 239 t0) fun t2 =>
 jn (n := 0) (
 A6 PR (Instr.loadAt 239 t2) fun t12 =>
 U2 (R t12)) fun J1 =>
 rng (N := 1) PR X (fun t7 K2 =>
 B1 PR (fun _ => False) (Instr.alloc 241 true (.tuple #[])) fun t5 =>
 B6 PR (fun _ => False) (Instr.storeAt 241 t5 t7) <|
 bgn <|
 A6 PR (Instr.loadAt 239 t2) fun t8 =>
 A6 PR (Instr.loadAt 241 t5) fun t9 =>
 B1 PR (fun _ => False) (Instr.buildSlice 239 1 #[(0, t9)]) fun t10 =>
 B1 PR (fun _ => False) (A8 .append #[239, 239] 239 [t8, t10]) fun t11 =>
 B6 PR (fun _ => False) (Instr.storeAt 239 t2 t11) <|
 K2 none) t1 (fun j => match j with | none => (J1) | some (.exit i) => (match Nat.beq i 0 with | true => (J1) | false => (E6)) | some .ret => (U2 (R (.slice none 0 0))) | some _ => E6)
theorem T8 : A9 PR 179 := A7 Tryz.func179 (by kernel_rfl) rfl
theorem V8 {X : Nat → Prop} {t0 t1 : Value} {R : Value → WP} {w : World} (h : L0 X t0 t1 R w) : Fn PR X 179 #[t0, t1] w R := C8 (args := [t0, t1]) mixed Tryz.func179 (by kernel_rfl) h
def A0B (X : Nat → Prop) (t0 : Value) (R : Value → WP) : WP :=
 A0 PR (binOp .neq 122 t0 t0) fun t5 =>
 R t5
theorem A31 : A9 PR 182 := A7 Tryz.func182 (by kernel_rfl) rfl
theorem A41 {X : Nat → Prop} {t0 : Value} {R : Value → WP} {w : World} (h : A0B X t0 R w) : Fn PR X 182 #[t0] w R := C8 (args := [t0]) mixed Tryz.func182 (by kernel_rfl) h
theorem A0g {X : Nat → Prop} {t0 : Value} {K : Value → WP} {w : World} (h : Fn PR X 182 #[t0] w K) : B8 PR X 182 [t0] K w := Or.inl ⟨A31, h⟩
theorem A00 : A9 PR 219 := A7 Tryz.func219 (by kernel_rfl) rfl
end Go.Proofs.YtlplkjgcfjdinaaGreat
namespace Go.Proofs.YtlplkjgcfjdinaaGreat
open Go
def A5P (X : Nat → Prop) (t0 t1 : Value) (R : Value → WP) : WP :=
 B1 PR X (Instr.box 122 t0) fun t2 =>
 jn (n := 1) (fun t4 =>
 B1 PR X (Instr.makeSlice 160 t1 t1) fun t15 =>
 B1 PR X (Instr.alloc 160 true (.tuple #[])) fun t5 =>
 B6 PR X (Instr.storeAt 160 t5 t15) <|
 jn (n := 0) (
 A6 PR (Instr.loadAt 160 t5) fun t27 =>
 A6 PR (convert 160 9 t27) fun t28 =>
 U2 (R t28)) fun J1 =>
 B8 PR X 122 [t1] fun t17 =>
 rng (N := 2) PR X (fun t18 t19 K2 =>
 bgn <|
 A6 PR (Instr.loadAt 160 t5) fun t20 =>
 A6 PR (Instr.loadAt 122 t2) fun t22 =>
 A0 PR (binOp .shr 122 t22 t19) fun t24 =>
 A0 PR (convert 122 5 t24) fun t25 =>
 A0 PR (Instr.indexAt 160 t20 t18) fun t26 =>
 B6 PR (fun _ => False) (Instr.storeAt 5 t26 t25) <|
 K2 none) t17 (fun j => match j with | none => (J1) | some (.exit i) => (match Nat.beq i 0 with | true => (J1) | false => (E6)) | some .ret => (U2 (R t4)) | some _ => E6)) fun J3 =>
 A0 PR (binOp .lss 3 t1 (.int .i64 1)) fun t9 =>
 gj t9 false (fun J => J t1) fun t11 =>
 gj t9 false (fun J => A0 PR (binOp .gtr 3 t11 (.int .i64 8)) J) fun t12 =>
 A0 PR (do pure (if ← asBool t9 then (.bool true) else t12)) fun t13 =>
 B7 t13 (
 U2 (R (.string (ByteArray.mk #[])))) (
 J3 (.string (ByteArray.mk #[])))
theorem G6 : A9 PR 95 := A7 Tryz.func95 (by kernel_rfl) rfl
theorem B1q {X : Nat → Prop} {t0 t1 : Value} {R : Value → WP} {w : World} (h : A5P X t0 t1 R w) : Fn PR X 95 #[t0, t1] w R := C8 (args := [t0, t1]) mixed Tryz.func95 (by kernel_rfl) h
def A5B (X : Nat → Prop) (t0 t1 t2 : Value) (R : Value → WP) : WP :=
 B1 PR X (Instr.box 9 t0) fun t3 =>
 B1 PR X (Instr.box 3 t1) fun t4 =>
 jn (n := 2) (fun t6 t7 =>
 B1 PR X (Instr.alloc 122 true (.tuple #[])) fun t8 =>
 jn (n := 0) (
 A6 PR (Instr.loadAt 122 t8) fun t43 =>
 U2 (R (.tuple #[t43, (.bool true)]))) fun J1 =>
 B8 PR X 122 [t2] fun t30 =>
 rng (N := 2) PR X (fun t31 t32 K2 =>
 bgn <|
 drw <|
 A6 PR (Instr.loadAt 122 t8) fun t33 =>
 A6 PR (Instr.loadAt 9 t3) fun t34 =>
 A6 PR (Instr.loadAt 3 t4) fun t35 =>
 A0 PR (binOp .add 3 t35 t31) fun t37 =>
 A0 PR (Instr.index 9 t34 t37) fun t38 =>
 A0 PR (convert 5 122 t38) fun t39 =>
 A0 PR (binOp .shl 122 t39 t32) fun t41 =>
 A0 PR (binOp .or 122 t33 t41) fun t42 =>
 B6 PR (fun _ => False) (Instr.storeAt 122 t8 t42) <|
 K2 none) t30 (fun j => match j with | none => (J1) | some (.exit i) => (match Nat.beq i 0 with | true => (J1) | false => (E6)) | some .ret => (U2 (R (.tuple #[t6, t7]))) | some _ => E6)) fun J3 =>
 A0 PR (binOp .lss 3 t2 (.int .i64 1)) fun t12 =>
 gj t12 false (fun J => J t2) fun t14 =>
 gj t12 false (fun J => A0 PR (binOp .gtr 3 t14 (.int .i64 8)) J) fun t15 =>
 A0 PR (do pure (if ← asBool t12 then (.bool true) else t15)) fun t16 =>
 gj t16 false (fun J => A6 PR (Instr.loadAt 3 t4) J) fun t18 =>
 gj t16 false (fun J => A0 PR (binOp .lss 3 t18 (.int .i64 0)) J) fun t19 =>
 A0 PR (do pure (if ← asBool t16 then (.bool true) else t19)) fun t20 =>
 gj t20 false (fun J => A6 PR (Instr.loadAt 3 t4) J) fun t22 =>
 gj t20 false (fun J => A6 PR (Instr.loadAt 9 t3) J) fun t23 =>
 gj t20 false (fun J => A0 PR (A8 .len #[9] 0 [t23]) J) fun t24 =>
 gj t20 false (fun J => J t2) fun t25 =>
 gj t20 false (fun J => A0 PR (binOp .sub 3 t24 t25) J) fun t26 =>
 gj t20 false (fun J => A0 PR (binOp .gtr 3 t22 t26) J) fun t27 =>
 A0 PR (do pure (if ← asBool t20 then (.bool true) else t27)) fun t28 =>
 B7 t28 (
 U2 (R (.tuple #[(.int .u64 0), (.bool false)]))) (
 J3 (.int .u64 0) (.bool false))
theorem N4 : A9 PR 120 := A7 Tryz.func120 (by kernel_rfl) rfl
theorem B1V {X : Nat → Prop} {t0 t1 t2 : Value} {R : Value → WP} {w : World} (h : A5B X t0 t1 t2 R w) : Fn PR X 120 #[t0, t1, t2] w R := C8 (args := [t0, t1, t2]) mixed Tryz.func120 (by kernel_rfl) h
def A3P (X : Nat → Prop) (t0 : Value) (R : Value → WP) : WP :=
 B1 PR X (Instr.box 3 t0) fun t1 =>
 A0 PR (Instr.makeFunc (.func 150) #[] #[t1]) fun t3 =>
 R t3
theorem A2Z : A9 PR 122 := A7 Tryz.func122 (by kernel_rfl) rfl
theorem A80 {X : Nat → Prop} {t0 : Value} {R : Value → WP} {w : World} (h : A3P X t0 R w) : Fn PR X 122 #[t0] w R := C8 (args := [t0]) mixed Tryz.func122 (by kernel_rfl) h
def A1K (X : Nat → Prop) (t0 t1 : Value) (R : Value → WP) : WP :=
 A6 PR (Instr.loadAt 3 t1) fun t4 =>
 lp (n := 1) (fun L1 t5 =>
 A0 PR (binOp .lss 3 t5 t4) fun t6 =>
 jn (n := 0) (
 jn (n := 0) (
 A0 PR (binOp .add 3 t5 (.int .i64 1)) fun t18 =>
 L1 t18) fun J2 =>
 A6 PR (Instr.loadAt 3 t1) fun t10 =>
 A0 PR (binOp .sub 3 t10 (.int .i64 1)) fun t11 =>
 A0 PR (binOp .sub 3 t11 t5) fun t13 =>
 A0 PR (binOp .mul 3 (.int .i64 8) t13) fun t14 =>
 A0 PR (convert 3 104 t14) fun t15 =>
 F4 PR X t0 [t5, t15] fun t16 =>
 A0 PR (Op.unary .not t16) fun t17 =>
 B7 t17 (
 R (.tuple #[])) (
 J2)) fun J3 =>
 B7 t6 (
 J3) (
 R (.tuple #[]))) (.int .i64 0)
theorem A58 : A9 PR 150 := A7 Tryz.func150 (by kernel_rfl) rfl
theorem A6Y {X : Nat → Prop} {t0 t1 : Value} {R : Value → WP} {w : World} (h : A1K X t0 t1 R w) : Fn PR X 150 #[t0, t1] w R := C8 (args := [t0, t1]) mixed Tryz.func150 (by kernel_rfl) h
theorem A6Q {X : Nat → Prop} {t0 t1 : Value} {K : Value → WP} {w : World} (h : Fn PR X 150 #[t0, t1] w K) : r6 PR X 150 [t0, t1] K w := ⟨A58, h⟩
end Go.Proofs.YtlplkjgcfjdinaaGreat
namespace Go.Proofs.YtlplkjgcfjdinaaGreat
open Go
theorem B4G : TI PR 106 Tryz.t106.desc 4 32 (.agg #[.nilFunc, .nilFunc, .nilFunc, .nilFunc]) := ⟨Tryz.underlying106, Tryz.t106, by kernel_rfl, rfl, rfl, rfl⟩
theorem A0S : TI PR 108 Tryz.t107.desc 6 64 (.agg #[(.int .i64 0), (.string (ByteArray.mk #[])), (.string (ByteArray.mk #[])), (.int .i64 0), (.int .i64 0), (.int .i64 0)]) := ⟨Tryz.underlying108, Tryz.t108, by kernel_rfl, rfl, rfl, rfl⟩
theorem A8H : TI PR 110 Tryz.t109.desc 7 72 (.agg #[(.int .i64 0), (.string (ByteArray.mk #[])), (.string (ByteArray.mk #[])), (.int .i64 0), (.int .i64 0), (.int .i64 0), (.int .i64 0)]) := ⟨Tryz.underlying110, Tryz.t110, by kernel_rfl, rfl, rfl, rfl⟩
theorem A0d : TI PR 119 Tryz.t118.desc 4 40 (.agg #[(.int .i64 0), (.string (ByteArray.mk #[])), (.int .i64 0), (.int .i64 0)]) := ⟨Tryz.underlying119, Tryz.t119, by kernel_rfl, rfl, rfl, rfl⟩
theorem A2m : TI PR 122 Tryz.t122.desc 1 8 (.int .u64 0) := ⟨Tryz.underlying122, Tryz.t122, by kernel_rfl, rfl, rfl, rfl⟩
theorem A8F : TI PR 129 Tryz.t128.desc 2 16 (.agg #[(.int .i64 0), (.int .i64 0)]) := ⟨Tryz.underlying129, Tryz.t129, by kernel_rfl, rfl, rfl, rfl⟩
theorem A38 : TI PR 153 Tryz.t139.desc 3 24 (.agg #[(.int .i64 0), (.int .i64 0), (.int .i64 0)]) := ⟨Tryz.underlying153, Tryz.t153, by kernel_rfl, rfl, rfl, rfl⟩
theorem B38 : TI PR 159 Tryz.t159.desc 38 38 (.agg #[(.int .u8 0), (.int .u8 0), (.int .u8 0), (.int .u8 0), (.int .u8 0), (.int .u8 0), (.int .u8 0), (.int .u8 0), (.int .u8 0), (.int .u8 0), (.int .u8 0), (.int .u8 0), (.int .u8 0), (.int .u8 0), (.int .u8 0), (.int .u8 0), (.int .u8 0), (.int .u8 0), (.int .u8 0), (.int .u8 0), (.int .u8 0), (.int .u8 0), (.int .u8 0), (.int .u8 0), (.int .u8 0), (.int .u8 0), (.int .u8 0), (.int .u8 0), (.int .u8 0), (.int .u8 0), (.int .u8 0), (.int .u8 0), (.int .u8 0), (.int .u8 0), (.int .u8 0), (.int .u8 0), (.int .u8 0), (.int .u8 0)]) := ⟨Tryz.underlying159, Tryz.t159, by kernel_rfl, rfl, rfl, rfl⟩
theorem A6E : TI PR 160 Tryz.t160.desc 1 24 (.slice none 0 0) := ⟨Tryz.underlying160, Tryz.t160, by kernel_rfl, rfl, rfl, rfl⟩
theorem C1A : TI PR 165 Tryz.t165.desc 1 8 .nilFunc := ⟨Tryz.underlying165, Tryz.t165, by kernel_rfl, rfl, rfl, rfl⟩
theorem A6D : TI PR 184 Tryz.t171.desc 3 40 (.agg #[(.string (ByteArray.mk #[])), (.string (ByteArray.mk #[])), (.int .i64 0)]) := ⟨Tryz.underlying184, Tryz.t184, by kernel_rfl, rfl, rfl, rfl⟩
theorem A6H : TI PR 188 Tryz.t171.desc 3 40 (.agg #[(.string (ByteArray.mk #[])), (.string (ByteArray.mk #[])), (.int .i64 0)]) := ⟨Tryz.underlying188, Tryz.t188, by kernel_rfl, rfl, rfl, rfl⟩
theorem B5C : TI PR 205 Tryz.t79.desc 1 24 (.slice none 0 0) := ⟨Tryz.underlying205, Tryz.t205, by kernel_rfl, rfl, rfl, rfl⟩
theorem A6G : TI PR 219 Tryz.t218.desc 2 16 (.agg #[.nilFunc, (.int .i64 0)]) := ⟨Tryz.underlying219, Tryz.t219, by kernel_rfl, rfl, rfl, rfl⟩
theorem C2K : TI PR 227 Tryz.t227.desc 1 8 .nilFunc := ⟨Tryz.underlying227, Tryz.t227, by kernel_rfl, rfl, rfl, rfl⟩
theorem B8G : TI PR 229 Tryz.t122.desc 1 8 (.int .u64 0) := ⟨Tryz.underlying229, Tryz.t229, by kernel_rfl, rfl, rfl, rfl⟩
theorem A5L : TI PR 23 Tryz.t22.desc 5 40 (.agg #[(.int .i64 0), (.int .i64 0), (.int .i64 0), (.int .i64 0), (.int .i64 0)]) := ⟨Tryz.underlying23, Tryz.t23, by kernel_rfl, rfl, rfl, rfl⟩
theorem A35 : TI PR 241 Tryz.t178.desc 2 16 (.agg #[(.int .u64 0), (.int .i64 0)]) := ⟨Tryz.underlying241, Tryz.t241, by kernel_rfl, rfl, rfl, rfl⟩
theorem F5 : TI PR 3 Tryz.t3.desc 1 8 (.int .i64 0) := ⟨Tryz.underlying3, Tryz.t3, by kernel_rfl, rfl, rfl, rfl⟩
theorem B3y : TI PR 42 Tryz.t3.desc 1 8 (.int .i64 0) := ⟨Tryz.underlying42, Tryz.t42, by kernel_rfl, rfl, rfl, rfl⟩
theorem A4b : TI PR 44 Tryz.t43.desc 4 32 (.agg #[(.int .i64 0), (.int .i64 0), (.bool false), (.int .i64 0)]) := ⟨Tryz.underlying44, Tryz.t44, by kernel_rfl, rfl, rfl, rfl⟩
theorem B4w : TI PR 46 Tryz.t45.desc 10 80 (.agg #[(.int .i64 0), (.int .i64 0), (.int .i64 0), (.int .i64 0), (.int .i64 0), (.int .i64 0), (.int .i64 0), (.int .i64 0), (.bool false), (.int .i64 0)]) := ⟨Tryz.underlying46, Tryz.t46, by kernel_rfl, rfl, rfl, rfl⟩
theorem A0L : TI PR 47 Tryz.t45.desc 10 80 (.agg #[(.int .i64 0), (.int .i64 0), (.int .i64 0), (.int .i64 0), (.int .i64 0), (.int .i64 0), (.int .i64 0), (.int .i64 0), (.bool false), (.int .i64 0)]) := ⟨Tryz.underlying47, Tryz.t47, by kernel_rfl, rfl, rfl, rfl⟩
theorem C4E : TI PR 57 Tryz.t57.desc 1 8 .nilFunc := ⟨Tryz.underlying57, Tryz.t57, by kernel_rfl, rfl, rfl, rfl⟩
theorem A9m : TI PR 79 Tryz.t79.desc 1 24 (.slice none 0 0) := ⟨Tryz.underlying79, Tryz.t79, by kernel_rfl, rfl, rfl, rfl⟩
theorem C4M : TI PR 85 Tryz.t85.desc 1 8 .nilFunc := ⟨Tryz.underlying85, Tryz.t85, by kernel_rfl, rfl, rfl, rfl⟩
theorem C2J : TI PR 147 Tryz.t147.desc 1 24 (.slice none 0 0) := ⟨Tryz.underlying147, Tryz.t147, by kernel_rfl, rfl, rfl, rfl⟩
theorem B1E : TI PR 179 Tryz.t178.desc 2 16 (.agg #[(.int .u64 0), (.int .i64 0)]) := ⟨Tryz.underlying179, Tryz.t179, by kernel_rfl, rfl, rfl, rfl⟩
theorem B8P : TI PR 221 Tryz.t221.desc 1 24 (.slice none 0 0) := ⟨Tryz.underlying221, Tryz.t221, by kernel_rfl, rfl, rfl, rfl⟩
theorem y9 : TI PR 9 Tryz.t9.desc 1 16 (.string (ByteArray.mk #[])) := ⟨Tryz.underlying9, Tryz.t9, by kernel_rfl, rfl, rfl, rfl⟩
theorem B08 : TI PR 239 Tryz.t239.desc 1 24 (.slice none 0 0) := ⟨Tryz.underlying239, Tryz.t239, by kernel_rfl, rfl, rfl, rfl⟩
theorem B40 : TI PR 32 Tryz.t32.desc 1 24 (.slice none 0 0) := ⟨Tryz.underlying32, Tryz.t32, by kernel_rfl, rfl, rfl, rfl⟩
theorem B4C : TI PR 35 Tryz.t35.desc 1 24 (.slice none 0 0) := ⟨Tryz.underlying35, Tryz.t35, by kernel_rfl, rfl, rfl, rfl⟩
theorem A7Q : TI PR 50 Tryz.t50.desc 1 24 (.slice none 0 0) := ⟨Tryz.underlying50, Tryz.t50, by kernel_rfl, rfl, rfl, rfl⟩
@[simp] theorem C2d  (K : Value → WP) : A0 PR (Instr.build 108 #[]) K = K (.agg #[(.int .i64 0), (.string (ByteArray.mk #[])), (.string (ByteArray.mk #[])), (.int .i64 0), (.int .i64 0), (.int .i64 0)]) := F2 (pl := #[(0, 1), (1, 1), (2, 1), (3, 1), (4, 1), (5, 1)]) A0S (fun w => by kernel_rfl) rfl
@[simp] theorem B7A {v0 v1 v2 v3 : Value} (h0 : v0.cells.size = 1) (h1 : v1.cells.size = 1) (h2 : v2.cells.size = 1) (h3 : v3.cells.size = 1) (K : Value → WP) : A0 PR (Instr.build 108 #[(0, v0), (1, v1), (2, v2), (5, v3)]) K = K (.agg (D6 (D6 (D6 (D6 #[(.int .i64 0), (.string (ByteArray.mk #[])), (.string (ByteArray.mk #[])), (.int .i64 0), (.int .i64 0), (.int .i64 0)] 0 v0.cells.toList) 1 v1.cells.toList) 2 v2.cells.toList) 5 v3.cells.toList)) := F2 (pl := #[(0, 1), (1, 1), (2, 1), (3, 1), (4, 1), (5, 1)]) A0S (fun w => by kernel_rfl) (by rw [B3 rfl h0 (by simp [C0]), B3 rfl h1 (by simp [C0]), B3 rfl h2 (by simp [C0]), B3 rfl h3 (by simp [C0])]; rfl)
@[simp] theorem C3V  (K : Value → WP) : A0 PR (Instr.build 110 #[]) K = K (.agg #[(.int .i64 0), (.string (ByteArray.mk #[])), (.string (ByteArray.mk #[])), (.int .i64 0), (.int .i64 0), (.int .i64 0), (.int .i64 0)]) := F2 (pl := #[(0, 6), (6, 1)]) A8H (fun w => by kernel_rfl) rfl
@[simp] theorem C0s {v0 v1 : Value} (h0 : v0.cells.size = 6) (h1 : v1.cells.size = 1) (K : Value → WP) : A0 PR (Instr.build 110 #[(0, v0), (1, v1)]) K = K (.agg (D6 (D6 #[(.int .i64 0), (.string (ByteArray.mk #[])), (.string (ByteArray.mk #[])), (.int .i64 0), (.int .i64 0), (.int .i64 0), (.int .i64 0)] 0 v0.cells.toList) 6 v1.cells.toList)) := F2 (pl := #[(0, 6), (6, 1)]) A8H (fun w => by kernel_rfl) (by rw [B3 rfl h0 (by simp [C0]), B3 rfl h1 (by simp [C0])]; rfl)
@[simp] theorem B7s {v0 v1 v2 v3 : Value} (h0 : v0.cells.size = 1) (h1 : v1.cells.size = 1) (h2 : v2.cells.size = 1) (h3 : v3.cells.size = 1) (K : Value → WP) : A0 PR (Instr.build 119 #[(0, v0), (1, v1), (2, v2), (3, v3)]) K = K (.agg (D6 (D6 (D6 (D6 #[(.int .i64 0), (.string (ByteArray.mk #[])), (.int .i64 0), (.int .i64 0)] 0 v0.cells.toList) 1 v1.cells.toList) 2 v2.cells.toList) 3 v3.cells.toList)) := F2 (pl := #[(0, 1), (1, 1), (2, 1), (3, 1)]) A0d (fun w => by kernel_rfl) (by rw [B3 rfl h0 (by simp [C0]), B3 rfl h1 (by simp [C0]), B3 rfl h2 (by simp [C0]), B3 rfl h3 (by simp [C0])]; rfl)
@[simp] theorem C2T {v0 : Value} (h0 : v0.cells.size = 1) (K : Value → WP) : A0 PR (Instr.build 119 #[(0, v0)]) K = K (.agg (D6 #[(.int .i64 0), (.string (ByteArray.mk #[])), (.int .i64 0), (.int .i64 0)] 0 v0.cells.toList)) := F2 (pl := #[(0, 1), (1, 1), (2, 1), (3, 1)]) A0d (fun w => by kernel_rfl) (by rw [B3 rfl h0 (by simp [C0])]; rfl)
@[simp] theorem C26  (K : Value → WP) : A0 PR (Instr.build 153 #[]) K = K (.agg #[(.int .i64 0), (.int .i64 0), (.int .i64 0)]) := F2 (pl := #[(0, 1), (1, 1), (2, 1)]) A38 (fun w => by kernel_rfl) rfl
@[simp] theorem B9y {v0 v1 : Value} (h0 : v0.cells.size = 1) (h1 : v1.cells.size = 1) (K : Value → WP) : A0 PR (Instr.build 153 #[(0, v0), (1, v1)]) K = K (.agg (D6 (D6 #[(.int .i64 0), (.int .i64 0), (.int .i64 0)] 0 v0.cells.toList) 1 v1.cells.toList)) := F2 (pl := #[(0, 1), (1, 1), (2, 1)]) A38 (fun w => by kernel_rfl) (by rw [B3 rfl h0 (by simp [C0]), B3 rfl h1 (by simp [C0])]; rfl)
@[simp] theorem B8g {v0 v1 v2 : Value} (h0 : v0.cells.size = 1) (h1 : v1.cells.size = 1) (h2 : v2.cells.size = 1) (K : Value → WP) : A0 PR (Instr.build 153 #[(0, v0), (1, v1), (2, v2)]) K = K (.agg (D6 (D6 (D6 #[(.int .i64 0), (.int .i64 0), (.int .i64 0)] 0 v0.cells.toList) 1 v1.cells.toList) 2 v2.cells.toList)) := F2 (pl := #[(0, 1), (1, 1), (2, 1)]) A38 (fun w => by kernel_rfl) (by rw [B3 rfl h0 (by simp [C0]), B3 rfl h1 (by simp [C0]), B3 rfl h2 (by simp [C0])]; rfl)
theorem A8d : TI PR 164 Tryz.t164.desc 2 16 (.agg #[(.int .i64 0), (.int .i64 0)]) := ⟨Tryz.underlying164, Tryz.t164, by kernel_rfl, rfl, rfl, rfl⟩
@[simp] theorem C3P  (K : Value → WP) : A0 PR (Instr.build 184 #[]) K = K (.agg #[(.string (ByteArray.mk #[])), (.string (ByteArray.mk #[])), (.int .i64 0)]) := F2 (pl := #[(0, 1), (1, 1), (2, 1)]) A6D (fun w => by kernel_rfl) rfl
@[simp] theorem B8c {v0 v1 v2 : Value} (h0 : v0.cells.size = 1) (h1 : v1.cells.size = 1) (h2 : v2.cells.size = 1) (K : Value → WP) : A0 PR (Instr.build 184 #[(0, v0), (1, v1), (2, v2)]) K = K (.agg (D6 (D6 (D6 #[(.string (ByteArray.mk #[])), (.string (ByteArray.mk #[])), (.int .i64 0)] 0 v0.cells.toList) 1 v1.cells.toList) 2 v2.cells.toList)) := F2 (pl := #[(0, 1), (1, 1), (2, 1)]) A6D (fun w => by kernel_rfl) (by rw [B3 rfl h0 (by simp [C0]), B3 rfl h1 (by simp [C0]), B3 rfl h2 (by simp [C0])]; rfl)
@[simp] theorem C3q  (K : Value → WP) : A0 PR (Instr.build 188 #[]) K = K (.agg #[(.string (ByteArray.mk #[])), (.string (ByteArray.mk #[])), (.int .i64 0)]) := F2 (pl := #[(0, 1), (1, 1), (2, 1)]) A6H (fun w => by kernel_rfl) rfl
@[simp] theorem B87 {v0 v1 v2 : Value} (h0 : v0.cells.size = 1) (h1 : v1.cells.size = 1) (h2 : v2.cells.size = 1) (K : Value → WP) : A0 PR (Instr.build 188 #[(0, v0), (1, v1), (2, v2)]) K = K (.agg (D6 (D6 (D6 #[(.string (ByteArray.mk #[])), (.string (ByteArray.mk #[])), (.int .i64 0)] 0 v0.cells.toList) 1 v1.cells.toList) 2 v2.cells.toList)) := F2 (pl := #[(0, 1), (1, 1), (2, 1)]) A6H (fun w => by kernel_rfl) (by rw [B3 rfl h0 (by simp [C0]), B3 rfl h1 (by simp [C0]), B3 rfl h2 (by simp [C0])]; rfl)
@[simp] theorem C0g {v0 v1 : Value} (h0 : v0.cells.size = 1) (h1 : v1.cells.size = 1) (K : Value → WP) : A0 PR (Instr.build 219 #[(0, v0), (1, v1)]) K = K (.agg (D6 (D6 #[.nilFunc, (.int .i64 0)] 0 v0.cells.toList) 1 v1.cells.toList)) := F2 (pl := #[(0, 1), (1, 1)]) A6G (fun w => by kernel_rfl) (by rw [B3 rfl h0 (by simp [C0]), B3 rfl h1 (by simp [C0])]; rfl)
theorem B8S : TI PR 224 Tryz.t223.desc 0 0 (.agg #[]) := ⟨Tryz.underlying224, Tryz.t224, by kernel_rfl, rfl, rfl, rfl⟩
@[simp] theorem C3K  (K : Value → WP) : A0 PR (Instr.build 224 #[]) K = K (.agg #[]) := F2 (pl := #[]) B8S (fun w => by kernel_rfl) rfl
theorem B8T : TI PR 225 Tryz.t223.desc 0 0 (.agg #[]) := ⟨Tryz.underlying225, Tryz.t225, by kernel_rfl, rfl, rfl, rfl⟩
@[simp] theorem C29  (K : Value → WP) : A0 PR (Instr.build 225 #[]) K = K (.agg #[]) := F2 (pl := #[]) B8T (fun w => by kernel_rfl) rfl
@[simp] theorem B6r {v0 v1 v2 v3 v4 : Value} (h0 : v0.cells.size = 1) (h1 : v1.cells.size = 1) (h2 : v2.cells.size = 1) (h3 : v3.cells.size = 1) (h4 : v4.cells.size = 1) (K : Value → WP) : A0 PR (Instr.build 23 #[(0, v0), (1, v1), (2, v2), (3, v3), (4, v4)]) K = K (.agg (D6 (D6 (D6 (D6 (D6 #[(.int .i64 0), (.int .i64 0), (.int .i64 0), (.int .i64 0), (.int .i64 0)] 0 v0.cells.toList) 1 v1.cells.toList) 2 v2.cells.toList) 3 v3.cells.toList) 4 v4.cells.toList)) := F2 (pl := #[(0, 1), (1, 1), (2, 1), (3, 1), (4, 1)]) A5L (fun w => by kernel_rfl) (by rw [B3 rfl h0 (by simp [C0]), B3 rfl h1 (by simp [C0]), B3 rfl h2 (by simp [C0]), B3 rfl h3 (by simp [C0]), B3 rfl h4 (by simp [C0])]; rfl)
@[simp] theorem C0L {v0 v1 : Value} (h0 : v0.cells.size = 1) (h1 : v1.cells.size = 1) (K : Value → WP) : A0 PR (Instr.build 241 #[(0, v0), (1, v1)]) K = K (.agg (D6 (D6 #[(.int .u64 0), (.int .i64 0)] 0 v0.cells.toList) 1 v1.cells.toList)) := F2 (pl := #[(0, 1), (1, 1)]) A35 (fun w => by kernel_rfl) (by rw [B3 rfl h0 (by simp [C0]), B3 rfl h1 (by simp [C0])]; rfl)
@[simp] theorem C33  (K : Value → WP) : A0 PR (Instr.build 44 #[]) K = K (.agg #[(.int .i64 0), (.int .i64 0), (.bool false), (.int .i64 0)]) := F2 (pl := #[(0, 1), (1, 1), (2, 1), (3, 1)]) A4b (fun w => by kernel_rfl) rfl
@[simp] theorem C3k {v0 : Value} (h0 : v0.cells.size = 1) (K : Value → WP) : A0 PR (Instr.build 44 #[(0, v0)]) K = K (.agg (D6 #[(.int .i64 0), (.int .i64 0), (.bool false), (.int .i64 0)] 0 v0.cells.toList)) := F2 (pl := #[(0, 1), (1, 1), (2, 1), (3, 1)]) A4b (fun w => by kernel_rfl) (by rw [B3 rfl h0 (by simp [C0])]; rfl)
@[simp] theorem C0y {v0 v1 : Value} (h0 : v0.cells.size = 1) (h1 : v1.cells.size = 1) (K : Value → WP) : A0 PR (Instr.build 44 #[(1, v0), (2, v1)]) K = K (.agg (D6 (D6 #[(.int .i64 0), (.int .i64 0), (.bool false), (.int .i64 0)] 1 v0.cells.toList) 2 v1.cells.toList)) := F2 (pl := #[(0, 1), (1, 1), (2, 1), (3, 1)]) A4b (fun w => by kernel_rfl) (by rw [B3 rfl h0 (by simp [C0]), B3 rfl h1 (by simp [C0])]; rfl)
@[simp] theorem C3m {v0 : Value} (h0 : v0.cells.size = 1) (K : Value → WP) : A0 PR (Instr.build 44 #[(1, v0)]) K = K (.agg (D6 #[(.int .i64 0), (.int .i64 0), (.bool false), (.int .i64 0)] 1 v0.cells.toList)) := F2 (pl := #[(0, 1), (1, 1), (2, 1), (3, 1)]) A4b (fun w => by kernel_rfl) (by rw [B3 rfl h0 (by simp [C0])]; rfl)
@[simp] theorem B9f {v0 v1 v2 : Value} (h0 : v0.cells.size = 1) (h1 : v1.cells.size = 1) (h2 : v2.cells.size = 1) (K : Value → WP) : A0 PR (Instr.build 47 #[(2, v0), (3, v1), (4, v2)]) K = K (.agg (D6 (D6 (D6 #[(.int .i64 0), (.int .i64 0), (.int .i64 0), (.int .i64 0), (.int .i64 0), (.int .i64 0), (.int .i64 0), (.int .i64 0), (.bool false), (.int .i64 0)] 2 v0.cells.toList) 3 v1.cells.toList) 4 v2.cells.toList)) := F2 (pl := #[(0, 1), (1, 1), (2, 1), (3, 1), (4, 1), (5, 1), (6, 4)]) A0L (fun w => by kernel_rfl) (by rw [B3 rfl h0 (by simp [C0]), B3 rfl h1 (by simp [C0]), B3 rfl h2 (by simp [C0])]; rfl)
@[simp] theorem B8Y {v0 v1 v2 v3 : Value} (h0 : v0.cells.size = 1) (h1 : v1.cells.size = 1) (h2 : v2.cells.size = 1) (h3 : v3.cells.size = 4) (K : Value → WP) : A0 PR (Instr.build 47 #[(2, v0), (3, v1), (4, v2), (6, v3)]) K = K (.agg (D6 (D6 (D6 (D6 #[(.int .i64 0), (.int .i64 0), (.int .i64 0), (.int .i64 0), (.int .i64 0), (.int .i64 0), (.int .i64 0), (.int .i64 0), (.bool false), (.int .i64 0)] 2 v0.cells.toList) 3 v1.cells.toList) 4 v2.cells.toList) 6 v3.cells.toList)) := F2 (pl := #[(0, 1), (1, 1), (2, 1), (3, 1), (4, 1), (5, 1), (6, 4)]) A0L (fun w => by kernel_rfl) (by rw [B3 rfl h0 (by simp [C0]), B3 rfl h1 (by simp [C0]), B3 rfl h2 (by simp [C0]), B3 rfl h3 (by simp [C0])]; rfl)
@[simp] theorem C0w {v0 v1 : Value} (h0 : v0.cells.size = 1) (h1 : v1.cells.size = 1) (K : Value → WP) : A0 PR (Instr.build 47 #[(3, v0), (4, v1)]) K = K (.agg (D6 (D6 #[(.int .i64 0), (.int .i64 0), (.int .i64 0), (.int .i64 0), (.int .i64 0), (.int .i64 0), (.int .i64 0), (.int .i64 0), (.bool false), (.int .i64 0)] 3 v0.cells.toList) 4 v1.cells.toList)) := F2 (pl := #[(0, 1), (1, 1), (2, 1), (3, 1), (4, 1), (5, 1), (6, 4)]) A0L (fun w => by kernel_rfl) (by rw [B3 rfl h0 (by simp [C0]), B3 rfl h1 (by simp [C0])]; rfl)
theorem A5Z : TI PR 52 Tryz.t51.desc 4 56 (.agg #[(.int .i64 0), (.string (ByteArray.mk #[])), (.slice none 0 0), (.int .i64 0)]) := ⟨Tryz.underlying52, Tryz.t52, by kernel_rfl, rfl, rfl, rfl⟩
@[simp] theorem C25 {v0 : Value} (h0 : v0.cells.size = 1) (K : Value → WP) : A0 PR (Instr.build 52 #[(0, v0)]) K = K (.agg (D6 #[(.int .i64 0), (.string (ByteArray.mk #[])), (.slice none 0 0), (.int .i64 0)] 0 v0.cells.toList)) := F2 (pl := #[(0, 1), (1, 1), (2, 1), (3, 1)]) A5Z (fun w => by kernel_rfl) (by rw [B3 rfl h0 (by simp [C0])]; rfl)
theorem B4V : TI PR 78 Tryz.t77.desc 7 88 (.agg #[(.int .i64 0), (.int .i64 0), (.int .i64 0), (.int .i64 0), (.int .i64 0), (.slice none 0 0), (.slice none 0 0)]) := ⟨Tryz.underlying78, Tryz.t78, by kernel_rfl, rfl, rfl, rfl⟩
@[simp] theorem C01 {v0 v1 : Value} (h0 : v0.cells.size = 5) (h1 : v1.cells.size = 1) (K : Value → WP) : A0 PR (Instr.build 78 #[(0, v0), (2, v1)]) K = K (.agg (D6 (D6 #[(.int .i64 0), (.int .i64 0), (.int .i64 0), (.int .i64 0), (.int .i64 0), (.slice none 0 0), (.slice none 0 0)] 0 v0.cells.toList) 6 v1.cells.toList)) := F2 (pl := #[(0, 5), (5, 1), (6, 1)]) B4V (fun w => by kernel_rfl) (by rw [B3 rfl h0 (by simp [C0]), B3 rfl h1 (by simp [C0])]; rfl)
theorem ty5 : TI PR 5 Tryz.t5.desc 1 1 (.int .u8 0) := ⟨Tryz.underlying5, Tryz.t5, by kernel_rfl, rfl, rfl, rfl⟩
theorem B4S : TI PR 207 Tryz.t207.desc 1 24 (.slice none 0 0) := ⟨Tryz.underlying207, Tryz.t207, by kernel_rfl, rfl, rfl, rfl⟩
theorem B4J : TI PR 24 Tryz.t24.desc 1 24 (.slice none 0 0) := ⟨Tryz.underlying24, Tryz.t24, by kernel_rfl, rfl, rfl, rfl⟩
theorem A9H : TI PR 53 Tryz.t53.desc 1 24 (.slice none 0 0) := ⟨Tryz.underlying53, Tryz.t53, by kernel_rfl, rfl, rfl, rfl⟩
theorem B4N : TI PR 251 Tryz.t251.desc 1 24 (.slice none 0 0) := ⟨Tryz.underlying251, Tryz.t251, by kernel_rfl, rfl, rfl, rfl⟩
theorem B8M : TI PR 104 Tryz.t104.desc 1 8 (.int .u64 0) := ⟨Tryz.underlying104, Tryz.t104, by kernel_rfl, rfl, rfl, rfl⟩
@[simp] theorem C1M {k : IntKind} (a : Int) (K : Value → WP) : A0 PR (convert 104 3 (.int k a)) K = K (.int .i64 (IntKind.i64.wrap a)) := A07 F5 B8M
@[simp] theorem C1y {k : IntKind} (a : Int) (K : Value → WP) : A0 PR (convert 122 3 (.int k a)) K = K (.int .i64 (IntKind.i64.wrap a)) := A07 F5 A2m
@[simp] theorem C2N {k : IntKind} (a : Int) (K : Value → WP) : A0 PR (convert 122 5 (.int k a)) K = K (.int .u8 (IntKind.u8.wrap a)) := A07 ty5 A2m
theorem B2r {K : Value → WP} {w : World} {b o cap : Nat} {ns : List Int} (hr : G9 w b o (ns.map (Value.int .u8))) : A6 PR (convert 160 9 (.slice (some ⟨b, o, none⟩) ns.length cap)) K w = K (.string (A1Z ns)) w := C1m A6E ty5 y9 hr
@[simp] theorem C2A {k : IntKind} (a : Int) (K : Value → WP) : A0 PR (convert 3 104 (.int k a)) K = K (.int .u64 (IntKind.u64.wrap a)) := A07 B8M F5
@[simp] theorem C07 {k : IntKind} (a : Int) (K : Value → WP) : A0 PR (convert 3 122 (.int k a)) K = K (.int .u64 (IntKind.u64.wrap a)) := A07 A2m F5
@[simp] theorem C15 {k : IntKind} (a : Int) (K : Value → WP) : A0 PR (convert 5 122 (.int k a)) K = K (.int .u64 (IntKind.u64.wrap a)) := A07 A2m ty5
@[simp] theorem C1V {k : IntKind} (a : Int) (K : Value → WP) : A0 PR (convert 5 229 (.int k a)) K = K (.int .u64 (IntKind.u64.wrap a)) := A07 B8G ty5
@[simp] theorem C38 {k : IntKind} (a : Int) (K : Value → WP) : A0 PR (convert 5 3 (.int k a)) K = K (.int .i64 (IntKind.i64.wrap a)) := A07 F5 ty5
theorem ty4 : TI PR 4 Tryz.t4.desc 1 1 (.bool false) := ⟨Tryz.underlying4, Tryz.t4, by kernel_rfl, rfl, rfl, rfl⟩
@[simp] theorem B7L (a0 b0 : Int) (a1 b1 : Int) (a2 b2 : Bool) (a3 b3 : Int) (x y : Operand) (K : Value → WP) (w : World) : A6 PR (q5 .eql 44 x y (.agg #[.int .i64 a0, .int .i64 a1, .bool a2, .int .i64 a3]) (.agg #[.int .i64 b0, .int .i64 b1, .bool b2, .int .i64 b3])) K w = K (.bool (decide (a0 = b0) && (decide (a1 = b1) && ((a2 == b2) && (decide (a3 = b3) && true))))) w := C1f (by kernel_rfl) (B37 (e := 9999) A4b (by kernel_rfl) (A4G rfl B3y rfl rfl rfl (A8r (e := 9998) B3y) (A4G rfl F5 rfl rfl rfl (A8r (e := 9998) F5) (A4G rfl ty4 rfl rfl rfl (B6z (e := 9998) ty4) (A4G rfl F5 rfl rfl rfl (A8r (e := 9998) F5) (B8v))))))
@[simp] theorem C12 (b o : Nat) (K : Value → WP) : A0 PR (Instr.fieldAt 108 (.pointer (some ⟨b, o, none⟩)) 0) K = K (.pointer (some ⟨b, o, none⟩)) := B4 (i := 0) A0S rfl ⟨_, _, _, _, F5⟩ b o
@[simp] theorem C1T (b o : Nat) (K : Value → WP) : A0 PR (Instr.fieldAt 108 (.pointer (some ⟨b, o, none⟩)) 1) K = K (.pointer (some ⟨b, o + 1, none⟩)) := B4 (i := 1) A0S rfl ⟨_, _, _, _, y9⟩ b o
@[simp] theorem C2F (b o : Nat) (K : Value → WP) : A0 PR (Instr.fieldAt 108 (.pointer (some ⟨b, o, none⟩)) 2) K = K (.pointer (some ⟨b, o + 2, none⟩)) := B4 (i := 2) A0S rfl ⟨_, _, _, _, y9⟩ b o
@[simp] theorem C1c (b o : Nat) (K : Value → WP) : A0 PR (Instr.fieldAt 108 (.pointer (some ⟨b, o, none⟩)) 3) K = K (.pointer (some ⟨b, o + 3, none⟩)) := B4 (i := 3) A0S rfl ⟨_, _, _, _, F5⟩ b o
@[simp] theorem C1b (b o : Nat) (K : Value → WP) : A0 PR (Instr.fieldAt 108 (.pointer (some ⟨b, o, none⟩)) 4) K = K (.pointer (some ⟨b, o + 4, none⟩)) := B4 (i := 4) A0S rfl ⟨_, _, _, _, F5⟩ b o
@[simp] theorem C1Y (b o : Nat) (K : Value → WP) : A0 PR (Instr.fieldAt 108 (.pointer (some ⟨b, o, none⟩)) 5) K = K (.pointer (some ⟨b, o + 5, none⟩)) := B4 (i := 5) A0S rfl ⟨_, _, _, _, F5⟩ b o
@[simp] theorem C1G (b o : Nat) (K : Value → WP) : A0 PR (Instr.fieldAt 110 (.pointer (some ⟨b, o, none⟩)) 0) K = K (.pointer (some ⟨b, o, none⟩)) := B4 (i := 0) A8H rfl ⟨_, _, _, _, A0S⟩ b o
@[simp] theorem C1N (b o : Nat) (K : Value → WP) : A0 PR (Instr.fieldAt 110 (.pointer (some ⟨b, o, none⟩)) 1) K = K (.pointer (some ⟨b, o + 6, none⟩)) := B4 (i := 1) A8H rfl ⟨_, _, _, _, F5⟩ b o
@[simp] theorem C1Z (b o : Nat) (K : Value → WP) : A0 PR (Instr.fieldAt 119 (.pointer (some ⟨b, o, none⟩)) 0) K = K (.pointer (some ⟨b, o, none⟩)) := B4 (i := 0) A0d rfl ⟨_, _, _, _, F5⟩ b o
@[simp] theorem C2U (b o : Nat) (K : Value → WP) : A0 PR (Instr.fieldAt 119 (.pointer (some ⟨b, o, none⟩)) 1) K = K (.pointer (some ⟨b, o + 1, none⟩)) := B4 (i := 1) A0d rfl ⟨_, _, _, _, y9⟩ b o
@[simp] theorem C16 (b o : Nat) (K : Value → WP) : A0 PR (Instr.fieldAt 119 (.pointer (some ⟨b, o, none⟩)) 2) K = K (.pointer (some ⟨b, o + 2, none⟩)) := B4 (i := 2) A0d rfl ⟨_, _, _, _, F5⟩ b o
@[simp] theorem C1d (b o : Nat) (K : Value → WP) : A0 PR (Instr.fieldAt 119 (.pointer (some ⟨b, o, none⟩)) 3) K = K (.pointer (some ⟨b, o + 3, none⟩)) := B4 (i := 3) A0d rfl ⟨_, _, _, _, F5⟩ b o
@[simp] theorem C1j (b o : Nat) (K : Value → WP) : A0 PR (Instr.fieldAt 129 (.pointer (some ⟨b, o, none⟩)) 0) K = K (.pointer (some ⟨b, o, none⟩)) := B4 (i := 0) A8F rfl ⟨_, _, _, _, F5⟩ b o
@[simp] theorem C11 (b o : Nat) (K : Value → WP) : A0 PR (Instr.fieldAt 129 (.pointer (some ⟨b, o, none⟩)) 1) K = K (.pointer (some ⟨b, o + 1, none⟩)) := B4 (i := 1) A8F rfl ⟨_, _, _, _, F5⟩ b o
@[simp] theorem C13 (b o : Nat) (K : Value → WP) : A0 PR (Instr.fieldAt 153 (.pointer (some ⟨b, o, none⟩)) 0) K = K (.pointer (some ⟨b, o, none⟩)) := B4 (i := 0) A38 rfl ⟨_, _, _, _, F5⟩ b o
@[simp] theorem C2V (b o : Nat) (K : Value → WP) : A0 PR (Instr.fieldAt 153 (.pointer (some ⟨b, o, none⟩)) 1) K = K (.pointer (some ⟨b, o + 1, none⟩)) := B4 (i := 1) A38 rfl ⟨_, _, _, _, F5⟩ b o
@[simp] theorem C2B (b o : Nat) (K : Value → WP) : A0 PR (Instr.fieldAt 153 (.pointer (some ⟨b, o, none⟩)) 2) K = K (.pointer (some ⟨b, o + 2, none⟩)) := B4 (i := 2) A38 rfl ⟨_, _, _, _, F5⟩ b o
@[simp] theorem C1q (b o : Nat) (K : Value → WP) : A0 PR (Instr.fieldAt 179 (.pointer (some ⟨b, o, none⟩)) 0) K = K (.pointer (some ⟨b, o, none⟩)) := B4 (i := 0) B1E rfl ⟨_, _, _, _, A2m⟩ b o
@[simp] theorem C1J (b o : Nat) (K : Value → WP) : A0 PR (Instr.fieldAt 179 (.pointer (some ⟨b, o, none⟩)) 1) K = K (.pointer (some ⟨b, o + 1, none⟩)) := B4 (i := 1) B1E rfl ⟨_, _, _, _, F5⟩ b o
@[simp] theorem C2S (b o : Nat) (K : Value → WP) : A0 PR (Instr.fieldAt 184 (.pointer (some ⟨b, o, none⟩)) 0) K = K (.pointer (some ⟨b, o, none⟩)) := B4 (i := 0) A6D rfl ⟨_, _, _, _, y9⟩ b o
@[simp] theorem C10 (b o : Nat) (K : Value → WP) : A0 PR (Instr.fieldAt 184 (.pointer (some ⟨b, o, none⟩)) 1) K = K (.pointer (some ⟨b, o + 1, none⟩)) := B4 (i := 1) A6D rfl ⟨_, _, _, _, y9⟩ b o
@[simp] theorem C1C (b o : Nat) (K : Value → WP) : A0 PR (Instr.fieldAt 184 (.pointer (some ⟨b, o, none⟩)) 2) K = K (.pointer (some ⟨b, o + 2, none⟩)) := B4 (i := 2) A6D rfl ⟨_, _, _, _, F5⟩ b o
@[simp] theorem C2M (b o : Nat) (K : Value → WP) : A0 PR (Instr.fieldAt 188 (.pointer (some ⟨b, o, none⟩)) 0) K = K (.pointer (some ⟨b, o, none⟩)) := B4 (i := 0) A6H rfl ⟨_, _, _, _, y9⟩ b o
@[simp] theorem C1g (b o : Nat) (K : Value → WP) : A0 PR (Instr.fieldAt 188 (.pointer (some ⟨b, o, none⟩)) 1) K = K (.pointer (some ⟨b, o + 1, none⟩)) := B4 (i := 1) A6H rfl ⟨_, _, _, _, y9⟩ b o
@[simp] theorem C1a (b o : Nat) (K : Value → WP) : A0 PR (Instr.fieldAt 188 (.pointer (some ⟨b, o, none⟩)) 2) K = K (.pointer (some ⟨b, o + 2, none⟩)) := B4 (i := 2) A6H rfl ⟨_, _, _, _, F5⟩ b o
theorem C0K : TI PR 29 Tryz.t29.desc 1 8 .nilFunc := ⟨Tryz.underlying29, Tryz.t29, by kernel_rfl, rfl, rfl, rfl⟩
@[simp] theorem C2C (b o : Nat) (K : Value → WP) : A0 PR (Instr.fieldAt 219 (.pointer (some ⟨b, o, none⟩)) 0) K = K (.pointer (some ⟨b, o, none⟩)) := B4 (i := 0) A6G rfl ⟨_, _, _, _, C0K⟩ b o
@[simp] theorem C1l (b o : Nat) (K : Value → WP) : A0 PR (Instr.fieldAt 219 (.pointer (some ⟨b, o, none⟩)) 1) K = K (.pointer (some ⟨b, o + 1, none⟩)) := B4 (i := 1) A6G rfl ⟨_, _, _, _, B3y⟩ b o
@[simp] theorem C3L (b o : Nat) (K : Value → WP) : A0 PR (Instr.fieldAt 23 (.pointer (some ⟨b, o, none⟩)) 0) K = K (.pointer (some ⟨b, o, none⟩)) := B4 (i := 0) A5L rfl ⟨_, _, _, _, F5⟩ b o
@[simp] theorem C3Z (b o : Nat) (K : Value → WP) : A0 PR (Instr.fieldAt 23 (.pointer (some ⟨b, o, none⟩)) 1) K = K (.pointer (some ⟨b, o + 1, none⟩)) := B4 (i := 1) A5L rfl ⟨_, _, _, _, F5⟩ b o
@[simp] theorem C20 (b o : Nat) (K : Value → WP) : A0 PR (Instr.fieldAt 23 (.pointer (some ⟨b, o, none⟩)) 2) K = K (.pointer (some ⟨b, o + 2, none⟩)) := B4 (i := 2) A5L rfl ⟨_, _, _, _, F5⟩ b o
@[simp] theorem C3Y (b o : Nat) (K : Value → WP) : A0 PR (Instr.fieldAt 23 (.pointer (some ⟨b, o, none⟩)) 3) K = K (.pointer (some ⟨b, o + 3, none⟩)) := B4 (i := 3) A5L rfl ⟨_, _, _, _, F5⟩ b o
@[simp] theorem C3U (b o : Nat) (K : Value → WP) : A0 PR (Instr.fieldAt 23 (.pointer (some ⟨b, o, none⟩)) 4) K = K (.pointer (some ⟨b, o + 4, none⟩)) := B4 (i := 4) A5L rfl ⟨_, _, _, _, F5⟩ b o
@[simp] theorem C2W (b o : Nat) (K : Value → WP) : A0 PR (Instr.fieldAt 241 (.pointer (some ⟨b, o, none⟩)) 0) K = K (.pointer (some ⟨b, o, none⟩)) := B4 (i := 0) A35 rfl ⟨_, _, _, _, A2m⟩ b o
@[simp] theorem C2Y (b o : Nat) (K : Value → WP) : A0 PR (Instr.fieldAt 241 (.pointer (some ⟨b, o, none⟩)) 1) K = K (.pointer (some ⟨b, o + 1, none⟩)) := B4 (i := 1) A35 rfl ⟨_, _, _, _, F5⟩ b o
@[simp] theorem C28 (b o : Nat) (K : Value → WP) : A0 PR (Instr.fieldAt 44 (.pointer (some ⟨b, o, none⟩)) 3) K = K (.pointer (some ⟨b, o + 3, none⟩)) := B4 (i := 3) A4b rfl ⟨_, _, _, _, F5⟩ b o
@[simp] theorem C2v (b o : Nat) (K : Value → WP) : A0 PR (Instr.fieldAt 46 (.pointer (some ⟨b, o, none⟩)) 3) K = K (.pointer (some ⟨b, o + 3, none⟩)) := B4 (i := 3) B4w rfl ⟨_, _, _, _, F5⟩ b o
@[simp] theorem C3F (b o : Nat) (K : Value → WP) : A0 PR (Instr.fieldAt 47 (.pointer (some ⟨b, o, none⟩)) 0) K = K (.pointer (some ⟨b, o, none⟩)) := B4 (i := 0) A0L rfl ⟨_, _, _, _, F5⟩ b o
@[simp] theorem C3g (b o : Nat) (K : Value → WP) : A0 PR (Instr.fieldAt 47 (.pointer (some ⟨b, o, none⟩)) 1) K = K (.pointer (some ⟨b, o + 1, none⟩)) := B4 (i := 1) A0L rfl ⟨_, _, _, _, F5⟩ b o
@[simp] theorem C3B (b o : Nat) (K : Value → WP) : A0 PR (Instr.fieldAt 47 (.pointer (some ⟨b, o, none⟩)) 2) K = K (.pointer (some ⟨b, o + 2, none⟩)) := B4 (i := 2) A0L rfl ⟨_, _, _, _, F5⟩ b o
@[simp] theorem C2c (b o : Nat) (K : Value → WP) : A0 PR (Instr.fieldAt 47 (.pointer (some ⟨b, o, none⟩)) 3) K = K (.pointer (some ⟨b, o + 3, none⟩)) := B4 (i := 3) A0L rfl ⟨_, _, _, _, F5⟩ b o
@[simp] theorem C2g (b o : Nat) (K : Value → WP) : A0 PR (Instr.fieldAt 47 (.pointer (some ⟨b, o, none⟩)) 4) K = K (.pointer (some ⟨b, o + 4, none⟩)) := B4 (i := 4) A0L rfl ⟨_, _, _, _, F5⟩ b o
@[simp] theorem C3v (b o : Nat) (K : Value → WP) : A0 PR (Instr.fieldAt 47 (.pointer (some ⟨b, o, none⟩)) 5) K = K (.pointer (some ⟨b, o + 5, none⟩)) := B4 (i := 5) A0L rfl ⟨_, _, _, _, F5⟩ b o
@[simp] theorem C2p (b o : Nat) (K : Value → WP) : A0 PR (Instr.fieldAt 47 (.pointer (some ⟨b, o, none⟩)) 6) K = K (.pointer (some ⟨b, o + 6, none⟩)) := B4 (i := 6) A0L rfl ⟨_, _, _, _, A4b⟩ b o
@[simp] theorem C3l (b o : Nat) (K : Value → WP) : A0 PR (Instr.fieldAt 52 (.pointer (some ⟨b, o, none⟩)) 0) K = K (.pointer (some ⟨b, o, none⟩)) := B4 (i := 0) A5Z rfl ⟨_, _, _, _, F5⟩ b o
@[simp] theorem C3f (b o : Nat) (K : Value → WP) : A0 PR (Instr.fieldAt 52 (.pointer (some ⟨b, o, none⟩)) 1) K = K (.pointer (some ⟨b, o + 1, none⟩)) := B4 (i := 1) A5Z rfl ⟨_, _, _, _, y9⟩ b o
@[simp] theorem C3s (b o : Nat) (K : Value → WP) : A0 PR (Instr.fieldAt 52 (.pointer (some ⟨b, o, none⟩)) 2) K = K (.pointer (some ⟨b, o + 2, none⟩)) := B4 (i := 2) A5Z rfl ⟨_, _, _, _, A7Q⟩ b o
@[simp] theorem C2y (b o : Nat) (K : Value → WP) : A0 PR (Instr.fieldAt 52 (.pointer (some ⟨b, o, none⟩)) 3) K = K (.pointer (some ⟨b, o + 3, none⟩)) := B4 (i := 3) A5Z rfl ⟨_, _, _, _, F5⟩ b o
@[simp] theorem C2l (b o : Nat) (K : Value → WP) : A0 PR (Instr.fieldAt 78 (.pointer (some ⟨b, o, none⟩)) 0) K = K (.pointer (some ⟨b, o, none⟩)) := B4 (i := 0) B4V rfl ⟨_, _, _, _, A5L⟩ b o
@[simp] theorem C21 (b o : Nat) (K : Value → WP) : A0 PR (Instr.fieldAt 78 (.pointer (some ⟨b, o, none⟩)) 1) K = K (.pointer (some ⟨b, o + 5, none⟩)) := B4 (i := 1) B4V rfl ⟨_, _, _, _, A7Q⟩ b o
theorem B2W : TI PR 76 Tryz.t76.desc 1 24 (.slice none 0 0) := ⟨Tryz.underlying76, Tryz.t76, by kernel_rfl, rfl, rfl, rfl⟩
@[simp] theorem C3a (b o : Nat) (K : Value → WP) : A0 PR (Instr.fieldAt 78 (.pointer (some ⟨b, o, none⟩)) 2) K = K (.pointer (some ⟨b, o + 6, none⟩)) := B4 (i := 2) B4V rfl ⟨_, _, _, _, B2W⟩ b o
theorem C0A : TI PR 82 Tryz.t81.desc 1 24 (.agg #[(.slice none 0 0)]) := ⟨Tryz.underlying82, Tryz.t82, by kernel_rfl, rfl, rfl, rfl⟩
@[simp] theorem C2k (b o : Nat) (K : Value → WP) : A0 PR (Instr.fieldAt 82 (.pointer (some ⟨b, o, none⟩)) 0) K = K (.pointer (some ⟨b, o, none⟩)) := B4 (i := 0) C0A rfl ⟨_, _, _, _, A9m⟩ b o
theorem B4n : TI PR 84 Tryz.t83.desc 2 32 (.agg #[(.slice none 0 0), (.int .i64 0)]) := ⟨Tryz.underlying84, Tryz.t84, by kernel_rfl, rfl, rfl, rfl⟩
@[simp] theorem C2x (b o : Nat) (K : Value → WP) : A0 PR (Instr.fieldAt 84 (.pointer (some ⟨b, o, none⟩)) 0) K = K (.pointer (some ⟨b, o, none⟩)) := B4 (i := 0) B4n rfl ⟨_, _, _, _, C0A⟩ b o
@[simp] theorem C2s (b o : Nat) (K : Value → WP) : A0 PR (Instr.fieldAt 84 (.pointer (some ⟨b, o, none⟩)) 1) K = K (.pointer (some ⟨b, o + 1, none⟩)) := B4 (i := 1) B4n rfl ⟨_, _, _, _, F5⟩ b o
theorem V0 {k1 : IntKind} {i : Int} {s : ByteArray} {b : UInt8} (h0 : 0 ≤ i) (h1 : s[i.toNat]? = some b) (K : Value → WP) : A0 PR (Instr.index 9 (.string s) (.int k1 i)) K = K (.int .u8 b.toNat) := B7F y9 h0 h1
theorem B4e : TI PR 105 Tryz.t105.desc 1 8 .nilFunc := ⟨Tryz.underlying105, Tryz.t105, by kernel_rfl, rfl, rfl, rfl⟩
@[simp] theorem C4a {k : IntKind} {i : Int} (h0 : 0 ≤ i) (h1 : i < (4 : Nat)) (b o : Nat) (K : Value → WP) : A0 PR (Instr.indexAt 106 (.pointer (some ⟨b, o, none⟩)) (.int k i)) K = K (.pointer (some ⟨b, o + i.toNat, none⟩)) := (by simpa using A70 (K := K) B4G B4e h0 h1 b o)
@[simp] theorem C4C {k : IntKind} {i : Int} {len cap : Nat} (h0 : 0 ≤ i) (h1 : i < len) (b o : Nat) (K : Value → WP) : A0 PR (Instr.indexAt 160 (.slice (some ⟨b, o, none⟩) len cap) (.int k i)) K = K (.pointer (some ⟨b, o + i.toNat, none⟩)) := (by simpa using H7 (K := K) A6E ty5 h0 h1 b o)
@[simp] theorem C3w {k : IntKind} {i : Int} (h0 : 0 ≤ i) (h1 : i < (2 : Nat)) (b o : Nat) (K : Value → WP) : A0 PR (Instr.indexAt 164 (.pointer (some ⟨b, o, none⟩)) (.int k i)) K = K (.pointer (some ⟨b, o + i.toNat, none⟩)) := (by simpa using A70 (K := K) A8d F5 h0 h1 b o)
@[simp] theorem C4q {k : IntKind} {i : Int} {len cap : Nat} (h0 : 0 ≤ i) (h1 : i < len) (b o : Nat) (K : Value → WP) : A0 PR (Instr.indexAt 205 (.slice (some ⟨b, o, none⟩) len cap) (.int k i)) K = K (.pointer (some ⟨b, o + i.toNat * 4, none⟩)) := (H7 (K := K) B5C A0d h0 h1 b o)
@[simp] theorem C4k {k : IntKind} {i : Int} {len cap : Nat} (h0 : 0 ≤ i) (h1 : i < len) (b o : Nat) (K : Value → WP) : A0 PR (Instr.indexAt 207 (.slice (some ⟨b, o, none⟩) len cap) (.int k i)) K = K (.pointer (some ⟨b, o + i.toNat * 2, none⟩)) := (H7 (K := K) B4S A8d h0 h1 b o)
@[simp] theorem C31 {k : IntKind} {i : Int} {len cap : Nat} (h0 : 0 ≤ i) (h1 : i < len) (b o : Nat) (K : Value → WP) : A0 PR (Instr.indexAt 221 (.slice (some ⟨b, o, none⟩) len cap) (.int k i)) K = K (.pointer (some ⟨b, o + i.toNat, none⟩)) := (by simpa using H7 (K := K) B8P y9 h0 h1 b o)
theorem B33 : TI PR 237 Tryz.t147.desc 1 24 (.slice none 0 0) := ⟨Tryz.underlying237, Tryz.t237, by kernel_rfl, rfl, rfl, rfl⟩
@[simp] theorem C4T {k : IntKind} {i : Int} {len cap : Nat} (h0 : 0 ≤ i) (h1 : i < len) (b o : Nat) (K : Value → WP) : A0 PR (Instr.indexAt 237 (.slice (some ⟨b, o, none⟩) len cap) (.int k i)) K = K (.pointer (some ⟨b, o + i.toNat * 2, none⟩)) := (H7 (K := K) B33 B1E h0 h1 b o)
@[simp] theorem C4e {k : IntKind} {i : Int} {len cap : Nat} (h0 : 0 ≤ i) (h1 : i < len) (b o : Nat) (K : Value → WP) : A0 PR (Instr.indexAt 239 (.slice (some ⟨b, o, none⟩) len cap) (.int k i)) K = K (.pointer (some ⟨b, o + i.toNat * 2, none⟩)) := (H7 (K := K) B08 A35 h0 h1 b o)
@[simp] theorem C45 {k : IntKind} {i : Int} {len cap : Nat} (h0 : 0 ≤ i) (h1 : i < len) (b o : Nat) (K : Value → WP) : A0 PR (Instr.indexAt 24 (.slice (some ⟨b, o, none⟩) len cap) (.int k i)) K = K (.pointer (some ⟨b, o + i.toNat, none⟩)) := (by simpa using H7 (K := K) B4J A9H h0 h1 b o)
@[simp] theorem C4d {k : IntKind} {i : Int} {len cap : Nat} (h0 : 0 ≤ i) (h1 : i < len) (b o : Nat) (K : Value → WP) : A0 PR (Instr.indexAt 251 (.slice (some ⟨b, o, none⟩) len cap) (.int k i)) K = K (.pointer (some ⟨b, o + i.toNat * 2, none⟩)) := (H7 (K := K) B4N A6G h0 h1 b o)
theorem B9q : TI PR 28 Tryz.t28.desc 1 24 (.slice none 0 0) := ⟨Tryz.underlying28, Tryz.t28, by kernel_rfl, rfl, rfl, rfl⟩
@[simp] theorem C41 {k : IntKind} {i : Int} {len cap : Nat} (h0 : 0 ≤ i) (h1 : i < len) (b o : Nat) (K : Value → WP) : A0 PR (Instr.indexAt 28 (.slice (some ⟨b, o, none⟩) len cap) (.int k i)) K = K (.pointer (some ⟨b, o + i.toNat * 10, none⟩)) := (H7 (K := K) B9q B4w h0 h1 b o)
@[simp] theorem C4y {k : IntKind} {i : Int} {len cap : Nat} (h0 : 0 ≤ i) (h1 : i < len) (b o : Nat) (K : Value → WP) : A0 PR (Instr.indexAt 32 (.slice (some ⟨b, o, none⟩) len cap) (.int k i)) K = K (.pointer (some ⟨b, o + i.toNat * 10, none⟩)) := (H7 (K := K) B40 A0L h0 h1 b o)
@[simp] theorem C43 {k : IntKind} {i : Int} {len cap : Nat} (h0 : 0 ≤ i) (h1 : i < len) (b o : Nat) (K : Value → WP) : A0 PR (Instr.indexAt 35 (.slice (some ⟨b, o, none⟩) len cap) (.int k i)) K = K (.pointer (some ⟨b, o + i.toNat, none⟩)) := (by simpa using H7 (K := K) B4C F5 h0 h1 b o)
@[simp] theorem C46 {k : IntKind} {i : Int} {len cap : Nat} (h0 : 0 ≤ i) (h1 : i < len) (b o : Nat) (K : Value → WP) : A0 PR (Instr.indexAt 50 (.slice (some ⟨b, o, none⟩) len cap) (.int k i)) K = K (.pointer (some ⟨b, o + i.toNat * 2, none⟩)) := (H7 (K := K) A7Q A8F h0 h1 b o)
@[simp] theorem C4w {k : IntKind} {i : Int} {len cap : Nat} (h0 : 0 ≤ i) (h1 : i < len) (b o : Nat) (K : Value → WP) : A0 PR (Instr.indexAt 53 (.slice (some ⟨b, o, none⟩) len cap) (.int k i)) K = K (.pointer (some ⟨b, o + i.toNat * 4, none⟩)) := (H7 (K := K) A9H A5Z h0 h1 b o)
@[simp] theorem C5A {k : IntKind} {i : Int} {len cap : Nat} (h0 : 0 ≤ i) (h1 : i < len) (b o : Nat) (K : Value → WP) : A0 PR (Instr.indexAt 76 (.slice (some ⟨b, o, none⟩) len cap) (.int k i)) K = K (.pointer (some ⟨b, o + i.toNat * 2, none⟩)) := (H7 (K := K) B2W B4n h0 h1 b o)
@[simp] theorem C4u {k : IntKind} {i : Int} {len cap : Nat} (h0 : 0 ≤ i) (h1 : i < len) (b o : Nat) (K : Value → WP) : A0 PR (Instr.indexAt 79 (.slice (some ⟨b, o, none⟩) len cap) (.int k i)) K = K (.pointer (some ⟨b, o + i.toNat * 4, none⟩)) := (H7 (K := K) A9m A0d h0 h1 b o)
@[simp] theorem C2u (a : Option Addr) (n c : Nat) (K : Value → WP) : A0 PR (A8 .len #[205] 0 [.slice a n c]) K = K (.int .i64 n) := m5 B5C a n c
@[simp] theorem C24 (a : Option Addr) (n c : Nat) (K : Value → WP) : A0 PR (A8 .len #[207] 0 [.slice a n c]) K = K (.int .i64 n) := m5 B4S a n c
@[simp] theorem C3p (a : Option Addr) (n c : Nat) (K : Value → WP) : A0 PR (A8 .len #[237] 0 [.slice a n c]) K = K (.int .i64 n) := m5 B33 a n c
@[simp] theorem C3W (a : Option Addr) (n c : Nat) (K : Value → WP) : A0 PR (A8 .len #[239] 0 [.slice a n c]) K = K (.int .i64 n) := m5 B08 a n c
@[simp] theorem C4Z (a : Option Addr) (n c : Nat) (K : Value → WP) : A0 PR (A8 .len #[24] 0 [.slice a n c]) K = K (.int .i64 n) := m5 B4J a n c
@[simp] theorem C3H (a : Option Addr) (n c : Nat) (K : Value → WP) : A0 PR (A8 .len #[251] 0 [.slice a n c]) K = K (.int .i64 n) := m5 B4N a n c
@[simp] theorem C32 (a : Option Addr) (n c : Nat) (K : Value → WP) : A0 PR (A8 .len #[28] 0 [.slice a n c]) K = K (.int .i64 n) := m5 B9q a n c
@[simp] theorem C4U (a : Option Addr) (n c : Nat) (K : Value → WP) : A0 PR (A8 .len #[32] 0 [.slice a n c]) K = K (.int .i64 n) := m5 B40 a n c
@[simp] theorem C4j (a : Option Addr) (n c : Nat) (K : Value → WP) : A0 PR (A8 .len #[35] 0 [.slice a n c]) K = K (.int .i64 n) := m5 B4C a n c
@[simp] theorem C4F (a : Option Addr) (n c : Nat) (K : Value → WP) : A0 PR (A8 .len #[50] 0 [.slice a n c]) K = K (.int .i64 n) := m5 A7Q a n c
@[simp] theorem C4g (a : Option Addr) (n c : Nat) (K : Value → WP) : A0 PR (A8 .len #[53] 0 [.slice a n c]) K = K (.int .i64 n) := m5 A9H a n c
@[simp] theorem C4V (a : Option Addr) (n c : Nat) (K : Value → WP) : A0 PR (A8 .len #[76] 0 [.slice a n c]) K = K (.int .i64 n) := m5 B2W a n c
@[simp] theorem C4J (a : Option Addr) (n c : Nat) (K : Value → WP) : A0 PR (A8 .len #[79] 0 [.slice a n c]) K = K (.int .i64 n) := m5 A9m a n c
@[simp] theorem C4r (s : ByteArray) (K : Value → WP) : A0 PR (A8 .len #[9] 0 [.string s]) K = K (.int .i64 s.size) := B95 y9 s
@[simp] theorem C4A (a : Addr) (K : Value → WP) (w : World) : A6 PR (Instr.loadAt 122 (.pointer (some a))) K w = rdc (w.cell? a) K (far PR 122 a K) w := B2b A2m rfl a
@[simp] theorem C5G (a : Addr) (K : Value → WP) (w : World) : A6 PR (Instr.loadAt 3 (.pointer (some a))) K w = rdc (w.cell? a) K (far PR 3 a K) w := B2b F5 rfl a
theorem C4N : TI PR 60 Tryz.t60.desc 1 8 (.pointer none) := ⟨Tryz.underlying60, Tryz.t60, by kernel_rfl, rfl, rfl, rfl⟩
@[simp] theorem C4l (v : Value) (K : Value → WP) : A0 PR (Instr.makeInterface 224 v) K = K (.iface 224 v) := A9v B8S (by intro ms h; cases h) v
@[simp] theorem C4c (v : Value) (K : Value → WP) : A0 PR (Instr.makeInterface 225 v) K = K (.iface 225 v) := A9v B8T (by intro ms h; cases h) v
@[simp] theorem C2P (b o : Nat) (K : Value → WP) : A0 PR (Instr.sliceAt 159 (.pointer (some ⟨b, o, none⟩)) none none none) K = K (.slice (some ⟨b, o, none⟩) 38 38) := B5U B38 ty5 b o
@[simp] theorem C5B {k1 : IntKind} {hi : Int} {s : ByteArray} (h0 : 0 ≤ hi) (h1 : hi ≤ s.size) (K : Value → WP) : A0 PR (Instr.sliceAt 9 (.string s) none (some (.int k1 hi)) none) K = K (.string (s.extract 0 hi.toNat)) := B5a y9 h0 h1
@[simp] theorem C44 {k1 : IntKind} {lo : Int} {s : ByteArray} (h0 : 0 ≤ lo) (h1 : lo ≤ s.size) (K : Value → WP) : A0 PR (Instr.sliceAt 9 (.string s) (some (.int k1 lo)) none none) K = K (.string (s.extract lo.toNat s.size)) := B6Y y9 h0 h1
@[simp] theorem C5M {k1 k2 : IntKind} {lo hi : Int} {s : ByteArray} (h0 : 0 ≤ lo) (h1 : lo ≤ hi) (h2 : hi ≤ s.size) (K : Value → WP) : A0 PR (Instr.sliceAt 9 (.string s) (some (.int k1 lo)) (some (.int k2 hi)) none) K = K (.string (s.extract lo.toNat hi.toNat)) := B77 y9 h0 h1 h2
theorem B4a : TI PR 59 Tryz.t59.desc 1 8 (.map none) := ⟨Tryz.underlying59, Tryz.t59, by kernel_rfl, rfl, rfl, rfl⟩
theorem B1F : TI PR 192 Tryz.t191.desc 1 16 .nilIface := ⟨Tryz.underlying192, Tryz.t192, by kernel_rfl, rfl, rfl, rfl⟩
theorem B1B : TI PR 193 Tryz.t193.desc 1 8 (.map none) := ⟨Tryz.underlying193, Tryz.t193, by kernel_rfl, rfl, rfl, rfl⟩
end Go.Proofs.YtlplkjgcfjdinaaGreat
namespace Go.Proofs.YtlplkjgcfjdinaaGreat
open Go
@[simp] theorem B6N (a b : ByteArray) : (a == b) = decide (a = b) := by
 obtain ⟨x⟩ := a; obtain ⟨y⟩ := b
 have h : ((⟨x⟩ : ByteArray) == ⟨y⟩) = (x == y) := rfl
 rw [h]
 by_cases e : x = y
 ·subst e; simp
 ·simp [e]
@[simp] theorem C2Q (a : Array UInt8) : (ByteArray.mk a).size = a.size := rfl
theorem B1k (ns : List Int) : (A1Z ns).data.toList = ns.map fun n => UInt8.ofNat n.toNat := by
 have : ∀ (l : List Int) (r : ByteArray), (l.foldl (fun r n => r.push (UInt8.ofNat n.toNat)) r).data.toList = r.data.toList ++ l.map fun n => UInt8.ofNat n.toNat := by
  intro l
  induction l with
  | nil => intro r; simp
  | cons x l ih => intro r; rw [List.foldl_cons, ih]; simp [ByteArray.push]
 have h := this ns ByteArray.empty
 rw [show ByteArray.empty.data.toList = [] from rfl, List.nil_append] at h
 exact h
@[simp] theorem C0W (ns : List Int) : (A1Z ns).size = ns.length := by
 have := congrArg List.length (B1k ns)
 rw [List.length_map] at this
 exact this
class TS (t : TypeId) (z : outParam Value) : Prop where
 ti : ∃ d m, TI PR t d 1 m z ∧ M5 d = false
class TG (t : TypeId) (n : outParam Nat) (z : outParam Value) : Prop where
 ti : ∃ d m, TI PR t d n m z ∧ M5 d = true
class TA (t : TypeId) (n : outParam Nat) (z : outParam Value) : Prop where
 ti : ∃ d m, TI PR t d n m z
class SL (t : TypeId) (e : outParam TypeId) (k by' : outParam Nat) (z : outParam Value) : Prop where
 ti : (∃ n m z', TI PR t (.slice e) n m z') ∧ (∃ d, TI PR e d k by' z) ∧ z.cells.size = k
instance TS.ta {t : TypeId} {z : Value} [h : TS t z] : TA t 1 z := ⟨let ⟨d, m, h, _⟩ := h.ti; ⟨d, m, h⟩⟩
instance TG.ta {t : TypeId} {n : Nat} {z : Value} [h : TG t n z] : TA t n z := ⟨let ⟨d, m, h, _⟩ := h.ti; ⟨d, m, h⟩⟩
def rdq (x : Option (List Value)) (G : List Value → WP) (F : WP) : WP := match x with | some l => G l | none => F
@[simp] theorem A7f (l : List Value) (G : List Value → WP) (F : WP) : rdq (some l) G F = G l := id rfl
@[congr] theorem C2j {x x' : Option (List Value)} {G : List Value → WP} {F : WP} (h : x = x') {q : Nat} (hq : T2 = q) : rdq x G F = rdq x' G F := by rw [h]
@[simp] theorem C4b (xs : List Value) : N7 xs 0 0 = some [] := by simp [N7]
@[simp] theorem C17 (x : Value) (xs : List Value) (n : Nat) : N7 (x :: xs) 0 (n + 1) = (N7 xs 0 n).map (x :: ·) := by
 simp only [N7, Nat.zero_add, List.length_cons, List.drop_zero, List.take_succ_cons]
 by_cases h : n ≤ xs.length
 ·rw [if_pos h, if_pos (by omega)]; rfl
 ·rw [if_neg h, if_neg (by omega)]; rfl
@[simp] theorem C1n (x : Value) (xs : List Value) (o n : Nat) : N7 (x :: xs) (o + 1) n = N7 xs o n := by
 simp only [N7, List.length_cons, List.drop_succ_cons]
 by_cases h : o + n ≤ xs.length
 ·rw [if_pos h, if_pos (by omega)]
 ·rw [if_neg h, if_neg (by omega)]
theorem B0B {α : Type} {l : List α} {f : α → List Value} {k i : Nat} {x : α} (hk : ∀ x, (f x).length = k) (hx : l[i]? = some x) : N7 (l.flatMap f) (i * k) k = some (f x) := by
 obtain ⟨hlt, hx'⟩ := List.getElem?_eq_some_iff.1 hx
 have h1 : (i + 1) * k ≤ l.length * k := Nat.mul_le_mul_right k hlt
 rw [Nat.add_mul] at h1
 rw [N7, if_pos (by rw [G8 hk]; omega), A5k hk, List.drop_eq_getElem_cons hlt, List.flatMap_cons, hx']
 rw [List.take_left' (hk x)]
inductive Sel (r : Res) : List Res → List Res → Prop where
 | here {H : List Res} : Sel r (r :: H) H
 | there {x : Res} {H H' : List Res} : Sel r H H' → Sel r (x :: H) (x :: H')
theorem Sel.perm {r : Res} {H Hr : List Res} (h : Sel r H Hr) : H.Perm (r :: Hr) := by
 induction h with
 | here => exact .refl _
 | there _ ih => exact (ih.cons _).trans (.swap ..)
theorem Sel.sub {r : Res} {H Hr : List Res} (h : Sel r H Hr) : Hr.Sublist H := by
 induction h with
 | here => exact List.sublist_cons_self ..
 | there _ ih => exact ih.cons_cons _
theorem A1 {r : Res} {H : List Res} : r ∈ r :: H := List.mem_cons_self ..
theorem uH {r r' : Res} {H : List Res} : Up r r' (r :: H) (r' :: H) := Up.here
theorem uT {r r' x : Res} {H H' : List Res} (h : Up r r' H H') : Up r r' (x :: H) (x :: H') := Up.there h
theorem A2 {r x : Res} {H : List Res} (h : r ∈ H) : r ∈ x :: H := List.mem_cons_of_mem _ h
inductive Sels : List Res → List Res → Prop where
 | nil {H : List Res} : Sels [] H
 | cons {r : Res} {rs H Hr : List Res} : Sel r H Hr → Sels rs Hr → Sels (r :: rs) H
theorem Sels.sub {rs H : List Res} (h : Sels rs H) : ∃ H', H.Perm H' ∧ rs.Sublist H' := by
 induction h with
 | nil => exact ⟨_, .refl _, List.nil_sublist _⟩
 | cons h1 _ ih => obtain ⟨H', h2, h3⟩ := ih; exact ⟨_ :: H', h1.perm.trans (h2.cons _), h3.cons_cons _⟩
theorem Sels.lw {κ : Bool} {S : List Nat} {w0 w : World} {rs H : List Res} (h : Sels rs H) (hw : LW κ S w0 H w) : LW κ S w0 rs w := let ⟨_, h1, h2⟩ := h.sub; (hw.perm h1).sub h2
theorem Sels.tw {κ : Bool} {S : List Nat} {w0 : World} {rs H : List Res} {K : WP} (h : Sels rs H) (hk : TW κ S w0 rs K) : TW κ S w0 H K := fun w hw => hk w (h.lw hw)
inductive Part : List Res → List Res → List Res → Prop where
 | nil {H : List Res} : Part [] H H
 | cons {r : Res} {rs H H1 Hk : List Res} : Sel r H H1 → Part rs H1 Hk → Part (r :: rs) H Hk
theorem Part.perm {Hc H Hk : List Res} (h : Part Hc H Hk) : H.Perm (Hc ++ Hk) := by
 induction h with
 | nil => exact .refl _
 | cons h1 _ ih => exact h1.perm.trans (ih.cons _)
theorem D8 {κ : Bool} {X : Nat → Prop} {S : List Nat} {w0 : World} {H Hk Hc : List Res} {K : Value → WP} {f : FuncId} {args : List Value} {α : Type} {φ : α → Value → Prop} {Hn : α → List Res} (he : A9 PR f)
  (hf : ∀ w, LW κ S w0 (Hc ++ Hk) w → LW false (B2 Hc) w Hc w → Fn PR B5 f args.toArray w (Rn (B2 Hc) w φ Hn)) (hp : Part Hc H Hk) (hK : ∀ a v, φ a v → TW κ S w0 (Hn a ++ Hk) (K v)) : TW κ S w0 H (B8 PR X f args K) :=
 B6b he hp.perm (fun w hw => let h := hw.perm hp.perm; hf w h (h.sub (List.sublist_append_left _ _)).self) hK
theorem C3 {κ : Bool} {S : List Nat} {w0 : World} {H : List Res} {α : Type} {φ : α → Value → Prop} {Hn : α → List Res} {v : Value} (a : α) (h : φ a v) (hs : Sels (Hn a) H) : TW κ S w0 H (Rn S w0 φ Hn v) := fun w hw => ⟨a, h, hs.lw hw.low⟩
theorem C1W {κ : Bool} {S : List Nat} {w0 : World} {H : List Res} {F : Value → WP} {A : (Value → WP) → WP} {α : Type} (φ : α → Prop) (Hh : α → List Res) (v1 : α → Value) (hF : ∀ x, φ x → TW κ S w0 (Hh x) (F (v1 x)))
  (hA : ∀ J : Value → WP, (∀ x, φ x → TW κ S w0 (Hh x) (J (v1 x))) → TW κ S w0 H (A J)) : TW κ S w0 H (kt (n := 1) F A) := hA F hF
theorem B4z {κ : Bool} {S : List Nat} {w0 : World} {H : List Res} {F : Value → Value → WP} {A : (Value → Value → WP) → WP} {α : Type} (φ : α → Prop) (Hh : α → List Res) (v1 v2 : α → Value) (hF : ∀ x, φ x → TW κ S w0 (Hh x) (F (v1 x) (v2 x)))
  (hA : ∀ J : Value → Value → WP, (∀ x, φ x → TW κ S w0 (Hh x) (J (v1 x) (v2 x))) → TW κ S w0 H (A J)) : TW κ S w0 H (kt (n := 2) F A) := hA F hF
theorem E9.form {w : World} {v : Value} {n : Nat} {xs : List Value} (h : E9 w v n xs) : ∃ a c, v = .slice a n c ∧ (0 < n → ∃ b o, a = some ⟨b, o, none⟩ ∧ G9 w b o xs) := by
 rcases h with ⟨rfl, rfl, a, c, rfl⟩ | ⟨b, o, c, rfl, hr⟩
 ·exact ⟨a, c, rfl, fun h => absurd h (by omega)⟩
 ·exact ⟨_, c, rfl, fun _ => ⟨b, o, rfl, hr⟩⟩
theorem G9.at {w : World} {b o k : Nat} {α : Type} {l : List α} {f : α → List Value} (h : G9 w b o (l.flatMap f)) (hk : ∀ x, (f x).length = k) {i : Nat} {x : α} (hx : l[i]? = some x) : W6 w b (o + i * k) k = some (f x) := by
 have h1 : G9 w b (o + i * k) (f x) := fun j hj => by
  rw [hk] at hj
  have h2 := Q5 hk l i j hj
  rw [hx] at h2
  have h3 : (l.flatMap f)[i * k + j]? = some ((f x)[j]'(by rw [hk]; exact hj)) := by rw [h2]; simp [List.getElem?_eq_getElem, hk, hj]
  rw [Nat.add_assoc, h.get h3]; simp [List.getElem?_eq_getElem, hk, hj]
 have := A3J h1
 rwa [hk] at this
theorem G9.cellAt {w : World} {b o k : Nat} {α : Type} {l : List α} {f : α → List Value} (h : G9 w b o (l.flatMap f)) (hk : ∀ x, (f x).length = k) {i j : Nat} {x : α} {u : Value} (hx : l[i]? = some x) (hu : (f x)[j]? = some u) : w.cell? ⟨b, o + i * k + j, none⟩ = some u := by
 have hj : j < k := by rw [← hk x]; exact (List.getElem?_eq_some_iff.1 hu).1
 have h2 := Q5 hk l i j hj
 rw [hx] at h2
 rw [Nat.add_assoc]
 exact h.get (by rw [h2]; exact hu)
theorem G9.one {w : World} {b o : Nat} {α : Type} {l : List α} {f : α → Value} (h : G9 w b o (l.map f)) {i : Nat} {x : α} (hx : l[i]? = some x) : w.cell? ⟨b, o + i, none⟩ = some (f x) := h.get (by simp [hx])
section
variable {κ : Bool} {X : Nat → Prop} {S : List Nat} {w0 : World} {H H' Hr : List Res} {K : Value → WP} {K0 : WP} {t e : TypeId} {n k by' : Nat} {z : Value}
theorem C1H {s : Sem Value} {v : Value} (h : ∀ w, LW κ S w0 H w → A6 PR s K w = K v w) : TW κ S w0 H (A6 PR s K) = TW κ S w0 H (K v) := TW.congr h
theorem y5 {v : Value} {q : Nat} {xs : List Value} (hm : Res.own e k v q xs ∈ H) (hq : 0 < q) (h : ∀ g c, v = .slice (some ⟨g, 0, none⟩) q c → TW κ S w0 H K0) : TW κ S w0 H K0 := fun w hw => by
 rcases (hw.hold _ hm).2 with ⟨_, rfl⟩ | ⟨g, c, _, rfl, _⟩
 ·omega
 ·exact h g c rfl w hw
@[simp] theorem C49 [h : TS t z] {b o : Nat} {c : Array Value} {T : TypeId} {f : Nat × Nat} (hm : Res.pt b (.cells c T f) ∈ H) :
  TW κ S w0 H (A6 PR (Instr.loadAt t (.pointer (some ⟨b, o, none⟩))) K) = TW κ S w0 H (rdc c[o]? K (far PR t ⟨b, o, none⟩ K)) := let ⟨_, _, h, hd⟩ := h.ti; B9Y h hd hm
@[simp] theorem C4H [h : TS t z] {g o : Nat} {k q c : Nat} {xs : List Value} (hm : Res.own e k (.slice (some ⟨g, 0, none⟩) q c) q xs ∈ H) :
  TW κ S w0 H (A6 PR (Instr.loadAt t (.pointer (some ⟨g, o, none⟩))) K) = TW κ S w0 H (rdc xs[o]? K (A6 PR (Instr.loadAt t (.pointer (some ⟨g, o, none⟩))) K)) := by
 cases hv : xs[o]? with
 | none => rfl
 | some v => exact let ⟨_, _, h, hd⟩ := h.ti; B8F h hd hm hv
@[simp] theorem C39 [h : TS t z] {b o : Nat} {v : Value} (hc : w0.cell? ⟨b, o, none⟩ = some v) (hS : b ∉ S) :
  TW κ S w0 H (A6 PR (Instr.loadAt t (.pointer (some ⟨b, o, none⟩))) K) = TW κ S w0 H (K v) := let ⟨_, _, h, hd⟩ := h.ti; B7P h hd hc hS
@[simp] theorem C4D [h : TG t n z] {b o : Nat} {c : Array Value} {T : TypeId} {f : Nat × Nat} (hm : Res.pt b (.cells c T f) ∈ H) :
  TW κ S w0 H (A6 PR (Instr.loadAt t (.pointer (some ⟨b, o, none⟩))) K) = TW κ S w0 H (rdq (N7 c.toList o n) (fun l => K (.agg l.toArray)) (A6 PR (Instr.loadAt t (.pointer (some ⟨b, o, none⟩))) K)) := by
 cases hl : N7 c.toList o n with
 | none => rfl
 | some l => exact let ⟨_, _, h, hd⟩ := h.ti; B7m h hd hm hl
@[simp] theorem C27 [h : TG t n z] {g o : Nat} {k q c : Nat} {xs : List Value} (hm : Res.own e k (.slice (some ⟨g, 0, none⟩) q c) q xs ∈ H) :
  TW κ S w0 H (A6 PR (Instr.loadAt t (.pointer (some ⟨g, o, none⟩))) K) = TW κ S w0 H (rdq (N7 xs o n) (fun l => K (.agg l.toArray)) (A6 PR (Instr.loadAt t (.pointer (some ⟨g, o, none⟩))) K)) := by
 cases hl : N7 xs o n with
 | none => rfl
 | some l => exact let ⟨_, _, h, hd⟩ := h.ti; B6E h hd hm hl
@[simp] theorem C3N [h : TG t n z] {b o : Nat} {l : List Value} (hc : W6 w0 b o n = some l) (hS : b ∉ S) :
  TW κ S w0 H (A6 PR (Instr.loadAt t (.pointer (some ⟨b, o, none⟩))) K) = TW κ S w0 H (K (.agg l.toArray)) := let ⟨_, _, h, hd⟩ := h.ti; B6l h hd hc hS
@[simp] theorem C0H [h : TS t z] {b o : Nat} {c : Array Value} {T : TypeId} {f : Nat × Nat} (hm : Res.pt b (.cells c T f) ∈ H) {v : Value} (hv : c[o]? = some v) :
  TW κ S w0 H (A6 PR (D2 [.c t (.pointer (some ⟨b, o, none⟩))]) K) = TW κ S w0 H (K v) := let ⟨_, _, h, hd⟩ := h.ti; C0p h hd hm hv
@[simp] theorem C5N [h : TG t n z] {b o : Nat} {c : Array Value} {T : TypeId} {f : Nat × Nat} (hm : Res.pt b (.cells c T f) ∈ H) :
  TW κ S w0 H (A6 PR (D2 [.c t (.pointer (some ⟨b, o, none⟩))]) K) = TW κ S w0 H (rdq (N7 c.toList o n) (fun l => K (.agg l.toArray)) (A6 PR (D2 [.c t (.pointer (some ⟨b, o, none⟩))]) K)) := by
 cases hl : N7 c.toList o n with
 | none => rfl
 | some l => exact let ⟨_, _, h, hd⟩ := h.ti; B93 h hd hm hl
@[simp] theorem C4v [h : TG t n z] {b o : Nat} {c : Array Value} {T : TypeId} {f : Nat × Nat} {x : Value} (hm : Res.pt b (.cells c T f) ∈ H) :
  TW κ S w0 H (A6 PR (D2 [.c t (.pointer (some ⟨b, o, none⟩)), .v x]) K) = TW κ S w0 H (rdq (N7 c.toList o n) (fun l => K (.tuple #[.agg l.toArray, x])) (A6 PR (D2 [.c t (.pointer (some ⟨b, o, none⟩)), .v x]) K)) := by
 cases hl : N7 c.toList o n with
 | none => rfl
 | some l =>
   obtain ⟨_, _, h, hd⟩ := h.ti
   refine TW.congr fun w hw => ?_
   rw [A7f]
   have hr := A0P hl (G9.bl (hw.pt hm)); have h2 := Z9 hr
   refine Y8 ?_ K
   have := g7 h hd h2.1 h2.2
   simp only [Instr.loadAt, Instr.sureAddr, Sem.run_bind, Sem.run_pure, Result.andThen_ok] at this
   simp [D2, A1B, RV.sem, asAddr, this, one]
@[simp] theorem C42 [h : TG t n z] {b o : Nat} {c : Array Value} {T : TypeId} {f : Nat × Nat} {x y : Value} (hm : Res.pt b (.cells c T f) ∈ H) :
  TW κ S w0 H (A6 PR (D2 [.c t (.pointer (some ⟨b, o, none⟩)), .v x, .v y]) K) = TW κ S w0 H (rdq (N7 c.toList o n) (fun l => K (.tuple #[.agg l.toArray, x, y])) (A6 PR (D2 [.c t (.pointer (some ⟨b, o, none⟩)), .v x, .v y]) K)) := by
 cases hl : N7 c.toList o n with
 | none => rfl
 | some l =>
   obtain ⟨_, _, h, hd⟩ := h.ti
   refine TW.congr fun w hw => ?_
   rw [A7f]
   have hr := A0P hl (G9.bl (hw.pt hm)); have h2 := Z9 hr
   refine Y8 ?_ K
   have := g7 h hd h2.1 h2.2
   simp only [Instr.loadAt, Instr.sureAddr, Sem.run_bind, Sem.run_pure, Result.andThen_ok] at this
   simp [D2, A1B, RV.sem, asAddr, this, one]
@[simp] theorem C1E [h : TS t z] {b o : Nat} {c : Array Value} {T : TypeId} {f : Nat × Nat} {v : Value} {l : List Rd} (hm : Res.pt b (.cells c T f) ∈ H) (hv : c[o]? = some v) :
  TW κ S w0 H (watch PR ((none, Instr.loadAt t (.pointer (some ⟨b, o, none⟩)), v) :: l) K0) = TW κ S w0 H (watch PR l K0) := let ⟨_, _, h, hd⟩ := h.ti; A3Q fun w hw => j7 h hd (by rw [G7 (hw.pt hm)]; exact hv)
@[simp] theorem C0x [h : TS t z] {g o : Nat} {k q c : Nat} {xs : List Value} {v : Value} {l : List Rd} (hm : Res.own e k (.slice (some ⟨g, 0, none⟩) q c) q xs ∈ H) (hv : xs[o]? = some v) :
  TW κ S w0 H (watch PR ((none, Instr.loadAt t (.pointer (some ⟨g, o, none⟩)), v) :: l) K0) = TW κ S w0 H (watch PR l K0) := let ⟨_, _, h, hd⟩ := h.ti; A3Q fun w hw => j7 h hd (by have := (hw.ownr hm).get hv; rwa [Nat.zero_add] at this)
@[simp] theorem C00 [h : TS t z] {b o : Nat} {v : Value} {l : List Rd} (hc : w0.cell? ⟨b, o, none⟩ = some v) (hS : b ∉ S) :
  TW κ S w0 H (watch PR ((none, Instr.loadAt t (.pointer (some ⟨b, o, none⟩)), v) :: l) K0) = TW κ S w0 H (watch PR l K0) := let ⟨_, _, h, hd⟩ := h.ti; A3Q fun w hw => j7 h hd (hw.ks.cell hS hc)
@[simp] theorem C5p [h : TA t n z] {v : Value} {b o : Nat} {c : Array Value} {T : TypeId} (hv : v.cells.size = n)
  (hu : Up (.pt b (.cells c T (0, 0))) (.pt b (.cells (D6 c o v.cells.toList) T (0, 0))) H H') (hs : o + n ≤ c.size) (hp : v.cells.toList.all plain = true) :
  TW κ S w0 H (B6 PR X (Instr.storeAt t (.pointer (some ⟨b, o, none⟩)) v) K0) = TW κ S w0 H' K0 := let ⟨_, _, h⟩ := h.ti; C4K h hv hu hs hp
theorem W4 [h : TA t n z] {v : Value} {g o q c : Nat} {xs : List Value} (hu : Up (.own e k (.slice (some ⟨g, 0, none⟩) q c) q xs) (.own e k (.slice (some ⟨g, 0, none⟩) q c) q (n7 xs o v.cells.toList)) H H')
  (hv : v.cells.size = n) (hs : o + n ≤ xs.length) (hp : v.cells.toList.all plain = true) (hK : TW κ S w0 H' K0) :
  TW κ S w0 H (B6 PR X (Instr.storeAt t (.pointer (some ⟨g, o, none⟩)) v) K0) := let ⟨_, _, h⟩ := h.ti; B7U h hv hu hs hp hK
theorem A4 [h : TA t n z] (hK : ∀ b, TW κ S w0 (.pt b (.cells z.cells t) :: H) (K (.pointer (some ⟨b, 0, none⟩)))) : TW κ S w0 H (B1 PR X (Instr.alloc t true (.tuple #[])) K) := let ⟨_, _, h⟩ := h.ti; C4Y h hK
theorem B78 {k1 k2 : IntKind} {l : Int} [h : SL t e k by' z] (h0 : 0 ≤ l) (hb : l * by' ≤ 140737488355328) (hc : l ≤ 9223372036854775807) (hk : 0 < k)
  (hK : ∀ b, TW κ S w0 (.own e k (.slice (some ⟨b, 0, none⟩) l.toNat l.toNat) l.toNat (Builtin.zeroCells z.cells l.toNat).toList :: H) (K (.slice (some ⟨b, 0, none⟩) l.toNat l.toNat))) :
  TW κ S w0 H (B1 PR X (Instr.makeSlice t (.int k1 l) (.int k2 l)) K) := let ⟨⟨_, _, _, h1⟩, ⟨_, h2⟩, h3⟩ := h.ti; C37 h1 h2 h3 hk h0 rfl hb hc hK
theorem E0 [h : SL t e k by' z] (hK : ∀ b, TW κ S w0 (.own e k (.slice (some ⟨b, 0, none⟩) 0 0) 0 [] :: H) (K (.slice (some ⟨b, 0, none⟩) 0 0))) : TW κ S w0 H (B1 PR X (Instr.buildSlice t 0 #[]) K) :=
 let ⟨⟨_, _, _, h1⟩, ⟨_, h2⟩, h3⟩ := h.ti; C1p h1 h2 hK
theorem B7g {m n q : Nat} (hq : 0 < n) : ∀ (vs : List Value) (i : Nat) (cs : Array Value), (∀ v ∈ vs, v.cells.size = n) → (i + vs.length) * n ≤ cs.size →
  Instr.fill (fun i => some (i * n, n)) cs ((List.range' i vs.length).zip vs) = some (D6 cs (i * n) (vs.flatMap fun v => v.cells.toList)) := by
 intro vs
 induction vs with
 | nil => intro i cs _ _; simp [Instr.fill]
 | cons v vs ih =>
  intro i cs hv hs
  simp only [List.length_cons] at hs
  have hv0 : v.cells.size = n := hv v (by simp)
  have e1 : (i + (vs.length + 1)) * n = i * n + n + vs.length * n := by rw [Nat.add_mul, Nat.add_mul]; omega
  simp only [List.length_cons, List.range'_succ, List.zip_cons_cons]
  rw [B3 rfl hv0 (by omega), ih (i + 1) _ (fun u hu => hv u (by simp [hu])) (by rw [C0]; (have : (i + 1 + vs.length) * n = i * n + n + vs.length * n := by (rw [Nat.add_mul, Nat.add_mul]; omega)); omega)]
  have spl_spl : ∀ (l l' : List Value) (c : Array Value) (o : Nat), D6 (D6 c o l) (o + l.length) l' = D6 c o (l ++ l') := by
   intro l
   induction l with
   | nil => intro l' c o; simp
   | cons u l ih => intro l' c o; simp only [B2f, List.cons_append, List.length_cons]; rw [← ih]; congr 1; omega
  rw [List.flatMap_cons, ← spl_spl]
  congr 2
  have : v.cells.toList.length = n := by simp [hv0]
  rw [this, Nat.add_mul]; omega
theorem B16 {len : Nat} {parts : Array (Nat × Value)} (vs : List Value) [h : SL t e k by' z] (hk : 0 < k) (h0 : 0 < len) (hb : len * k ≤ 2 ^ 24) (hp : parts.toList = (List.range' 0 len).zip vs) (hl : vs.length = len) (hv : ∀ v ∈ vs, v.cells.size = k)
  (hK : ∀ b, TW κ S w0 (.own e k (.slice (some ⟨b, 0, none⟩) len len) len (vs.flatMap fun v => v.cells.toList) :: H) (K (.slice (some ⟨b, 0, none⟩) len len))) :
  TW κ S w0 H (B1 PR X (Instr.buildSlice t len parts) K) := by
 obtain ⟨⟨_, _, _, h1⟩, ⟨_, h2⟩, h3⟩ := h.ti
 have hlen : (vs.flatMap fun v => v.cells.toList).length = len * k := by
  rw [← hl]; clear hp hl hK hb h0
  induction vs with
  | nil => simp
  | cons v vs ih =>
   have := hv v (by simp)
   rw [List.flatMap_cons, List.length_append, ih fun u hu => hv u (by simp [hu])]
   simp only [Array.length_toList, List.length_cons, this]; rw [Nat.add_mul]; omega
 have hf := B7g (m := 0) (q := 0) hk vs 0 ((Array.range (len * k)).map (z.cells[· % z.cells.size]!)) hv (by simp [hl])
 rw [hl, ← hp] at hf
 have hz : D6 ((Array.range (len * k)).map (z.cells[· % z.cells.size]!)) (0 * k) (vs.flatMap fun v => v.cells.toList) = (vs.flatMap fun v => v.cells.toList).toArray := by
  apply Array.toList_inj.1
  rw [A1Q _ _ _ (by simp [-List.length_flatMap, hlen])]
  simp only [Nat.zero_mul, List.take_zero, List.nil_append, hlen, Nat.zero_add]
  rw [List.drop_eq_nil_of_le (by simp)]; simp
 refine C30 h1 h2 hb (by have : 0 < len * k := Nat.mul_pos h0 hk; omega) (hf.trans (by rw [hz])) (by simp [-List.length_flatMap, hlen]) ?_
 simpa using hK
theorem E2 {v0 : Value} [h : SL t e k by' z] (hk : 0 < k := by decide) (hb : 1 * k ≤ 2 ^ 24 := by decide) (h0 : v0.cells.size = k := by simp) (hK : ∀ b, TW κ S w0 (.own e k (.slice (some ⟨b, 0, none⟩) 1 1) 1 (v0.cells.toList) :: H) (K (.slice (some ⟨b, 0, none⟩) 1 1))) :
  TW κ S w0 H (B1 PR X (Instr.buildSlice t 1 #[(0, v0)]) K) := B16 [v0] hk (by omega) hb rfl rfl (by intro v hv; simp only [List.mem_cons, List.not_mem_nil, or_false] at hv; subst hv; assumption) (by simpa using hK)
theorem E3 {v0 v1 : Value} [h : SL t e k by' z] (hk : 0 < k := by decide) (hb : 2 * k ≤ 2 ^ 24 := by decide) (h0 : v0.cells.size = k := by simp) (h1 : v1.cells.size = k := by simp) (hK : ∀ b, TW κ S w0 (.own e k (.slice (some ⟨b, 0, none⟩) 2 2) 2 (v0.cells.toList ++ v1.cells.toList) :: H) (K (.slice (some ⟨b, 0, none⟩) 2 2))) :
  TW κ S w0 H (B1 PR X (Instr.buildSlice t 2 #[(0, v0), (1, v1)]) K) := B16 [v0, v1] hk (by omega) hb rfl rfl (by intro v hv; simp only [List.mem_cons, List.not_mem_nil, or_false] at hv; rcases hv with rfl | rfl <;> assumption) (by simpa using hK)
theorem E1 {v0 v1 v2 : Value} [h : SL t e k by' z] (hk : 0 < k := by decide) (hb : 3 * k ≤ 2 ^ 24 := by decide) (h0 : v0.cells.size = k := by simp) (h1 : v1.cells.size = k := by simp) (h2 : v2.cells.size = k := by simp) (hK : ∀ b, TW κ S w0 (.own e k (.slice (some ⟨b, 0, none⟩) 3 3) 3 (v0.cells.toList ++ v1.cells.toList ++ v2.cells.toList) :: H) (K (.slice (some ⟨b, 0, none⟩) 3 3))) :
  TW κ S w0 H (B1 PR X (Instr.buildSlice t 3 #[(0, v0), (1, v1), (2, v2)]) K) := B16 [v0, v1, v2] hk (by omega) hb rfl rfl (by intro v hv; simp only [List.mem_cons, List.not_mem_nil, or_false] at hv; rcases hv with rfl | rfl | rfl <;> assumption) (by simpa using hK)
theorem D9 {v0 v1 v2 v3 v4 : Value} [h : SL t e k by' z] (hk : 0 < k := by decide) (hb : 5 * k ≤ 2 ^ 24 := by decide) (h0 : v0.cells.size = k := by simp) (h1 : v1.cells.size = k := by simp) (h2 : v2.cells.size = k := by simp) (h3 : v3.cells.size = k := by simp) (h4 : v4.cells.size = k := by simp) (hK : ∀ b, TW κ S w0 (.own e k (.slice (some ⟨b, 0, none⟩) 5 5) 5 (v0.cells.toList ++ v1.cells.toList ++ v2.cells.toList ++ v3.cells.toList ++ v4.cells.toList) :: H) (K (.slice (some ⟨b, 0, none⟩) 5 5))) :
  TW κ S w0 H (B1 PR X (Instr.buildSlice t 5 #[(0, v0), (1, v1), (2, v2), (3, v3), (4, v4)]) K) := B16 [v0, v1, v2, v3, v4] hk (by omega) hb rfl rfl (by intro v hv; simp only [List.mem_cons, List.not_mem_nil, or_false] at hv; rcases hv with rfl | rfl | rfl | rfl | rfl <;> assumption) (by simpa using hK)
theorem E4 {v0 v1 v2 v3 v4 v5 : Value} [h : SL t e k by' z] (hk : 0 < k := by decide) (hb : 6 * k ≤ 2 ^ 24 := by decide) (h0 : v0.cells.size = k := by simp) (h1 : v1.cells.size = k := by simp) (h2 : v2.cells.size = k := by simp) (h3 : v3.cells.size = k := by simp) (h4 : v4.cells.size = k := by simp) (h5 : v5.cells.size = k := by simp) (hK : ∀ b, TW κ S w0 (.own e k (.slice (some ⟨b, 0, none⟩) 6 6) 6 (v0.cells.toList ++ v1.cells.toList ++ v2.cells.toList ++ v3.cells.toList ++ v4.cells.toList ++ v5.cells.toList) :: H) (K (.slice (some ⟨b, 0, none⟩) 6 6))) :
  TW κ S w0 H (B1 PR X (Instr.buildSlice t 6 #[(0, v0), (1, v1), (2, v2), (3, v3), (4, v4), (5, v5)]) K) := B16 [v0, v1, v2, v3, v4, v5] hk (by omega) hb rfl rfl (by intro v hv; simp only [List.mem_cons, List.not_mem_nil, or_false] at hv; rcases hv with rfl | rfl | rfl | rfl | rfl | rfl <;> assumption) (by simpa using hK)
theorem Q7.form {w : World} {e : TypeId} {k n : Nat} {v : Value} {xs : List Value} (h : Q7 w e k v n xs) : ∃ a c, v = .slice a n c := by
 rcases h.2 with ⟨rfl, rfl⟩ | ⟨g, cap, cur, rfl, _⟩
 ·exact ⟨_, _, rfl⟩
 ·exact ⟨_, _, rfl⟩
theorem C0l {q : Nat} {xs : List Value} {A : Value → WP} (h : ∀ a c, TW κ S w0 (.own e k (.slice a q c) q xs :: H) (A (.slice a q c))) (v : Value) : TW κ S w0 (.own e k v q xs :: H) (A v) := fun w hw => by
 obtain ⟨a, c, rfl⟩ := Q7.form (hw.hold _ A1)
 exact h a c w hw
theorem A2A {ty : TypeId} {v x : Value} {q r : Nat} {xs news : List Value} [h : SL t e k by' z] (hs : Sel (.own e k v q xs) H Hr) (hx : H4 κ S w0 H x r news) (hk : 0 < k) (hl : news.length = r * k) (hp : news.all plain = true)
  (h63 : q + r ≤ maxLen) (hby : (q + r) * by' ≤ 140737488355328) (hK : ∀ a c, TW κ S w0 (.own e k (.slice a (q + r) c) (q + r) (xs ++ news) :: Hr) (K (.slice a (q + r) c))) : TW κ S w0 H (B1 PR X (A8 .append #[t, t] ty [v, x]) K) := by
 obtain ⟨⟨_, _, _, h1⟩, ⟨_, h2⟩, h3⟩ := h.ti
 refine TW.perm ?_ hs.perm
 exact C1B (H'' := fun v' => .own e k v' (q + r) (xs ++ news) :: Hr) h1 h2 h3 hk (fun v' => .here) (fun w hw => hx w (hw.perm hs.perm.symm)) hl hp h63 hby (C0l hK)
end
end Go.Proofs.YtlplkjgcfjdinaaGreat
namespace Go.Proofs.YtlplkjgcfjdinaaGreat
open Go
instance : TS 3 (.int .i64 0) := ⟨_, _, F5, rfl⟩
instance : TS 5 (.int .u8 0) := ⟨_, _, ty5, rfl⟩
instance : TS 9 (.string (ByteArray.mk #[])) := ⟨_, _, y9, rfl⟩
instance : TG 23 5 (.agg #[(.int .i64 0), (.int .i64 0), (.int .i64 0), (.int .i64 0), (.int .i64 0)]) := ⟨_, _, A5L, rfl⟩
instance : TS 24 (.slice none 0 0) := ⟨_, _, B4J, rfl⟩
instance : SL 24 53 1 24 (.slice none 0 0) := ⟨⟨_, _, _, B4J⟩, ⟨_, A9H⟩, rfl⟩
instance : TS 29 .nilFunc := ⟨_, _, C0K, rfl⟩
instance : TS 32 (.slice none 0 0) := ⟨_, _, B40, rfl⟩
instance : SL 32 47 10 80 (.agg #[(.int .i64 0), (.int .i64 0), (.int .i64 0), (.int .i64 0), (.int .i64 0), (.int .i64 0), (.int .i64 0), (.int .i64 0), (.bool false), (.int .i64 0)]) := ⟨⟨_, _, _, B40⟩, ⟨_, A0L⟩, rfl⟩
instance : SL 35 3 1 8 (.int .i64 0) := ⟨⟨_, _, _, B4C⟩, ⟨_, F5⟩, rfl⟩
instance : TS 42 (.int .i64 0) := ⟨_, _, B3y, rfl⟩
instance : TG 44 4 (.agg #[(.int .i64 0), (.int .i64 0), (.bool false), (.int .i64 0)]) := ⟨_, _, A4b, rfl⟩
instance : TG 46 10 (.agg #[(.int .i64 0), (.int .i64 0), (.int .i64 0), (.int .i64 0), (.int .i64 0), (.int .i64 0), (.int .i64 0), (.int .i64 0), (.bool false), (.int .i64 0)]) := ⟨_, _, B4w, rfl⟩
instance : TG 47 10 (.agg #[(.int .i64 0), (.int .i64 0), (.int .i64 0), (.int .i64 0), (.int .i64 0), (.int .i64 0), (.int .i64 0), (.int .i64 0), (.bool false), (.int .i64 0)]) := ⟨_, _, A0L, rfl⟩
instance : TS 50 (.slice none 0 0) := ⟨_, _, A7Q, rfl⟩
instance : SL 50 129 2 16 (.agg #[(.int .i64 0), (.int .i64 0)]) := ⟨⟨_, _, _, A7Q⟩, ⟨_, A8F⟩, rfl⟩
instance : TG 52 4 (.agg #[(.int .i64 0), (.string (ByteArray.mk #[])), (.slice none 0 0), (.int .i64 0)]) := ⟨_, _, A5Z, rfl⟩
instance : TS 53 (.slice none 0 0) := ⟨_, _, A9H, rfl⟩
instance : SL 53 52 4 56 (.agg #[(.int .i64 0), (.string (ByteArray.mk #[])), (.slice none 0 0), (.int .i64 0)]) := ⟨⟨_, _, _, A9H⟩, ⟨_, A5Z⟩, rfl⟩
instance : TS 57 .nilFunc := ⟨_, _, C4E, rfl⟩
instance : TS 60 (.pointer none) := ⟨_, _, C4N, rfl⟩
instance : TS 76 (.slice none 0 0) := ⟨_, _, B2W, rfl⟩
instance : SL 76 84 2 32 (.agg #[(.slice none 0 0), (.int .i64 0)]) := ⟨⟨_, _, _, B2W⟩, ⟨_, B4n⟩, rfl⟩
instance : TS 79 (.slice none 0 0) := ⟨_, _, A9m, rfl⟩
instance : SL 79 119 4 40 (.agg #[(.int .i64 0), (.string (ByteArray.mk #[])), (.int .i64 0), (.int .i64 0)]) := ⟨⟨_, _, _, A9m⟩, ⟨_, A0d⟩, rfl⟩
instance : TS 85 .nilFunc := ⟨_, _, C4M, rfl⟩
instance : TS 105 .nilFunc := ⟨_, _, B4e, rfl⟩
instance : TG 106 4 (.agg #[.nilFunc, .nilFunc, .nilFunc, .nilFunc]) := ⟨_, _, B4G, rfl⟩
instance : TG 108 6 (.agg #[(.int .i64 0), (.string (ByteArray.mk #[])), (.string (ByteArray.mk #[])), (.int .i64 0), (.int .i64 0), (.int .i64 0)]) := ⟨_, _, A0S, rfl⟩
instance : TG 110 7 (.agg #[(.int .i64 0), (.string (ByteArray.mk #[])), (.string (ByteArray.mk #[])), (.int .i64 0), (.int .i64 0), (.int .i64 0), (.int .i64 0)]) := ⟨_, _, A8H, rfl⟩
instance : TG 119 4 (.agg #[(.int .i64 0), (.string (ByteArray.mk #[])), (.int .i64 0), (.int .i64 0)]) := ⟨_, _, A0d, rfl⟩
instance : TS 122 (.int .u64 0) := ⟨_, _, A2m, rfl⟩
instance : TG 129 2 (.agg #[(.int .i64 0), (.int .i64 0)]) := ⟨_, _, A8F, rfl⟩
instance : SL 147 179 2 16 (.agg #[(.int .u64 0), (.int .i64 0)]) := ⟨⟨_, _, _, C2J⟩, ⟨_, B1E⟩, rfl⟩
instance : TG 153 3 (.agg #[(.int .i64 0), (.int .i64 0), (.int .i64 0)]) := ⟨_, _, A38, rfl⟩
instance : TG 159 38 (.agg #[(.int .u8 0), (.int .u8 0), (.int .u8 0), (.int .u8 0), (.int .u8 0), (.int .u8 0), (.int .u8 0), (.int .u8 0), (.int .u8 0), (.int .u8 0), (.int .u8 0), (.int .u8 0), (.int .u8 0), (.int .u8 0), (.int .u8 0), (.int .u8 0), (.int .u8 0), (.int .u8 0), (.int .u8 0), (.int .u8 0), (.int .u8 0), (.int .u8 0), (.int .u8 0), (.int .u8 0), (.int .u8 0), (.int .u8 0), (.int .u8 0), (.int .u8 0), (.int .u8 0), (.int .u8 0), (.int .u8 0), (.int .u8 0), (.int .u8 0), (.int .u8 0), (.int .u8 0), (.int .u8 0), (.int .u8 0), (.int .u8 0)]) := ⟨_, _, B38, rfl⟩
instance : TS 160 (.slice none 0 0) := ⟨_, _, A6E, rfl⟩
instance : SL 160 5 1 1 (.int .u8 0) := ⟨⟨_, _, _, A6E⟩, ⟨_, ty5⟩, rfl⟩
instance : TG 164 2 (.agg #[(.int .i64 0), (.int .i64 0)]) := ⟨_, _, A8d, rfl⟩
instance : TS 165 .nilFunc := ⟨_, _, C1A, rfl⟩
instance : TG 184 3 (.agg #[(.string (ByteArray.mk #[])), (.string (ByteArray.mk #[])), (.int .i64 0)]) := ⟨_, _, A6D, rfl⟩
instance : TG 188 3 (.agg #[(.string (ByteArray.mk #[])), (.string (ByteArray.mk #[])), (.int .i64 0)]) := ⟨_, _, A6H, rfl⟩
instance : TS 205 (.slice none 0 0) := ⟨_, _, B5C, rfl⟩
instance : SL 207 164 2 16 (.agg #[(.int .i64 0), (.int .i64 0)]) := ⟨⟨_, _, _, B4S⟩, ⟨_, A8d⟩, rfl⟩
instance : TG 219 2 (.agg #[.nilFunc, (.int .i64 0)]) := ⟨_, _, A6G, rfl⟩
instance : SL 221 9 1 16 (.string (ByteArray.mk #[])) := ⟨⟨_, _, _, B8P⟩, ⟨_, y9⟩, rfl⟩
instance : TS 227 .nilFunc := ⟨_, _, C2K, rfl⟩
instance : TS 229 (.int .u64 0) := ⟨_, _, B8G, rfl⟩
instance : TS 237 (.slice none 0 0) := ⟨_, _, B33, rfl⟩
instance : TS 239 (.slice none 0 0) := ⟨_, _, B08, rfl⟩
instance : SL 239 241 2 16 (.agg #[(.int .u64 0), (.int .i64 0)]) := ⟨⟨_, _, _, B08⟩, ⟨_, A35⟩, rfl⟩
instance : TG 241 2 (.agg #[(.int .u64 0), (.int .i64 0)]) := ⟨_, _, A35, rfl⟩
instance : SL 251 219 2 16 (.agg #[.nilFunc, (.int .i64 0)]) := ⟨⟨_, _, _, B4N⟩, ⟨_, A6G⟩, rfl⟩
@[simp] theorem C4P (a0 b0 : Int) (a1 b1 : Int) (a2 b2 : Bool) (a3 b3 : Int) (x y : Operand) (K : Value → WP) : A6 PR (q5 .eql 44 x y (.agg #[.int .i64 a0, .int .i64 a1, .bool a2, .int .i64 a3]) (.agg #[.int .i64 b0, .int .i64 b1, .bool b2, .int .i64 b3])) K = K (.bool (decide (a0 = b0) && (decide (a1 = b1) && ((a2 == b2) && (decide (a3 = b3) && true))))) := funext fun w => B7L a0 b0 a1 b1 a2 b2 a3 b3 x y K w
end Go.Proofs.YtlplkjgcfjdinaaGreat
namespace Go.Proofs.YtlplkjgcfjdinaaGreat
open Go
def A82 (n i : Nat) : List Value := [.int .i64 (i : Int), .int .u64 (8 * ((n : Int) - 1 - i))]
abbrev B6J (b : Nat) : Value := .func (.func 150) #[] #[.pointer (some ⟨b, 0, none⟩)]
theorem B1G (w : World) (n : Int) : Fn PR B5 122 #[.int .i64 n] w (Rn [] w (fun b v => v = B6J b) fun b => [.pt b (.cells #[.int .i64 n] 3)]) := by
 refine A80 (TW.go (κ := false) (S := []) ?_)
 unfold A3P
 (have zz:=trivial;repeat((first|clear zz|with_reducible first|refine A3 ?_|refine A5 fun _=>?_|refine A4 fun _=>?_);try simp(disch:=first|omega|assumption|((repeat(first|exact A1|exact uH|apply A2|apply uT));first|done|fail)|(simp;first|done|omega|fail))[]))
 rename_i b
 exact k7 b rfl (by simp)
theorem B1e (b : Nat) {n : Nat} (hn : n ≤ 8) : A1W (B6J b) [.pt b (.cells #[.int .i64 (n : Int)] 3)] (fun _ _ => True) ((List.range n).map (A82 n)) := by
 refine ⟨_, _, _, rfl, fun l J E hJ hE stJ stE hy w0 h0 => ?_⟩
 refine A6Q (A6Y (TW.at (κ := true) ?_ (hJ _ _ _ h0).1))
 unfold A1K
 (have zz:=trivial;repeat((first|clear zz|with_reducible first|refine A3 ?_|refine A5 fun _=>?_|refine A4 fun _=>?_);try simp(disch:=first|omega|assumption|((repeat(first|exact A1|exact uH|apply A2|apply uT));first|done|fail)|(simp;first|done|omega|fail))[]))
 refine A10 n (fun i => i) (fun _ => _) hJ stJ h0 fun i a hi hJi _ L hL => ?_
 by_cases hlt : i < n
 ·(have zz:=trivial;repeat((first|clear zz|with_reducible first|refine A3 ?_|refine A5 fun _=>?_|refine A4 fun _=>?_);try simp(disch:=first|omega|assumption|((repeat(first|exact A1|exact uH|apply A2|apply uT));first|done|fail)|(simp;first|done|omega|fail))[hlt]))
  refine A2M hJ hE stJ hy hJi (by simpa using hlt) (by simp [A82]) (fun w3 h => ?_) (fun w3 h => ?_)
  ·(have zz:=trivial;repeat((first|clear zz|with_reducible first|refine A3 ?_|refine A5 fun _=>?_|refine A4 fun _=>?_);try simp(disch:=first|omega|assumption|((repeat(first|exact A1|exact uH|apply A2|apply uT));first|done|fail)|(simp;first|done|omega|fail))[]))
   exact fun w' hw' => hL hlt w' (stJ _ _ _ _ _ h hw')
  ·(have zz:=trivial;repeat((first|clear zz|with_reducible first|refine A3 ?_|refine A5 fun _=>?_|refine A4 fun _=>?_);try simp(disch:=first|omega|assumption|((repeat(first|exact A1|exact uH|apply A2|apply uT));first|done|fail)|(simp;first|done|omega|fail))[]))
   exact A0j stE h
 ·obtain rfl : i = n := by omega
  (have zz:=trivial;repeat((first|clear zz|with_reducible first|refine A3 ?_|refine A5 fun _=>?_|refine A4 fun _=>?_);try simp(disch:=first|omega|assumption|((repeat(first|exact A1|exact uH|apply A2|apply uT));first|done|fail)|(simp;first|done|omega|fail))[]))
  exact A05 stJ (by simpa using hJi)
def D4 (s : ByteArray) (i : Nat) : Nat := (s.data.getD i 0).toNat
def j3 (s : ByteArray) (a : Nat) : Nat → Nat
 | 0 => 0
 | i + 1 => j3 s a i * 256 + D4 s (a + i)
theorem r8 (s : ByteArray) (i : Nat) : D4 s i < 256 := (s.data.getD i 0).toNat_lt
theorem A5J (s : ByteArray) (a i : Nat) : j3 s a i < 256 ^ i := by
 induction i with
 | zero => simp [j3]
 | succ i ih =>
  have := r8 s (a + i)
  simp only [j3, Nat.pow_succ]
  omega
theorem r4 {s : ByteArray} {i : Nat} (h : i < s.size) : ∃ b : UInt8, s[i]? = some b ∧ b.toNat = D4 s i := by
 refine ⟨s[i], by simp [h], ?_⟩
 have h' : i < s.data.size := h
 have e : s.data.getD i 0 = s[i] := by rw [Array.getD_eq_getD_getElem?, Array.getElem?_eq_getElem h']; rfl
 rw [D4, e]
def A0a (s : ByteArray) (a n : Int) : Bool := decide (1 ≤ n ∧ n ≤ 8 ∧ 0 ≤ a ∧ a ≤ s.size - n)
def A2u (s : ByteArray) (a n : Int) : Int := if A0a s a n = true then (j3 s a.toNat n.toNat : Nat) else 0
theorem A0l (w : World) (s : ByteArray) (hs : s.size < 2 ^ 62) (a n : Int) :
  Fn PR B5 120 #[.string s, .int .i64 a, .int .i64 n] w (fun v w' => v = .tuple #[.int .u64 (A2u s a n), .bool (A0a s a n)] ∧ C6 [] w w') := by
 refine Fn.pure (B1V (TW.go (κ := false) (S := []) ?_))
 unfold A5B
 by_cases hok : A0a s a n = true
 case neg =>
  have hv : A2u s a n = 0 := if_neg hok
  have hok' : A0a s a n = false := by simpa using hok
  rw [hv, hok']
  have hc : n < 1 ∨ 8 < n ∨ a < 0 ∨ (s.size : Int) - n < a := by
   simp only [A0a, decide_eq_true_eq] at hok; omega
  by_cases h1 : n < 1
  ·(have zz:=trivial;repeat((first|clear zz|with_reducible first|refine A3 ?_|refine A5 fun _=>?_|refine A4 fun _=>?_);try simp(disch:=first|omega|assumption|((repeat(first|exact A1|exact uH|apply A2|apply uT));first|done|fail)|(simp;first|done|omega|fail))[h1])); exact B0 rfl
  by_cases h2 : 8 < n
  ·(have zz:=trivial;repeat((first|clear zz|with_reducible first|refine A3 ?_|refine A5 fun _=>?_|refine A4 fun _=>?_);try simp(disch:=first|omega|assumption|((repeat(first|exact A1|exact uH|apply A2|apply uT));first|done|fail)|(simp;first|done|omega|fail))[h1, h2])); exact B0 rfl
  by_cases h3 : a < 0
  ·(have zz:=trivial;repeat((first|clear zz|with_reducible first|refine A3 ?_|refine A5 fun _=>?_|refine A4 fun _=>?_);try simp(disch:=first|omega|assumption|((repeat(first|exact A1|exact uH|apply A2|apply uT));first|done|fail)|(simp;first|done|omega|fail))[h1, h2, h3])); exact B0 rfl
  have h4 : (s.size : Int) - n < a := by omega
  (have zz:=trivial;repeat((first|clear zz|with_reducible first|refine A3 ?_|refine A5 fun _=>?_|refine A4 fun _=>?_);try simp(disch:=first|omega|assumption|((repeat(first|exact A1|exact uH|apply A2|apply uT));first|done|fail)|(simp;first|done|omega|fail))[h1, h2, h3, h4])); exact B0 rfl
 have hv : A2u s a n = (j3 s a.toNat n.toNat : Nat) := if_pos hok
 rw [hv, hok]
 simp only [A0a, decide_eq_true_eq] at hok
 obtain ⟨m, rfl⟩ : ∃ m : Nat, n = m := ⟨n.toNat, by omega⟩
 obtain ⟨k, rfl⟩ : ∃ k : Nat, a = k := ⟨a.toNat, by omega⟩
 have h1 : ¬ (m : Int) < 1 := by omega
 have h2 : ¬ 8 < (m : Int) := by omega
 have h4 : ¬ (s.size : Int) - m < k := by omega
 have h5 : ¬ (k : Int) < 0 := by omega
 (have zz:=trivial;repeat((first|clear zz|with_reducible first|refine A3 ?_|refine A5 fun _=>?_|refine A4 fun _=>?_);try simp(disch:=first|omega|assumption|((repeat(first|exact A1|exact uH|apply A2|apply uT));first|done|fail)|(simp;first|done|omega|fail))[h1, h2, h4, h5]))
 rename_i bs ba bv
 refine G5 A2Z (fun w' _ => B1G w' m) ?_
 rintro b v rfl
 refine A0c (B1e b (n := m) (by omega)) (by simp [A82]) (fun _ (_ : Unit) => True) (fun i _ => [.pt bv (.cells #[.int .u64 ((j3 s k i * 256 ^ (m - i) : Nat) : Int)] 122), .pt ba (.cells #[.int .i64 (k : Int)] 3), .pt bs (.cells #[.string s] 9)])
  (fun _ (_ : Unit) => False) (fun _ => []) () trivial ?_ ?_ ?_ ?_ (by simp [j3])
 ·intros; trivial
 ·rintro i hi _ F _ K' hK _
  have hi' : i < m := by simpa using hi
  obtain ⟨by0, hb0, hb1⟩ := r4 (s := s) (i := k + i) (by omega)
  have hidx : ((k : Int) + i).toNat = k + i := by omega
  have hbl := r8 s (k + i)
  rw [← hidx] at hb0
  have hsh : (0 : Int) ≤ 8 * ((m : Int) - 1 - i) := by omega
  simp only [List.getElem_map, List.getElem_range, A82, VF.app]
  (have zz:=trivial;repeat((first|clear zz|with_reducible first|refine A3 ?_|refine A5 fun _=>?_|refine A4 fun _=>?_);try simp(disch:=first|omega|assumption|((repeat(first|exact A1|exact uH|apply A2|apply uT));first|done|fail)|(simp;first|done|omega|fail))[V0]))
  refine TW.eqH ?_ (hK () trivial)
  have hlt : (j3 s k i * 256 + D4 s (k + i)) * 256 ^ (m - 1 - i) < 2 ^ 64 := by
   have hA : j3 s k (i + 1) < 256 ^ (i + 1) := A5J s k (i + 1)
   have h8 : 256 ^ (i + 1) * 256 ^ (m - 1 - i) ≤ 2 ^ 64 := by
    rw [← Nat.pow_add, show (2 : Nat) ^ 64 = 256 ^ 8 from rfl]
    exact Nat.pow_le_pow_right (by omega) (by omega)
   exact Nat.lt_of_lt_of_le (Nat.mul_lt_mul_of_pos_right hA (Nat.pow_pos (by omega))) h8
  have hval := B9H hbl hlt (by omega)
  rw [show m - (i + 1) = m - 1 - i from by omega]
  simp [j3, ← hval]
  rw [hb1, show (8 * ((m : Int) - 1 - i)).toNat = 8 * (m - 1 - i) from by omega, show m - i = m - 1 - i + 1 from by omega]
 ·rintro _ _
  (have zz:=trivial;repeat((first|clear zz|with_reducible first|refine A3 ?_|refine A5 fun _=>?_|refine A4 fun _=>?_);try simp(disch:=first|omega|assumption|((repeat(first|exact A1|exact uH|apply A2|apply uT));first|done|fail)|(simp;first|done|omega|fail))[]))
  exact B0 (by simp)
 ·rintro _ _ h; exact h.elim
def B07 (v : Int) (n i : Nat) : Int := IntKind.u8.wrap (v.fdiv (2 ^ min (8 * ((n : Int) - 1 - i)).toNat IntKind.u64.bits))
def r3 (v : Int) (n i : Nat) : List Int := (List.range n).map fun j => if j < i then B07 v n j else 0
def F7 (v n : Int) : ByteArray := if 1 ≤ n ∧ n ≤ 8 then A1Z (r3 v n.toNat n.toNat) else ByteArray.mk #[]
theorem B7u (v : Int) {n i : Nat} (h : i < n) : (r3 v n i).set i (B07 v n i) = r3 v n (i + 1) := by
 apply List.ext_getElem (by simp [r3])
 intro j h1 h2
 simp only [r3, List.length_set, List.length_map, List.length_range] at h1
 rw [List.getElem_set]
 simp only [r3, List.getElem_map, List.getElem_range]
 by_cases hij : i = j
 ·subst hij; simp
 ·by_cases hj : j < i
  ·simp [hij, hj, Nat.lt_succ_of_lt hj]
  ·have : ¬ j < i + 1 := by omega
   simp [hij, hj, this]
def A21 (v : Int) (n i : Nat) : Array Value := ((r3 v n i).map (Value.int .u8)).toArray
theorem B6f (v : Int) {m : Nat} (h : m ≤ 8) : Builtin.zeroCells (Value.int .u8 0).cells m = A21 v m 0 := by
 have : m = 0 ∨ m = 1 ∨ m = 2 ∨ m = 3 ∨ m = 4 ∨ m = 5 ∨ m = 6 ∨ m = 7 ∨ m = 8 := by omega
 rcases this with rfl | rfl | rfl | rfl | rfl | rfl | rfl | rfl | rfl <;>
  (apply Array.ext'; simp [Builtin.zeroCells, A21, r3, List.range, List.range.loop])
@[simp] theorem C3M {v n : Int} (h1 : 1 ≤ n) (h2 : n ≤ 8) : (F7 v n).size = n.toNat := by simp [F7, h1, h2, r3]
theorem j8 (w : World) (v n : Int) :
  Fn PR B5 95 #[.int .u64 v, .int .i64 n] w (fun u w' => u = .string (F7 v n) ∧ C6 [] w w') := by
 refine Fn.pure (B1q (TW.go (κ := false) (S := []) ?_))
 unfold A5P
 by_cases hok : 1 ≤ n ∧ n ≤ 8
 case neg =>
  have hv : F7 v n = ByteArray.mk #[] := if_neg hok
  rw [hv]
  by_cases h1 : n < 1
  ·(have zz:=trivial;repeat((first|clear zz|with_reducible first|refine A3 ?_|refine A5 fun _=>?_|refine A4 fun _=>?_);try simp(disch:=first|omega|assumption|((repeat(first|exact A1|exact uH|apply A2|apply uT));first|done|fail)|(simp;first|done|omega|fail))[h1])); exact B0 rfl
  ·have h2 : 8 < n := by omega
   (have zz:=trivial;repeat((first|clear zz|with_reducible first|refine A3 ?_|refine A5 fun _=>?_|refine A4 fun _=>?_);try simp(disch:=first|omega|assumption|((repeat(first|exact A1|exact uH|apply A2|apply uT));first|done|fail)|(simp;first|done|omega|fail))[h1, h2])); exact B0 rfl
 have hv : F7 v n = A1Z (r3 v n.toNat n.toNat) := if_pos hok
 rw [hv]
 obtain ⟨m, rfl⟩ : ∃ m : Nat, n = m := ⟨n.toNat, by omega⟩
 have h1 : ¬ (m : Int) < 1 := by omega
 have h2 : ¬ 8 < (m : Int) := by omega
 (have zz:=trivial;repeat((first|clear zz|with_reducible first|refine A3 ?_|refine A5 fun _=>?_|refine A4 fun _=>?_);try simp(disch:=first|omega|assumption|((repeat(first|exact A1|exact uH|apply A2|apply uT));first|done|fail)|(simp;first|done|omega|fail))[h1, h2]))
 refine B78 (by omega) (by omega) (by omega) (by omega) fun bs => ?_
 rw [Int.toNat_natCast, B6f v (by omega)]
 (have zz:=trivial;repeat((first|clear zz|with_reducible first|refine A3 ?_|refine A5 fun _=>?_|refine A4 fun _=>?_);try simp(disch:=first|omega|assumption|((repeat(first|exact A1|exact uH|apply A2|apply uT));first|done|fail)|(simp;first|done|omega|fail))[h1, h2]))
 rename_i bv bb
 refine G5 A2Z (fun w' _ => B1G w' m) ?_
 rintro b v rfl
 refine A0c (B1e b (n := m) (by omega)) (by simp [A82]) (fun _ (_ : Unit) => True) (fun i _ => [.pt bb (.cells #[.slice (some ⟨bs, 0, none⟩) m m] 160),
   .own 5 1 (.slice (some ⟨bs, 0, none⟩) m m) m (A21 v m i).toList, .pt bv (.cells #[.int .u64 v] 122)])
  (fun _ (_ : Unit) => False) (fun _ => []) () trivial ?_ ?_ ?_ ?_ (by simp)
 ·intros; trivial
 ·rintro i hi _ F _ K' hK _
  have hi' : i < m := by simpa using hi
  have hsh : (0 : Int) ≤ 8 * ((m : Int) - 1 - i) := by omega
  simp only [List.getElem_map, List.getElem_range, A82, VF.app]
  (have zz:=trivial;repeat((first|clear zz|with_reducible first|refine A3 ?_|refine A5 fun _=>?_|refine A4 fun _=>?_);try simp(disch:=first|omega|assumption|((repeat(first|exact A1|exact uH|apply A2|apply uT));first|done|fail)|(simp;first|done|omega|fail))[]))
  refine W4 (by (repeat constructor)) (by simp) (by simp [A21, r3]; omega) (by simp) ?_
  refine TW.eqH ?_ (hK () trivial)
  have e : n7 (A21 v m i).toList i [.int .u8 (B07 v m i)] = (A21 v m (i + 1)).toList := by
   rw [B2a (by simp [A21, r3]; omega)]; simp [A21, ← B7u v hi', List.map_set]
  rw [← e]; simp [B07]
 ·rintro _ _
  (have zz:=trivial;repeat((first|clear zz|with_reducible first|refine A3 ?_|refine A5 fun _=>?_|refine A4 fun _=>?_);try simp(disch:=first|omega|assumption|((repeat(first|exact A1|exact uH|apply A2|apply uT));first|done|fail)|(simp;first|done|omega|fail))[]))
  have hlen : (r3 v m m).length = m := by simp [r3]
  have := fun w' K (hr : G9 w' bs 0 ((r3 v m m).map (Value.int .u8))) => @B2r K w' bs 0 m _ hr
  rw [hlen] at this
  rw [C1H fun w' hw' => this w' _ (by simpa [A21] using hw'.ownr (e := 5) (k := 1) (q := m) (c := m) (xs := (A21 v m m).toList) (by (repeat constructor)))]
  simp only [C1S]
  exact B0 rfl
 ·rintro _ _ h; exact h.elim
end Go.Proofs.YtlplkjgcfjdinaaGreat
