/- The proof of a given statement, a part of it (ShStd ShOctet Ins Tc Tn Oct). No condition but what each lemma says. -/
import Derived.Test.YtlplkjgcfjdinaaGreatP10
set_option linter.unusedVariables false
set_option linter.unusedSimpArgs false
namespace Go.Proofs.YtlplkjgcfjdinaaGreat
open Go
def M5 (X : Nat → Prop) (t0 t1 : Value) (R : Value → WP) : WP :=
 A0 PR (A8 .len #[35] 0 [t0]) fun t6 =>
 B7 PR X 31 [t0, t6, t1] fun t8 =>
 R (.tuple #[])
theorem T2 : B0 PR 20 := A7 Tryz.func20 (by kernel_rfl) rfl
theorem T6 {X : Nat → Prop} {t0 t1 : Value} {R : Value → WP} {w : World} (h : M5 X t0 t1 R w) : Fn PR X 20 #[t0, t1] w R := C8 (args := [t0, t1]) mixed Tryz.func20 (by kernel_rfl) h
def A07 (X : Nat → Prop) (t0 t1 : Value) (R : Value → WP) : WP :=
 B7 PR X 32 [t0] fun t8 =>
 B7 PR X 32 [t1] fun t10 =>
 jn (n := 1) (fun t4 =>
 jn (n := 1) (fun t4_1 =>
 jn (n := 1) (fun t4_2 =>
 jn (n := 1) (fun t4_3 =>
 R (.int .i64 0)) fun J1 =>
 A0 PR (binOp .gtr 3 t0 t1) fun t19 =>
 B6 t19 (
 R (.int .i64 1)) (
 J1 t4_2)) fun J2 =>
 A0 PR (binOp .lss 3 t0 t1) fun t16 =>
 B6 t16 (
 R (.int .i64 (-1))) (
 J2 t4_1)) fun J3 =>
 B6 t10 (
 R (.int .i64 1)) (
 J3 t4)) fun J4 =>
 B6 t8 (
 jn (n := 1) (fun t4_4 =>
 R (.int .i64 (-1))) fun J5 =>
 B6 t10 (
 R (.int .i64 0)) (
 J5 (.int .i64 0))) (
 J4 (.int .i64 0))
theorem A0F : B0 PR 22 := A7 Tryz.func22 (by kernel_rfl) rfl
theorem A55 {X : Nat → Prop} {t0 t1 : Value} {R : Value → WP} {w : World} (h : A07 X t0 t1 R w) : Fn PR X 22 #[t0, t1] w R := C8 (args := [t0, t1]) mixed Tryz.func22 (by kernel_rfl) h
theorem A6q {X : Nat → Prop} {t0 t1 : Value} {K : Value → WP} {w : World} (h : Fn PR X 22 #[t0, t1] w K) : B7 PR X 22 [t0, t1] K w := Or.inl ⟨A0F, h⟩
def Q0 (X : Nat → Prop) (t0 t1 t2 : Value) (R : Value → WP) : WP :=
 jn (n := 2) (fun t7 t8 =>
 B7 PR X 40 [t0, t7, t1, t2] fun t27 =>
 lp (n := 3) (fun L1 t7_1 t8_1 t6 =>
 jn (n := 0) (
 A0 PR (binOp .mul 3 (.int .i64 2) t6) fun t32 =>
 jn (n := 2) (fun t7_2 t8_2 =>
 jn (n := 0) (
 A0 PR (binOp .mul 3 t6 (.int .i64 2)) fun t62 =>
 L1 t7_2 t8_2 t62) fun J2 =>
 A0 PR (binOp .add 3 t7_2 t6) fun t51 =>
 A0 PR (binOp .lss 3 t51 t1) fun t54 =>
 B6 t54 (
 B7 PR X 41 [t0, t7_2, t51, t1, t2] fun t60 =>
 J2) (
 J2)) fun J3 =>
 lp (n := 2) (fun L4 t7_3 t8_3 =>
 jn (n := 0) (
 A0 PR (binOp .add 3 t7_3 t6) fun t40 =>
 B7 PR X 41 [t0, t7_3, t40, t8_3, t2] fun t43 =>
 A0 PR (binOp .mul 3 (.int .i64 2) t6) fun t47 =>
 A0 PR (binOp .add 3 t8_3 t47) fun t48 =>
 L4 t8_3 t48) fun J5 =>
 A0 PR (binOp .leq 3 t8_3 t1) fun t35 =>
 B6 t35 (
 J5) (
 J3 t7_3 t8_3)) (.int .i64 0) t32) fun J6 =>
 A0 PR (binOp .lss 3 t6 t1) fun t30 =>
 B6 t30 (
 J6) (
 R (.tuple #[]))) t7 t8 (.int .i64 20)) fun J7 =>
 lp (n := 2) (fun L8 t7_4 t8_4 =>
 jn (n := 0) (
 B7 PR X 40 [t0, t7_4, t8_4, t2] fun t18 =>
 A0 PR (binOp .add 3 t8_4 (.int .i64 20)) fun t22 =>
 L8 t8_4 t22) fun J9 =>
 A0 PR (binOp .leq 3 t8_4 t1) fun t13 =>
 B6 t13 (
 J9) (
 J7 t7_4 t8_4)) (.int .i64 0) (.int .i64 20)
theorem Z0 : B0 PR 31 := A7 Tryz.func31 (by kernel_rfl) rfl
theorem Z6 {X : Nat → Prop} {t0 t1 t2 : Value} {R : Value → WP} {w : World} (h : Q0 X t0 t1 t2 R w) : Fn PR X 31 #[t0, t1, t2] w R := C8 (args := [t0, t1, t2]) mixed Tryz.func31 (by kernel_rfl) h
def A17 (X : Nat → Prop) (t0 : Value) (R : Value → WP) : WP :=
 A0 PR (binOp .neq 3 t0 t0) fun t5 =>
 R t5
theorem A6p : B0 PR 32 := A7 Tryz.func32 (by kernel_rfl) rfl
theorem A7d {X : Nat → Prop} {t0 : Value} {R : Value → WP} {w : World} (h : A17 X t0 R w) : Fn PR X 32 #[t0] w R := C8 (args := [t0]) mixed Tryz.func32 (by kernel_rfl) h
theorem A2p {X : Nat → Prop} {t0 : Value} {K : Value → WP} {w : World} (h : Fn PR X 32 #[t0] w K) : B7 PR X 32 [t0] K w := Or.inl ⟨A6p, h⟩
def L6 (X : Nat → Prop) (t0 t1 t2 t3 : Value) (R : Value → WP) : WP :=
 A0 PR (binOp .add 3 t1 (.int .i64 1)) fun t11 =>
 lp (n := 1) (fun L1 t8 =>
 jn (n := 0) (
 jn (n := 1) (fun t9 =>
 A0 PR (binOp .add 3 t8 (.int .i64 1)) fun t16 =>
 L1 t16) fun J2 =>
 lp (n := 1) (fun L3 t9_1 =>
 jn (n := 0) (
 jn (n := 0) (
 A0 PR (binOp .sub 3 t9_1 (.int .i64 1)) fun t36 =>
 L3 t36) fun J4 =>
 drw <|
 A0 PR (binOp .sub 3 t9_1 (.int .i64 1)) fun t41 =>
 A0 PR (binOp .sub 3 t9_1 (.int .i64 1)) fun t44 =>
 A0 PR (Instr.indexAt 35 t0 t44) fun t45 =>
 A6 PR (Instr.loadAt 3 t45) fun t46 =>
 A0 PR (Instr.indexAt 35 t0 t9_1) fun t49 =>
 A6 PR (Instr.loadAt 3 t49) fun t50 =>
 A0 PR (Instr.indexAt 35 t0 t9_1) fun t51 =>
 B8 PR X (Instr.storeAt 3 t51 t46) <|
 A0 PR (Instr.indexAt 35 t0 t41) fun t52 =>
 B8 PR X (Instr.storeAt 3 t52 t50) <|
 J4) fun J5 =>
 drw <|
 A0 PR (binOp .gtr 3 t9_1 t1) fun t20 =>
 gj t20 true (fun J => J t3) fun t22 =>
 gj t20 true (fun J => J t0) fun t23 =>
 gj t20 true (fun J => J t9_1) fun t24 =>
 gj t20 true (fun J => A0 PR (Instr.indexAt 35 t23 t24) J) fun t25 =>
 gj t20 true (fun J => A6 PR (Instr.loadAt 3 t25) J) fun t26 =>
 gj t20 true (fun J => J t0) fun t27 =>
 gj t20 true (fun J => J t9_1) fun t28 =>
 gj t20 true (fun J => A0 PR (binOp .sub 3 t28 (.int .i64 1)) J) fun t29 =>
 gj t20 true (fun J => A0 PR (Instr.indexAt 35 t27 t29) J) fun t30 =>
 gj t20 true (fun J => A6 PR (Instr.loadAt 3 t30) J) fun t31 =>
 gj t20 true (fun J => F5 PR X t22 [t26, t31] J) fun t32 =>
 gj t20 true (fun J => A0 PR (binOp .lss 3 t32 (.int .i64 0)) J) fun t33 =>
 A0 PR (do pure (if ← asBool t20 then t33 else (.bool false))) fun t34 =>
 B6 t34 (
 J5) (
 J2 t9_1)) t8) fun J6 =>
 A0 PR (binOp .lss 3 t8 t2) fun t14 =>
 B6 t14 (
 J6) (
 R (.tuple #[]))) t11
theorem K3 : B0 PR 40 := A7 Tryz.func40 (by kernel_rfl) rfl
theorem S2 {X : Nat → Prop} {t0 t1 t2 t3 : Value} {R : Value → WP} {w : World} (h : L6 X t0 t1 t2 t3 R w) : Fn PR X 40 #[t0, t1, t2, t3] w R := C8 (args := [t0, t1, t2, t3]) mixed Tryz.func40 (by kernel_rfl) h
def P2 (X : Nat → Prop) (t0 t1 t2 t3 t4 : Value) (R : Value → WP) : WP :=
 jn (n := 0) (
 jn (n := 0) (
 A0 PR (binOp .add 3 t1 t3) fun t131 =>
 A0 PR (convert 3 104 t131) fun t132 =>
 A0 PR (binOp .shr 104 t132 (.int .u64 1)) fun t133 =>
 A0 PR (convert 104 3 t133) fun t134 =>
 A0 PR (binOp .add 3 t134 t2) fun t137 =>
 jn (n := 2) (fun t20 t21 =>
 A0 PR (binOp .sub 3 t137 (.int .i64 1)) fun t148 =>
 jn (n := 2) (fun t20_1 t21_1 =>
 A0 PR (binOp .sub 3 t137 t20_1) fun t177 =>
 jn (n := 0) (
 jn (n := 0) (
 A0 PR (binOp .lss 3 t134 t177) fun t208 =>
 gj t208 true (fun J => J t177) fun t210 =>
 gj t208 true (fun J => J t3) fun t211 =>
 gj t208 true (fun J => A0 PR (binOp .lss 3 t210 t211) J) fun t212 =>
 A0 PR (do pure (if ← asBool t208 then t212 else (.bool false))) fun t213 =>
 B6 t213 (
 B7 PR X 41 [t0, t134, t177, t3, t4] fun t219 =>
 R (.tuple #[])) (
 R (.tuple #[]))) fun J1 =>
 A0 PR (binOp .lss 3 t1 t20_1) fun t194 =>
 gj t194 true (fun J => J t20_1) fun t196 =>
 gj t194 true (fun J => J t134) fun t197 =>
 gj t194 true (fun J => A0 PR (binOp .lss 3 t196 t197) J) fun t198 =>
 A0 PR (do pure (if ← asBool t194 then t198 else (.bool false))) fun t199 =>
 B6 t199 (
 B7 PR X 41 [t0, t1, t20_1, t134, t4] fun t205 =>
 J1) (
 J1)) fun J2 =>
 A0 PR (binOp .lss 3 t20_1 t2) fun t180 =>
 gj t180 true (fun J => J t2) fun t182 =>
 gj t180 true (fun J => J t177) fun t183 =>
 gj t180 true (fun J => A0 PR (binOp .lss 3 t182 t183) J) fun t184 =>
 A0 PR (do pure (if ← asBool t180 then t184 else (.bool false))) fun t185 =>
 B6 t185 (
 B7 PR X 51 [t0, t20_1, t2, t177, t4] fun t191 =>
 J2) (
 J2)) fun J3 =>
 lp (n := 2) (fun L4 t20_2 t21_2 =>
 jn (n := 0) (
 A0 PR (binOp .add 3 t20_2 t21_2) fun t154 =>
 A0 PR (convert 3 104 t154) fun t155 =>
 A0 PR (binOp .shr 104 t155 (.int .u64 1)) fun t156 =>
 A0 PR (convert 104 3 t156) fun t157 =>
 drw <|
 A0 PR (binOp .sub 3 t148 t157) fun t162 =>
 A0 PR (Instr.indexAt 35 t0 t162) fun t163 =>
 A6 PR (Instr.loadAt 3 t163) fun t164 =>
 A0 PR (Instr.indexAt 35 t0 t157) fun t167 =>
 A6 PR (Instr.loadAt 3 t167) fun t168 =>
 F5 PR X t4 [t164, t168] fun t169 =>
 A0 PR (binOp .lss 3 t169 (.int .i64 0)) fun t170 =>
 A0 PR (Op.unary .not t170) fun t171 =>
 B6 t171 (
 A0 PR (binOp .add 3 t157 (.int .i64 1)) fun t173 =>
 L4 t173 t21_2) (
 L4 t20_2 t157)) fun J5 =>
 A0 PR (binOp .lss 3 t20_2 t21_2) fun t151 =>
 B6 t151 (
 J5) (
 J3 t20_2 t21_2)) t20 t21) fun J6 =>
 A0 PR (binOp .gtr 3 t2 t134) fun t140 =>
 B6 t140 (
 A0 PR (binOp .sub 3 t137 t3) fun t143 =>
 J6 t143 t134) (
 J6 t1 t2)) fun J7 =>
 A0 PR (binOp .sub 3 t3 t2) fun t79 =>
 A0 PR (binOp .eql 3 t79 (.int .i64 1)) fun t80 =>
 B6 t80 (
 jn (n := 2) (fun t14 t15 =>
 jn (n := 1) (fun t17 =>
 R (.tuple #[])) fun J8 =>
 lp (n := 1) (fun L9 t17_1 =>
 jn (n := 0) (
 jn (n := 0) (
 A0 PR (binOp .sub 3 t17_1 (.int .i64 1)) fun t112 =>
 L9 t112) fun J10 =>
 drw <|
 A0 PR (binOp .sub 3 t17_1 (.int .i64 1)) fun t117 =>
 A0 PR (binOp .sub 3 t17_1 (.int .i64 1)) fun t120 =>
 A0 PR (Instr.indexAt 35 t0 t120) fun t121 =>
 A6 PR (Instr.loadAt 3 t121) fun t122 =>
 A0 PR (Instr.indexAt 35 t0 t17_1) fun t125 =>
 A6 PR (Instr.loadAt 3 t125) fun t126 =>
 A0 PR (Instr.indexAt 35 t0 t17_1) fun t127 =>
 B8 PR X (Instr.storeAt 3 t127 t122) <|
 A0 PR (Instr.indexAt 35 t0 t117) fun t128 =>
 B8 PR X (Instr.storeAt 3 t128 t126) <|
 J10) fun J11 =>
 A0 PR (binOp .gtr 3 t17_1 t14) fun t110 =>
 B6 t110 (
 J11) (
 J8 t17_1)) t2) fun J12 =>
 lp (n := 2) (fun L13 t14_1 t15_1 =>
 jn (n := 0) (
 A0 PR (binOp .add 3 t14_1 t15_1) fun t88 =>
 A0 PR (convert 3 104 t88) fun t89 =>
 A0 PR (binOp .shr 104 t89 (.int .u64 1)) fun t90 =>
 A0 PR (convert 104 3 t90) fun t91 =>
 drw <|
 A0 PR (Instr.indexAt 35 t0 t2) fun t95 =>
 A6 PR (Instr.loadAt 3 t95) fun t96 =>
 A0 PR (Instr.indexAt 35 t0 t91) fun t99 =>
 A6 PR (Instr.loadAt 3 t99) fun t100 =>
 F5 PR X t4 [t96, t100] fun t101 =>
 A0 PR (binOp .lss 3 t101 (.int .i64 0)) fun t102 =>
 A0 PR (Op.unary .not t102) fun t103 =>
 B6 t103 (
 A0 PR (binOp .add 3 t91 (.int .i64 1)) fun t105 =>
 L13 t105 t15_1) (
 L13 t14_1 t91)) fun J14 =>
 A0 PR (binOp .lss 3 t14_1 t15_1) fun t85 =>
 B6 t85 (
 J14) (
 J12 t14_1 t15_1)) t1 t2) (
 J7)) fun J15 =>
 A0 PR (binOp .sub 3 t2 t1) fun t27 =>
 A0 PR (binOp .eql 3 t27 (.int .i64 1)) fun t28 =>
 B6 t28 (
 jn (n := 2) (fun t10 t11 =>
 jn (n := 1) (fun t13 =>
 R (.tuple #[])) fun J16 =>
 lp (n := 1) (fun L17 t13_1 =>
 jn (n := 0) (
 jn (n := 0) (
 A0 PR (binOp .add 3 t13_1 (.int .i64 1)) fun t60 =>
 L17 t60) fun J18 =>
 drw <|
 A0 PR (binOp .add 3 t13_1 (.int .i64 1)) fun t65 =>
 A0 PR (binOp .add 3 t13_1 (.int .i64 1)) fun t68 =>
 A0 PR (Instr.indexAt 35 t0 t68) fun t69 =>
 A6 PR (Instr.loadAt 3 t69) fun t70 =>
 A0 PR (Instr.indexAt 35 t0 t13_1) fun t73 =>
 A6 PR (Instr.loadAt 3 t73) fun t74 =>
 A0 PR (Instr.indexAt 35 t0 t13_1) fun t75 =>
 B8 PR X (Instr.storeAt 3 t75 t70) <|
 A0 PR (Instr.indexAt 35 t0 t65) fun t76 =>
 B8 PR X (Instr.storeAt 3 t76 t74) <|
 J18) fun J19 =>
 A0 PR (binOp .sub 3 t10 (.int .i64 1)) fun t57 =>
 A0 PR (binOp .lss 3 t13_1 t57) fun t58 =>
 B6 t58 (
 J19) (
 J16 t13_1)) t1) fun J20 =>
 lp (n := 2) (fun L21 t10_1 t11_1 =>
 jn (n := 0) (
 A0 PR (binOp .add 3 t10_1 t11_1) fun t36 =>
 A0 PR (convert 3 104 t36) fun t37 =>
 A0 PR (binOp .shr 104 t37 (.int .u64 1)) fun t38 =>
 A0 PR (convert 104 3 t38) fun t39 =>
 drw <|
 A0 PR (Instr.indexAt 35 t0 t39) fun t43 =>
 A6 PR (Instr.loadAt 3 t43) fun t44 =>
 A0 PR (Instr.indexAt 35 t0 t1) fun t47 =>
 A6 PR (Instr.loadAt 3 t47) fun t48 =>
 F5 PR X t4 [t44, t48] fun t49 =>
 A0 PR (binOp .lss 3 t49 (.int .i64 0)) fun t50 =>
 B6 t50 (
 A0 PR (binOp .add 3 t39 (.int .i64 1)) fun t52 =>
 L21 t52 t11_1) (
 L21 t10_1 t39)) fun J22 =>
 A0 PR (binOp .lss 3 t10_1 t11_1) fun t33 =>
 B6 t33 (
 J22) (
 J20 t10_1 t11_1)) t2 t3) (
 J15)
theorem N5 : B0 PR 41 := A7 Tryz.func41 (by kernel_rfl) rfl
theorem Y0 {X : Nat → Prop} {t0 t1 t2 t3 t4 : Value} {R : Value → WP} {w : World} (h : P2 X t0 t1 t2 t3 t4 R w) : Fn PR X 41 #[t0, t1, t2, t3, t4] w R := C8 (args := [t0, t1, t2, t3, t4]) mixed Tryz.func41 (by kernel_rfl) h
def Z9 (X : Nat → Prop) (t0 t1 t2 t3 t4 : Value) (R : Value → WP) : WP :=
 A0 PR (binOp .sub 3 t2 t1) fun t14 =>
 A0 PR (binOp .sub 3 t3 t2) fun t17 =>
 jn (n := 2) (fun t10 t11 =>
 A0 PR (binOp .sub 3 t2 t10) fun t53 =>
 B7 PR X 69 [t0, t53, t2, t10, t4] fun t57 =>
 R (.tuple #[])) fun J1 =>
 lp (n := 2) (fun L2 t10_1 t11_1 =>
 jn (n := 0) (
 A0 PR (binOp .gtr 3 t10_1 t11_1) fun t23 =>
 B6 t23 (
 A0 PR (binOp .sub 3 t2 t10_1) fun t27 =>
 B7 PR X 69 [t0, t27, t2, t11_1, t4] fun t31 =>
 A0 PR (binOp .sub 3 t10_1 t11_1) fun t34 =>
 L2 t34 t11_1) (
 A0 PR (binOp .sub 3 t2 t10_1) fun t38 =>
 A0 PR (binOp .add 3 t2 t11_1) fun t41 =>
 A0 PR (binOp .sub 3 t41 t10_1) fun t43 =>
 B7 PR X 69 [t0, t38, t43, t10_1, t4] fun t46 =>
 A0 PR (binOp .sub 3 t11_1 t10_1) fun t49 =>
 L2 t10_1 t49)) fun J3 =>
 A0 PR (binOp .neq 3 t10_1 t11_1) fun t20 =>
 B6 t20 (
 J3) (
 J1 t10_1 t11_1)) t14 t17
theorem A0Q : B0 PR 51 := A7 Tryz.func51 (by kernel_rfl) rfl
theorem A00 {X : Nat → Prop} {t0 t1 t2 t3 t4 : Value} {R : Value → WP} {w : World} (h : Z9 X t0 t1 t2 t3 t4 R w) : Fn PR X 51 #[t0, t1, t2, t3, t4] w R := C8 (args := [t0, t1, t2, t3, t4]) mixed Tryz.func51 (by kernel_rfl) h
def W1 (X : Nat → Prop) (t0 t1 t2 t3 t4 : Value) (R : Value → WP) : WP :=
 lp (n := 1) (fun L1 t10 =>
 jn (n := 0) (
 jn (n := 0) (
 A0 PR (binOp .add 3 t10 (.int .i64 1)) fun t15 =>
 L1 t15) fun J2 =>
 drw <|
 A0 PR (binOp .add 3 t1 t10) fun t19 =>
 A0 PR (binOp .add 3 t2 t10) fun t23 =>
 A0 PR (binOp .add 3 t2 t10) fun t27 =>
 A0 PR (Instr.indexAt 35 t0 t27) fun t28 =>
 A6 PR (Instr.loadAt 3 t28) fun t29 =>
 A0 PR (binOp .add 3 t1 t10) fun t33 =>
 A0 PR (Instr.indexAt 35 t0 t33) fun t34 =>
 A6 PR (Instr.loadAt 3 t34) fun t35 =>
 A0 PR (Instr.indexAt 35 t0 t19) fun t36 =>
 B8 PR X (Instr.storeAt 3 t36 t29) <|
 A0 PR (Instr.indexAt 35 t0 t23) fun t37 =>
 B8 PR X (Instr.storeAt 3 t37 t35) <|
 J2) fun J3 =>
 A0 PR (binOp .lss 3 t10 t3) fun t13 =>
 B6 t13 (
 J3) (
 R (.tuple #[]))) (.int .i64 0)
theorem N2 : B0 PR 69 := A7 Tryz.func69 (by kernel_rfl) rfl
theorem y5 {X : Nat → Prop} {t0 t1 t2 t3 t4 : Value} {R : Value → WP} {w : World} (h : W1 X t0 t1 t2 t3 t4 R w) : Fn PR X 69 #[t0, t1, t2, t3, t4] w R := C8 (args := [t0, t1, t2, t3, t4]) mixed Tryz.func69 (by kernel_rfl) h
def P0 (X : Nat → Prop) (t0 : Value) (R : Value → WP) : WP :=
 jn (n := 1) (fun t2 =>
 B1 PR X (Instr.buildSlice 50 0 #[]) fun t5 =>
 B1 PR X (A8 .append #[50, 50] 50 [t5, t0]) fun t7 =>
 R t7) fun J1 =>
 A6 PR (q6 .eql 50 (.tmp 3) (.const (.slice none 0 0)) t0 (.slice none 0 0)) fun t4 =>
 B6 t4 (
 R (.slice none 0 0)) (
 J1 (.slice none 0 0))
theorem d6 : B0 PR 76 := A7 Tryz.func76 (by kernel_rfl) rfl
theorem f9 {X : Nat → Prop} {t0 : Value} {R : Value → WP} {w : World} (h : P0 X t0 R w) : Fn PR X 76 #[t0] w R := C8 (args := [t0]) mixed Tryz.func76 (by kernel_rfl) h
def Q5 (X : Nat → Prop) (t0 : Value) (R : Value → WP) : WP :=
 jn (n := 1) (fun t2 =>
 B1 PR X (Instr.buildSlice 79 0 #[]) fun t5 =>
 B1 PR X (A8 .append #[79, 79] 79 [t5, t0]) fun t7 =>
 R t7) fun J1 =>
 A6 PR (q6 .eql 79 (.tmp 3) (.const (.slice none 0 0)) t0 (.slice none 0 0)) fun t4 =>
 B6 t4 (
 R (.slice none 0 0)) (
 J1 (.slice none 0 0))
theorem Q1 : B0 PR 103 := A7 Tryz.func103 (by kernel_rfl) rfl
theorem m0 {X : Nat → Prop} {t0 : Value} {R : Value → WP} {w : World} (h : Q5 X t0 R w) : Fn PR X 103 #[t0] w R := C8 (args := [t0]) mixed Tryz.func103 (by kernel_rfl) h
def S4 (X : Nat → Prop) (t0 t1 : Value) (R : Value → WP) : WP :=
 B7 PR X 161 [t0, t1] fun t7 =>
 A0 PR (binOp .geq 3 t7 (.int .i64 0)) fun t8 =>
 R t8
theorem m5 : B0 PR 132 := A7 Tryz.func132 (by kernel_rfl) rfl
theorem p5 {X : Nat → Prop} {t0 t1 : Value} {R : Value → WP} {w : World} (h : S4 X t0 t1 R w) : Fn PR X 132 #[t0, t1] w R := C8 (args := [t0, t1]) mixed Tryz.func132 (by kernel_rfl) h
def M4 (X : Nat → Prop) (t0 t1 : Value) (R : Value → WP) : WP :=
 jn (n := 2) (fun t4 t8 =>
 R (.int .i64 (-1))) fun J1 =>
 A0 PR (A8 .len #[50] 0 [t0]) fun t7 =>
 lp (n := 2) (fun L2 t4_1 t8_1 =>
 A0 PR (binOp .lss 3 t8_1 t7) fun t9 =>
 jn (n := 0) (
 jn (n := 1) (fun t4_2 =>
 A0 PR (binOp .add 3 t8_1 (.int .i64 1)) fun t18 =>
 L2 t4_2 t18) fun J3 =>
 A0 PR (Instr.indexAt 50 t0 t8_1) fun t14 =>
 A6 PR (Instr.loadAt 129 t14) fun t15 =>
 F5 PR X t1 [t15] fun t16 =>
 B6 t16 (
 R t8_1) (
 J3 t4_1)) fun J4 =>
 B6 t9 (
 J4) (
 J1 t4_1 t8_1)) (.int .i64 0) (.int .i64 0)
theorem W7 : B0 PR 154 := A7 Tryz.func154 (by kernel_rfl) rfl
theorem Y2 {X : Nat → Prop} {t0 t1 : Value} {R : Value → WP} {w : World} (h : M4 X t0 t1 R w) : Fn PR X 154 #[t0, t1] w R := C8 (args := [t0, t1]) mixed Tryz.func154 (by kernel_rfl) h
def T1 (X : Nat → Prop) (t0 t1 : Value) (R : Value → WP) : WP :=
 B7 PR X 172 [t0] fun t7 =>
 B7 PR X 173 [t7, t1] fun t10 =>
 R t7
theorem p7 : B0 PR 157 := A7 Tryz.func157 (by kernel_rfl) rfl
theorem p9 {X : Nat → Prop} {t0 t1 : Value} {R : Value → WP} {w : World} (h : T1 X t0 t1 R w) : Fn PR X 157 #[t0, t1] w R := C8 (args := [t0, t1]) mixed Tryz.func157 (by kernel_rfl) h
def U0 (X : Nat → Prop) (t0 t1 : Value) (R : Value → WP) : WP :=
 jn (n := 2) (fun t4 t8 =>
 R (.int .i64 (-1))) fun J1 =>
 A0 PR (A8 .len #[207] 0 [t0]) fun t7 =>
 lp (n := 2) (fun L2 t4_1 t8_1 =>
 A0 PR (binOp .lss 3 t8_1 t7) fun t9 =>
 jn (n := 0) (
 jn (n := 1) (fun t4_2 =>
 A0 PR (binOp .add 3 t8_1 (.int .i64 1)) fun t18 =>
 L2 t4_2 t18) fun J3 =>
 A0 PR (Instr.indexAt 207 t0 t8_1) fun t14 =>
 A6 PR (Instr.loadAt 164 t14) fun t15 =>
 F5 PR X t1 [t15] fun t16 =>
 B6 t16 (
 R t8_1) (
 J3 t4_1)) fun J4 =>
 B6 t9 (
 J4) (
 J1 t4_1 t8_1)) (.int .i64 0) (.int .i64 0)
theorem s8 : B0 PR 161 := A7 Tryz.func161 (by kernel_rfl) rfl
theorem x7 {X : Nat → Prop} {t0 t1 : Value} {R : Value → WP} {w : World} (h : U0 X t0 t1 R w) : Fn PR X 161 #[t0, t1] w R := C8 (args := [t0, t1]) mixed Tryz.func161 (by kernel_rfl) h
def A3Q (X : Nat → Prop) (t0 t1 : Value) (R : Value → WP) : WP :=
 jn (n := 2) (fun t5 t6 =>
 R t5) fun J1 =>
 lp (n := 2) (fun L2 t5_1 t6_1 =>
 jn (n := 0) (
 A0 PR (binOp .add 3 t5_1 t6_1) fun t14 =>
 A0 PR (convert 3 104 t14) fun t15 =>
 A0 PR (binOp .shr 104 t15 (.int .u64 1)) fun t16 =>
 A0 PR (convert 104 3 t16) fun t17 =>
 F5 PR X t1 [t17] fun t20 =>
 A0 PR (Op.unary .not t20) fun t21 =>
 B6 t21 (
 A0 PR (binOp .add 3 t17 (.int .i64 1)) fun t23 =>
 L2 t23 t6_1) (
 L2 t5_1 t17)) fun J3 =>
 A0 PR (binOp .lss 3 t5_1 t6_1) fun t11 =>
 B6 t11 (
 J3) (
 J1 t5_1 t6_1)) (.int .i64 0) t0
theorem A8m : B0 PR 170 := A7 Tryz.func170 (by kernel_rfl) rfl
theorem A9V {X : Nat → Prop} {t0 t1 : Value} {R : Value → WP} {w : World} (h : A3Q X t0 t1 R w) : Fn PR X 170 #[t0, t1] w R := C8 (args := [t0, t1]) mixed Tryz.func170 (by kernel_rfl) h
def V0 (X : Nat → Prop) (t0 : Value) (R : Value → WP) : WP :=
 B7 PR X 179 [(.slice none 0 0), t0] fun t4 =>
 R t4
theorem x8 : B0 PR 172 := A7 Tryz.func172 (by kernel_rfl) rfl
theorem y1 {X : Nat → Prop} {t0 : Value} {R : Value → WP} {w : World} (h : V0 X t0 R w) : Fn PR X 172 #[t0] w R := C8 (args := [t0]) mixed Tryz.func172 (by kernel_rfl) h
theorem V7 : B0 PR 173 := A7 Tryz.func173 (by kernel_rfl) rfl
def A40 (X : Nat → Prop) (t0 : Value) (R : Value → WP) : WP :=
 jn (n := 2) (fun t2 t8 =>
 R (.int .i64 0)) fun J1 =>
 A0 PR (A8 .len #[35] 0 [t0]) fun t7 =>
 lp (n := 2) (fun L2 t2_1 t8_1 =>
 A0 PR (binOp .lss 3 t8_1 t7) fun t9 =>
 jn (n := 0) (
 jn (n := 1) (fun t2_2 =>
 A0 PR (binOp .add 3 t8_1 (.int .i64 1)) fun t16 =>
 L2 t2_2 t16) fun J3 =>
 A0 PR (Instr.indexAt 35 t0 t8_1) fun t10 =>
 A6 PR (Instr.loadAt 3 t10) fun t11 =>
 A0 PR (binOp .neq 3 t11 (.int .i64 0)) fun t14 =>
 B6 t14 (
 R t11) (
 J3 t2_1)) fun J4 =>
 B6 t9 (
 J4) (
 J1 t2_1 t8_1)) (.int .i64 0) (.int .i64 0)
theorem A9g : B0 PR 176 := A7 Tryz.func176 (by kernel_rfl) rfl
theorem B1B {X : Nat → Prop} {t0 : Value} {R : Value → WP} {w : World} (h : A40 X t0 R w) : Fn PR X 176 #[t0] w R := C8 (args := [t0]) mixed Tryz.func176 (by kernel_rfl) h
theorem B25 {X : Nat → Prop} {t0 : Value} {K : Value → WP} {w : World} (h : Fn PR X 176 #[t0] w K) : B7 PR X 176 [t0] K w := Or.inl ⟨A9g, h⟩
def w9 (X : Nat → Prop) (t0 t1 : Value) (R : Value → WP) : WP :=
 B7 PR X 182 [t0] fun t8 =>
 B7 PR X 182 [t1] fun t10 =>
 jn (n := 1) (fun t4 =>
 jn (n := 1) (fun t4_1 =>
 jn (n := 1) (fun t4_2 =>
 jn (n := 1) (fun t4_3 =>
 R (.int .i64 0)) fun J1 =>
 A0 PR (binOp .gtr 122 t0 t1) fun t19 =>
 B6 t19 (
 R (.int .i64 1)) (
 J1 t4_2)) fun J2 =>
 A0 PR (binOp .lss 122 t0 t1) fun t16 =>
 B6 t16 (
 R (.int .i64 (-1))) (
 J2 t4_1)) fun J3 =>
 B6 t10 (
 R (.int .i64 1)) (
 J3 t4)) fun J4 =>
 B6 t8 (
 jn (n := 1) (fun t4_4 =>
 R (.int .i64 (-1))) fun J5 =>
 B6 t10 (
 R (.int .i64 0)) (
 J5 (.int .i64 0))) (
 J4 (.int .i64 0))
theorem A24 : B0 PR 177 := A7 Tryz.func177 (by kernel_rfl) rfl
theorem A3b {X : Nat → Prop} {t0 t1 : Value} {R : Value → WP} {w : World} (h : w9 X t0 t1 R w) : Fn PR X 177 #[t0, t1] w R := C8 (args := [t0, t1]) mixed Tryz.func177 (by kernel_rfl) h
theorem A4P {X : Nat → Prop} {t0 t1 : Value} {K : Value → WP} {w : World} (h : Fn PR X 177 #[t0, t1] w K) : B7 PR X 177 [t0, t1] K w := Or.inl ⟨A24, h⟩
def L7 (X : Nat → Prop) (t0 t1 : Value) (R : Value → WP) : WP :=
 B1 PR X (Instr.box 239 t0) fun t2 =>
 jn (n := 0) (
 A6 PR (Instr.loadAt 239 t2) fun t12 =>
 U5 (R t12)) fun J1 =>
 rng (N := 1) PR X (fun t7 K2 =>
 B1 PR (fun _ => False) (Instr.alloc 241 true (.tuple #[])) fun t5 =>
 B8 PR (fun _ => False) (Instr.storeAt 241 t5 t7) <|
 bgn <|
 A6 PR (Instr.loadAt 239 t2) fun t8 =>
 A6 PR (Instr.loadAt 241 t5) fun t9 =>
 B1 PR (fun _ => False) (Instr.buildSlice 239 1 #[(0, t9)]) fun t10 =>
 B1 PR (fun _ => False) (A8 .append #[239, 239] 239 [t8, t10]) fun t11 =>
 B8 PR (fun _ => False) (Instr.storeAt 239 t2 t11) <|
 K2 none) t1 (fun j => match j with | none => (J1) | some (.exit i) => (match Nat.beq i 0 with | true => (J1) | false => (E7)) | some .ret => (U5 (R (.slice none 0 0))) | some _ => E7)
theorem U3 : B0 PR 179 := A7 Tryz.func179 (by kernel_rfl) rfl
theorem U8 {X : Nat → Prop} {t0 t1 : Value} {R : Value → WP} {w : World} (h : L7 X t0 t1 R w) : Fn PR X 179 #[t0, t1] w R := C8 (args := [t0, t1]) mixed Tryz.func179 (by kernel_rfl) h
def A0M (X : Nat → Prop) (t0 : Value) (R : Value → WP) : WP :=
 A0 PR (binOp .neq 122 t0 t0) fun t5 =>
 R t5
theorem A4n : B0 PR 182 := A7 Tryz.func182 (by kernel_rfl) rfl
theorem A5G {X : Nat → Prop} {t0 : Value} {R : Value → WP} {w : World} (h : A0M X t0 R w) : Fn PR X 182 #[t0] w R := C8 (args := [t0]) mixed Tryz.func182 (by kernel_rfl) h
theorem A1C {X : Nat → Prop} {t0 : Value} {K : Value → WP} {w : World} (h : Fn PR X 182 #[t0] w K) : B7 PR X 182 [t0] K w := Or.inl ⟨A4n, h⟩
theorem A1D : B0 PR 219 := A7 Tryz.func219 (by kernel_rfl) rfl
end Go.Proofs.YtlplkjgcfjdinaaGreat
namespace Go.Proofs.YtlplkjgcfjdinaaGreat
open Go
def A6K (X : Nat → Prop) (t0 t1 : Value) (R : Value → WP) : WP :=
 B1 PR X (Instr.box 122 t0) fun t2 =>
 jn (n := 1) (fun t4 =>
 B1 PR X (Instr.makeSlice 160 t1 t1) fun t15 =>
 B1 PR X (Instr.alloc 160 true (.tuple #[])) fun t5 =>
 B8 PR X (Instr.storeAt 160 t5 t15) <|
 jn (n := 0) (
 A6 PR (Instr.loadAt 160 t5) fun t27 =>
 A6 PR (convert 160 9 t27) fun t28 =>
 U5 (R t28)) fun J1 =>
 B7 PR X 122 [t1] fun t17 =>
 rng (N := 2) PR X (fun t18 t19 K2 =>
 bgn <|
 A6 PR (Instr.loadAt 160 t5) fun t20 =>
 A6 PR (Instr.loadAt 122 t2) fun t22 =>
 A0 PR (binOp .shr 122 t22 t19) fun t24 =>
 A0 PR (convert 122 5 t24) fun t25 =>
 A0 PR (Instr.indexAt 160 t20 t18) fun t26 =>
 B8 PR (fun _ => False) (Instr.storeAt 5 t26 t25) <|
 K2 none) t17 (fun j => match j with | none => (J1) | some (.exit i) => (match Nat.beq i 0 with | true => (J1) | false => (E7)) | some .ret => (U5 (R t4)) | some _ => E7)) fun J3 =>
 A0 PR (binOp .lss 3 t1 (.int .i64 1)) fun t9 =>
 gj t9 false (fun J => J t1) fun t11 =>
 gj t9 false (fun J => A0 PR (binOp .gtr 3 t11 (.int .i64 8)) J) fun t12 =>
 A0 PR (do pure (if ← asBool t9 then (.bool true) else t12)) fun t13 =>
 B6 t13 (
 U5 (R (.string (ByteArray.mk #[])))) (
 J3 (.string (ByteArray.mk #[])))
theorem G7 : B0 PR 95 := A7 Tryz.func95 (by kernel_rfl) rfl
theorem B2s {X : Nat → Prop} {t0 t1 : Value} {R : Value → WP} {w : World} (h : A6K X t0 t1 R w) : Fn PR X 95 #[t0, t1] w R := C8 (args := [t0, t1]) mixed Tryz.func95 (by kernel_rfl) h
def A5u (X : Nat → Prop) (t0 t1 t2 : Value) (R : Value → WP) : WP :=
 B1 PR X (Instr.box 9 t0) fun t3 =>
 B1 PR X (Instr.box 3 t1) fun t4 =>
 jn (n := 2) (fun t6 t7 =>
 B1 PR X (Instr.alloc 122 true (.tuple #[])) fun t8 =>
 jn (n := 0) (
 A6 PR (Instr.loadAt 122 t8) fun t43 =>
 U5 (R (.tuple #[t43, (.bool true)]))) fun J1 =>
 B7 PR X 122 [t2] fun t30 =>
 rng (N := 2) PR X (fun t31 t32 K2 =>
 bgn <|
 drw <|
 A6 PR (Instr.loadAt 122 t8) fun t33 =>
 A6 PR (Instr.loadAt 9 t3) fun t34 =>
 A6 PR (Instr.loadAt 3 t4) fun t35 =>
 A0 PR (binOp .add 3 t35 t31) fun t37 =>
 A0 PR (Instr.index 9 t34 t37) fun t38 =>
 A0 PR (convert 5 122 t38) fun t39 =>
 A0 PR (binOp .shl 122 t39 t32) fun t41 =>
 A0 PR (binOp .or 122 t33 t41) fun t42 =>
 B8 PR (fun _ => False) (Instr.storeAt 122 t8 t42) <|
 K2 none) t30 (fun j => match j with | none => (J1) | some (.exit i) => (match Nat.beq i 0 with | true => (J1) | false => (E7)) | some .ret => (U5 (R (.tuple #[t6, t7]))) | some _ => E7)) fun J3 =>
 A0 PR (binOp .lss 3 t2 (.int .i64 1)) fun t12 =>
 gj t12 false (fun J => J t2) fun t14 =>
 gj t12 false (fun J => A0 PR (binOp .gtr 3 t14 (.int .i64 8)) J) fun t15 =>
 A0 PR (do pure (if ← asBool t12 then (.bool true) else t15)) fun t16 =>
 gj t16 false (fun J => A6 PR (Instr.loadAt 3 t4) J) fun t18 =>
 gj t16 false (fun J => A0 PR (binOp .lss 3 t18 (.int .i64 0)) J) fun t19 =>
 A0 PR (do pure (if ← asBool t16 then (.bool true) else t19)) fun t20 =>
 gj t20 false (fun J => A6 PR (Instr.loadAt 3 t4) J) fun t22 =>
 gj t20 false (fun J => A6 PR (Instr.loadAt 9 t3) J) fun t23 =>
 gj t20 false (fun J => A0 PR (A8 .len #[9] 0 [t23]) J) fun t24 =>
 gj t20 false (fun J => J t2) fun t25 =>
 gj t20 false (fun J => A0 PR (binOp .sub 3 t24 t25) J) fun t26 =>
 gj t20 false (fun J => A0 PR (binOp .gtr 3 t22 t26) J) fun t27 =>
 A0 PR (do pure (if ← asBool t20 then (.bool true) else t27)) fun t28 =>
 B6 t28 (
 U5 (R (.tuple #[(.int .u64 0), (.bool false)]))) (
 J3 (.int .u64 0) (.bool false))
theorem N9 : B0 PR 120 := A7 Tryz.func120 (by kernel_rfl) rfl
theorem B1j {X : Nat → Prop} {t0 t1 t2 : Value} {R : Value → WP} {w : World} (h : A5u X t0 t1 t2 R w) : Fn PR X 120 #[t0, t1, t2] w R := C8 (args := [t0, t1, t2]) mixed Tryz.func120 (by kernel_rfl) h
def A36 (X : Nat → Prop) (t0 : Value) (R : Value → WP) : WP :=
 B1 PR X (Instr.box 3 t0) fun t1 =>
 A0 PR (Instr.makeFunc (.func 150) #[] #[t1]) fun t3 =>
 R t3
theorem A2Q : B0 PR 122 := A7 Tryz.func122 (by kernel_rfl) rfl
theorem A9j {X : Nat → Prop} {t0 : Value} {R : Value → WP} {w : World} (h : A36 X t0 R w) : Fn PR X 122 #[t0] w R := C8 (args := [t0]) mixed Tryz.func122 (by kernel_rfl) h
def A1W (X : Nat → Prop) (t0 t1 : Value) (R : Value → WP) : WP :=
 A6 PR (Instr.loadAt 3 t1) fun t4 =>
 lp (n := 1) (fun L1 t5 =>
 A0 PR (binOp .lss 3 t5 t4) fun t6 =>
 jn (n := 0) (
 jn (n := 0) (
 A0 PR (binOp .add 3 t5 (.int .i64 1)) fun t18 =>
 L1 t18) fun J2 =>
 A6 PR (Instr.loadAt 3 t1) fun t10 =>
 A0 PR (binOp .sub 3 t10 (.int .i64 1)) fun t11 =>
 A0 PR (binOp .sub 3 t11 t5) fun t13 =>
 A0 PR (binOp .mul 3 (.int .i64 8) t13) fun t14 =>
 A0 PR (convert 3 104 t14) fun t15 =>
 F5 PR X t0 [t5, t15] fun t16 =>
 A0 PR (Op.unary .not t16) fun t17 =>
 B6 t17 (
 R (.tuple #[])) (
 J2)) fun J3 =>
 B6 t6 (
 J3) (
 R (.tuple #[]))) (.int .i64 0)
theorem A5s : B0 PR 150 := A7 Tryz.func150 (by kernel_rfl) rfl
theorem A6m {X : Nat → Prop} {t0 t1 : Value} {R : Value → WP} {w : World} (h : A1W X t0 t1 R w) : Fn PR X 150 #[t0, t1] w R := C8 (args := [t0, t1]) mixed Tryz.func150 (by kernel_rfl) h
theorem A6n {X : Nat → Prop} {t0 t1 : Value} {K : Value → WP} {w : World} (h : Fn PR X 150 #[t0, t1] w K) : s7 PR X 150 [t0, t1] K w := ⟨A5s, h⟩
end Go.Proofs.YtlplkjgcfjdinaaGreat
namespace Go.Proofs.YtlplkjgcfjdinaaGreat
open Go
theorem B4r : TI PR 106 Tryz.t106.desc 4 32 (.agg #[.nilFunc, .nilFunc, .nilFunc, .nilFunc]) := ⟨Tryz.underlying106, Tryz.t106, by kernel_rfl, rfl, rfl, rfl⟩
theorem A0m : TI PR 108 Tryz.t107.desc 6 64 (.agg #[(.int .i64 0), (.string (ByteArray.mk #[])), (.string (ByteArray.mk #[])), (.int .i64 0), (.int .i64 0), (.int .i64 0)]) := ⟨Tryz.underlying108, Tryz.t108, by kernel_rfl, rfl, rfl, rfl⟩
theorem A8C : TI PR 110 Tryz.t109.desc 7 72 (.agg #[(.int .i64 0), (.string (ByteArray.mk #[])), (.string (ByteArray.mk #[])), (.int .i64 0), (.int .i64 0), (.int .i64 0), (.int .i64 0)]) := ⟨Tryz.underlying110, Tryz.t110, by kernel_rfl, rfl, rfl, rfl⟩
theorem A0d : TI PR 119 Tryz.t118.desc 4 40 (.agg #[(.int .i64 0), (.string (ByteArray.mk #[])), (.int .i64 0), (.int .i64 0)]) := ⟨Tryz.underlying119, Tryz.t119, by kernel_rfl, rfl, rfl, rfl⟩
theorem A2l : TI PR 122 Tryz.t122.desc 1 8 (.int .u64 0) := ⟨Tryz.underlying122, Tryz.t122, by kernel_rfl, rfl, rfl, rfl⟩
theorem A6S : TI PR 129 Tryz.t128.desc 2 16 (.agg #[(.int .i64 0), (.int .i64 0)]) := ⟨Tryz.underlying129, Tryz.t129, by kernel_rfl, rfl, rfl, rfl⟩
theorem A4W : TI PR 153 Tryz.t139.desc 3 24 (.agg #[(.int .i64 0), (.int .i64 0), (.int .i64 0)]) := ⟨Tryz.underlying153, Tryz.t153, by kernel_rfl, rfl, rfl, rfl⟩
theorem B4v : TI PR 159 Tryz.t159.desc 38 38 (.agg #[(.int .u8 0), (.int .u8 0), (.int .u8 0), (.int .u8 0), (.int .u8 0), (.int .u8 0), (.int .u8 0), (.int .u8 0), (.int .u8 0), (.int .u8 0), (.int .u8 0), (.int .u8 0), (.int .u8 0), (.int .u8 0), (.int .u8 0), (.int .u8 0), (.int .u8 0), (.int .u8 0), (.int .u8 0), (.int .u8 0), (.int .u8 0), (.int .u8 0), (.int .u8 0), (.int .u8 0), (.int .u8 0), (.int .u8 0), (.int .u8 0), (.int .u8 0), (.int .u8 0), (.int .u8 0), (.int .u8 0), (.int .u8 0), (.int .u8 0), (.int .u8 0), (.int .u8 0), (.int .u8 0), (.int .u8 0), (.int .u8 0)]) := ⟨Tryz.underlying159, Tryz.t159, by kernel_rfl, rfl, rfl, rfl⟩
theorem A6W : TI PR 160 Tryz.t160.desc 1 24 (.slice none 0 0) := ⟨Tryz.underlying160, Tryz.t160, by kernel_rfl, rfl, rfl, rfl⟩
theorem C1j : TI PR 165 Tryz.t165.desc 1 8 .nilFunc := ⟨Tryz.underlying165, Tryz.t165, by kernel_rfl, rfl, rfl, rfl⟩
theorem A6Y : TI PR 184 Tryz.t171.desc 3 40 (.agg #[(.string (ByteArray.mk #[])), (.string (ByteArray.mk #[])), (.int .i64 0)]) := ⟨Tryz.underlying184, Tryz.t184, by kernel_rfl, rfl, rfl, rfl⟩
theorem A6T : TI PR 188 Tryz.t171.desc 3 40 (.agg #[(.string (ByteArray.mk #[])), (.string (ByteArray.mk #[])), (.int .i64 0)]) := ⟨Tryz.underlying188, Tryz.t188, by kernel_rfl, rfl, rfl, rfl⟩
theorem B4x : TI PR 205 Tryz.t79.desc 1 24 (.slice none 0 0) := ⟨Tryz.underlying205, Tryz.t205, by kernel_rfl, rfl, rfl, rfl⟩
theorem A6e : TI PR 219 Tryz.t218.desc 2 16 (.agg #[.nilFunc, (.int .i64 0)]) := ⟨Tryz.underlying219, Tryz.t219, by kernel_rfl, rfl, rfl, rfl⟩
theorem C1n : TI PR 227 Tryz.t227.desc 1 8 .nilFunc := ⟨Tryz.underlying227, Tryz.t227, by kernel_rfl, rfl, rfl, rfl⟩
theorem B84 : TI PR 229 Tryz.t122.desc 1 8 (.int .u64 0) := ⟨Tryz.underlying229, Tryz.t229, by kernel_rfl, rfl, rfl, rfl⟩
theorem A28 : TI PR 23 Tryz.t22.desc 5 40 (.agg #[(.int .i64 0), (.int .i64 0), (.int .i64 0), (.int .i64 0), (.int .i64 0)]) := ⟨Tryz.underlying23, Tryz.t23, by kernel_rfl, rfl, rfl, rfl⟩
theorem A4U : TI PR 241 Tryz.t178.desc 2 16 (.agg #[(.int .u64 0), (.int .i64 0)]) := ⟨Tryz.underlying241, Tryz.t241, by kernel_rfl, rfl, rfl, rfl⟩
theorem F6 : TI PR 3 Tryz.t3.desc 1 8 (.int .i64 0) := ⟨Tryz.underlying3, Tryz.t3, by kernel_rfl, rfl, rfl, rfl⟩
theorem B5L : TI PR 42 Tryz.t3.desc 1 8 (.int .i64 0) := ⟨Tryz.underlying42, Tryz.t42, by kernel_rfl, rfl, rfl, rfl⟩
theorem A4N : TI PR 44 Tryz.t43.desc 4 32 (.agg #[(.int .i64 0), (.int .i64 0), (.bool false), (.int .i64 0)]) := ⟨Tryz.underlying44, Tryz.t44, by kernel_rfl, rfl, rfl, rfl⟩
theorem B7l : TI PR 46 Tryz.t45.desc 10 80 (.agg #[(.int .i64 0), (.int .i64 0), (.int .i64 0), (.int .i64 0), (.int .i64 0), (.int .i64 0), (.int .i64 0), (.int .i64 0), (.bool false), (.int .i64 0)]) := ⟨Tryz.underlying46, Tryz.t46, by kernel_rfl, rfl, rfl, rfl⟩
theorem A0W : TI PR 47 Tryz.t45.desc 10 80 (.agg #[(.int .i64 0), (.int .i64 0), (.int .i64 0), (.int .i64 0), (.int .i64 0), (.int .i64 0), (.int .i64 0), (.int .i64 0), (.bool false), (.int .i64 0)]) := ⟨Tryz.underlying47, Tryz.t47, by kernel_rfl, rfl, rfl, rfl⟩
theorem C4s : TI PR 57 Tryz.t57.desc 1 8 .nilFunc := ⟨Tryz.underlying57, Tryz.t57, by kernel_rfl, rfl, rfl, rfl⟩
theorem A99 : TI PR 79 Tryz.t79.desc 1 24 (.slice none 0 0) := ⟨Tryz.underlying79, Tryz.t79, by kernel_rfl, rfl, rfl, rfl⟩
theorem C4u : TI PR 85 Tryz.t85.desc 1 8 .nilFunc := ⟨Tryz.underlying85, Tryz.t85, by kernel_rfl, rfl, rfl, rfl⟩
theorem C2Z : TI PR 147 Tryz.t147.desc 1 24 (.slice none 0 0) := ⟨Tryz.underlying147, Tryz.t147, by kernel_rfl, rfl, rfl, rfl⟩
theorem B1U : TI PR 179 Tryz.t178.desc 2 16 (.agg #[(.int .u64 0), (.int .i64 0)]) := ⟨Tryz.underlying179, Tryz.t179, by kernel_rfl, rfl, rfl, rfl⟩
theorem B8w : TI PR 221 Tryz.t221.desc 1 24 (.slice none 0 0) := ⟨Tryz.underlying221, Tryz.t221, by kernel_rfl, rfl, rfl, rfl⟩
theorem ty9 : TI PR 9 Tryz.t9.desc 1 16 (.string (ByteArray.mk #[])) := ⟨Tryz.underlying9, Tryz.t9, by kernel_rfl, rfl, rfl, rfl⟩
theorem B1W : TI PR 239 Tryz.t239.desc 1 24 (.slice none 0 0) := ⟨Tryz.underlying239, Tryz.t239, by kernel_rfl, rfl, rfl, rfl⟩
theorem B4c : TI PR 32 Tryz.t32.desc 1 24 (.slice none 0 0) := ⟨Tryz.underlying32, Tryz.t32, by kernel_rfl, rfl, rfl, rfl⟩
theorem B5D : TI PR 35 Tryz.t35.desc 1 24 (.slice none 0 0) := ⟨Tryz.underlying35, Tryz.t35, by kernel_rfl, rfl, rfl, rfl⟩
theorem A7e : TI PR 50 Tryz.t50.desc 1 24 (.slice none 0 0) := ⟨Tryz.underlying50, Tryz.t50, by kernel_rfl, rfl, rfl, rfl⟩
@[simp] theorem C3K  (K : Value → WP) : A0 PR (Instr.build 108 #[]) K = K (.agg #[(.int .i64 0), (.string (ByteArray.mk #[])), (.string (ByteArray.mk #[])), (.int .i64 0), (.int .i64 0), (.int .i64 0)]) := F2 (pl := #[(0, 1), (1, 1), (2, 1), (3, 1), (4, 1), (5, 1)]) A0m (fun w => by kernel_rfl) rfl
@[simp] theorem B7s {v0 v1 v2 v3 : Value} (h0 : v0.cells.size = 1) (h1 : v1.cells.size = 1) (h2 : v2.cells.size = 1) (h3 : v3.cells.size = 1) (K : Value → WP) : A0 PR (Instr.build 108 #[(0, v0), (1, v1), (2, v2), (5, v3)]) K = K (.agg (D7 (D7 (D7 (D7 #[(.int .i64 0), (.string (ByteArray.mk #[])), (.string (ByteArray.mk #[])), (.int .i64 0), (.int .i64 0), (.int .i64 0)] 0 v0.cells.toList) 1 v1.cells.toList) 2 v2.cells.toList) 5 v3.cells.toList)) := F2 (pl := #[(0, 1), (1, 1), (2, 1), (3, 1), (4, 1), (5, 1)]) A0m (fun w => by kernel_rfl) (by rw [B4 rfl h0 (by simp [C0]), B4 rfl h1 (by simp [C0]), B4 rfl h2 (by simp [C0]), B4 rfl h3 (by simp [C0])]; rfl)
@[simp] theorem C39  (K : Value → WP) : A0 PR (Instr.build 110 #[]) K = K (.agg #[(.int .i64 0), (.string (ByteArray.mk #[])), (.string (ByteArray.mk #[])), (.int .i64 0), (.int .i64 0), (.int .i64 0), (.int .i64 0)]) := F2 (pl := #[(0, 6), (6, 1)]) A8C (fun w => by kernel_rfl) rfl
@[simp] theorem C0Z {v0 v1 : Value} (h0 : v0.cells.size = 6) (h1 : v1.cells.size = 1) (K : Value → WP) : A0 PR (Instr.build 110 #[(0, v0), (1, v1)]) K = K (.agg (D7 (D7 #[(.int .i64 0), (.string (ByteArray.mk #[])), (.string (ByteArray.mk #[])), (.int .i64 0), (.int .i64 0), (.int .i64 0), (.int .i64 0)] 0 v0.cells.toList) 6 v1.cells.toList)) := F2 (pl := #[(0, 6), (6, 1)]) A8C (fun w => by kernel_rfl) (by rw [B4 rfl h0 (by simp [C0]), B4 rfl h1 (by simp [C0])]; rfl)
@[simp] theorem B7w {v0 v1 v2 v3 : Value} (h0 : v0.cells.size = 1) (h1 : v1.cells.size = 1) (h2 : v2.cells.size = 1) (h3 : v3.cells.size = 1) (K : Value → WP) : A0 PR (Instr.build 119 #[(0, v0), (1, v1), (2, v2), (3, v3)]) K = K (.agg (D7 (D7 (D7 (D7 #[(.int .i64 0), (.string (ByteArray.mk #[])), (.int .i64 0), (.int .i64 0)] 0 v0.cells.toList) 1 v1.cells.toList) 2 v2.cells.toList) 3 v3.cells.toList)) := F2 (pl := #[(0, 1), (1, 1), (2, 1), (3, 1)]) A0d (fun w => by kernel_rfl) (by rw [B4 rfl h0 (by simp [C0]), B4 rfl h1 (by simp [C0]), B4 rfl h2 (by simp [C0]), B4 rfl h3 (by simp [C0])]; rfl)
@[simp] theorem C2r {v0 : Value} (h0 : v0.cells.size = 1) (K : Value → WP) : A0 PR (Instr.build 119 #[(0, v0)]) K = K (.agg (D7 #[(.int .i64 0), (.string (ByteArray.mk #[])), (.int .i64 0), (.int .i64 0)] 0 v0.cells.toList)) := F2 (pl := #[(0, 1), (1, 1), (2, 1), (3, 1)]) A0d (fun w => by kernel_rfl) (by rw [B4 rfl h0 (by simp [C0])]; rfl)
@[simp] theorem C3G  (K : Value → WP) : A0 PR (Instr.build 153 #[]) K = K (.agg #[(.int .i64 0), (.int .i64 0), (.int .i64 0)]) := F2 (pl := #[(0, 1), (1, 1), (2, 1)]) A4W (fun w => by kernel_rfl) rfl
@[simp] theorem C0b {v0 v1 : Value} (h0 : v0.cells.size = 1) (h1 : v1.cells.size = 1) (K : Value → WP) : A0 PR (Instr.build 153 #[(0, v0), (1, v1)]) K = K (.agg (D7 (D7 #[(.int .i64 0), (.int .i64 0), (.int .i64 0)] 0 v0.cells.toList) 1 v1.cells.toList)) := F2 (pl := #[(0, 1), (1, 1), (2, 1)]) A4W (fun w => by kernel_rfl) (by rw [B4 rfl h0 (by simp [C0]), B4 rfl h1 (by simp [C0])]; rfl)
@[simp] theorem B9W {v0 v1 v2 : Value} (h0 : v0.cells.size = 1) (h1 : v1.cells.size = 1) (h2 : v2.cells.size = 1) (K : Value → WP) : A0 PR (Instr.build 153 #[(0, v0), (1, v1), (2, v2)]) K = K (.agg (D7 (D7 (D7 #[(.int .i64 0), (.int .i64 0), (.int .i64 0)] 0 v0.cells.toList) 1 v1.cells.toList) 2 v2.cells.toList)) := F2 (pl := #[(0, 1), (1, 1), (2, 1)]) A4W (fun w => by kernel_rfl) (by rw [B4 rfl h0 (by simp [C0]), B4 rfl h1 (by simp [C0]), B4 rfl h2 (by simp [C0])]; rfl)
theorem A8p : TI PR 164 Tryz.t164.desc 2 16 (.agg #[(.int .i64 0), (.int .i64 0)]) := ⟨Tryz.underlying164, Tryz.t164, by kernel_rfl, rfl, rfl, rfl⟩
@[simp] theorem C4L  (K : Value → WP) : A0 PR (Instr.build 184 #[]) K = K (.agg #[(.string (ByteArray.mk #[])), (.string (ByteArray.mk #[])), (.int .i64 0)]) := F2 (pl := #[(0, 1), (1, 1), (2, 1)]) A6Y (fun w => by kernel_rfl) rfl
@[simp] theorem B9k {v0 v1 v2 : Value} (h0 : v0.cells.size = 1) (h1 : v1.cells.size = 1) (h2 : v2.cells.size = 1) (K : Value → WP) : A0 PR (Instr.build 184 #[(0, v0), (1, v1), (2, v2)]) K = K (.agg (D7 (D7 (D7 #[(.string (ByteArray.mk #[])), (.string (ByteArray.mk #[])), (.int .i64 0)] 0 v0.cells.toList) 1 v1.cells.toList) 2 v2.cells.toList)) := F2 (pl := #[(0, 1), (1, 1), (2, 1)]) A6Y (fun w => by kernel_rfl) (by rw [B4 rfl h0 (by simp [C0]), B4 rfl h1 (by simp [C0]), B4 rfl h2 (by simp [C0])]; rfl)
@[simp] theorem C34  (K : Value → WP) : A0 PR (Instr.build 188 #[]) K = K (.agg #[(.string (ByteArray.mk #[])), (.string (ByteArray.mk #[])), (.int .i64 0)]) := F2 (pl := #[(0, 1), (1, 1), (2, 1)]) A6T (fun w => by kernel_rfl) rfl
@[simp] theorem B9Y {v0 v1 v2 : Value} (h0 : v0.cells.size = 1) (h1 : v1.cells.size = 1) (h2 : v2.cells.size = 1) (K : Value → WP) : A0 PR (Instr.build 188 #[(0, v0), (1, v1), (2, v2)]) K = K (.agg (D7 (D7 (D7 #[(.string (ByteArray.mk #[])), (.string (ByteArray.mk #[])), (.int .i64 0)] 0 v0.cells.toList) 1 v1.cells.toList) 2 v2.cells.toList)) := F2 (pl := #[(0, 1), (1, 1), (2, 1)]) A6T (fun w => by kernel_rfl) (by rw [B4 rfl h0 (by simp [C0]), B4 rfl h1 (by simp [C0]), B4 rfl h2 (by simp [C0])]; rfl)
@[simp] theorem C06 {v0 v1 : Value} (h0 : v0.cells.size = 1) (h1 : v1.cells.size = 1) (K : Value → WP) : A0 PR (Instr.build 219 #[(0, v0), (1, v1)]) K = K (.agg (D7 (D7 #[.nilFunc, (.int .i64 0)] 0 v0.cells.toList) 1 v1.cells.toList)) := F2 (pl := #[(0, 1), (1, 1)]) A6e (fun w => by kernel_rfl) (by rw [B4 rfl h0 (by simp [C0]), B4 rfl h1 (by simp [C0])]; rfl)
theorem B88 : TI PR 224 Tryz.t223.desc 0 0 (.agg #[]) := ⟨Tryz.underlying224, Tryz.t224, by kernel_rfl, rfl, rfl, rfl⟩
@[simp] theorem C3F  (K : Value → WP) : A0 PR (Instr.build 224 #[]) K = K (.agg #[]) := F2 (pl := #[]) B88 (fun w => by kernel_rfl) rfl
theorem B85 : TI PR 225 Tryz.t223.desc 0 0 (.agg #[]) := ⟨Tryz.underlying225, Tryz.t225, by kernel_rfl, rfl, rfl, rfl⟩
@[simp] theorem C3j  (K : Value → WP) : A0 PR (Instr.build 225 #[]) K = K (.agg #[]) := F2 (pl := #[]) B85 (fun w => by kernel_rfl) rfl
@[simp] theorem B7E {v0 v1 v2 v3 v4 : Value} (h0 : v0.cells.size = 1) (h1 : v1.cells.size = 1) (h2 : v2.cells.size = 1) (h3 : v3.cells.size = 1) (h4 : v4.cells.size = 1) (K : Value → WP) : A0 PR (Instr.build 23 #[(0, v0), (1, v1), (2, v2), (3, v3), (4, v4)]) K = K (.agg (D7 (D7 (D7 (D7 (D7 #[(.int .i64 0), (.int .i64 0), (.int .i64 0), (.int .i64 0), (.int .i64 0)] 0 v0.cells.toList) 1 v1.cells.toList) 2 v2.cells.toList) 3 v3.cells.toList) 4 v4.cells.toList)) := F2 (pl := #[(0, 1), (1, 1), (2, 1), (3, 1), (4, 1)]) A28 (fun w => by kernel_rfl) (by rw [B4 rfl h0 (by simp [C0]), B4 rfl h1 (by simp [C0]), B4 rfl h2 (by simp [C0]), B4 rfl h3 (by simp [C0]), B4 rfl h4 (by simp [C0])]; rfl)
@[simp] theorem C0Y {v0 v1 : Value} (h0 : v0.cells.size = 1) (h1 : v1.cells.size = 1) (K : Value → WP) : A0 PR (Instr.build 241 #[(0, v0), (1, v1)]) K = K (.agg (D7 (D7 #[(.int .u64 0), (.int .i64 0)] 0 v0.cells.toList) 1 v1.cells.toList)) := F2 (pl := #[(0, 1), (1, 1)]) A4U (fun w => by kernel_rfl) (by rw [B4 rfl h0 (by simp [C0]), B4 rfl h1 (by simp [C0])]; rfl)
@[simp] theorem C4y  (K : Value → WP) : A0 PR (Instr.build 44 #[]) K = K (.agg #[(.int .i64 0), (.int .i64 0), (.bool false), (.int .i64 0)]) := F2 (pl := #[(0, 1), (1, 1), (2, 1), (3, 1)]) A4N (fun w => by kernel_rfl) rfl
@[simp] theorem C3D {v0 : Value} (h0 : v0.cells.size = 1) (K : Value → WP) : A0 PR (Instr.build 44 #[(0, v0)]) K = K (.agg (D7 #[(.int .i64 0), (.int .i64 0), (.bool false), (.int .i64 0)] 0 v0.cells.toList)) := F2 (pl := #[(0, 1), (1, 1), (2, 1), (3, 1)]) A4N (fun w => by kernel_rfl) (by rw [B4 rfl h0 (by simp [C0])]; rfl)
@[simp] theorem C1a {v0 v1 : Value} (h0 : v0.cells.size = 1) (h1 : v1.cells.size = 1) (K : Value → WP) : A0 PR (Instr.build 44 #[(1, v0), (2, v1)]) K = K (.agg (D7 (D7 #[(.int .i64 0), (.int .i64 0), (.bool false), (.int .i64 0)] 1 v0.cells.toList) 2 v1.cells.toList)) := F2 (pl := #[(0, 1), (1, 1), (2, 1), (3, 1)]) A4N (fun w => by kernel_rfl) (by rw [B4 rfl h0 (by simp [C0]), B4 rfl h1 (by simp [C0])]; rfl)
@[simp] theorem C3C {v0 : Value} (h0 : v0.cells.size = 1) (K : Value → WP) : A0 PR (Instr.build 44 #[(1, v0)]) K = K (.agg (D7 #[(.int .i64 0), (.int .i64 0), (.bool false), (.int .i64 0)] 1 v0.cells.toList)) := F2 (pl := #[(0, 1), (1, 1), (2, 1), (3, 1)]) A4N (fun w => by kernel_rfl) (by rw [B4 rfl h0 (by simp [C0])]; rfl)
@[simp] theorem C0K {v0 v1 v2 : Value} (h0 : v0.cells.size = 1) (h1 : v1.cells.size = 1) (h2 : v2.cells.size = 1) (K : Value → WP) : A0 PR (Instr.build 47 #[(2, v0), (3, v1), (4, v2)]) K = K (.agg (D7 (D7 (D7 #[(.int .i64 0), (.int .i64 0), (.int .i64 0), (.int .i64 0), (.int .i64 0), (.int .i64 0), (.int .i64 0), (.int .i64 0), (.bool false), (.int .i64 0)] 2 v0.cells.toList) 3 v1.cells.toList) 4 v2.cells.toList)) := F2 (pl := #[(0, 1), (1, 1), (2, 1), (3, 1), (4, 1), (5, 1), (6, 4)]) A0W (fun w => by kernel_rfl) (by rw [B4 rfl h0 (by simp [C0]), B4 rfl h1 (by simp [C0]), B4 rfl h2 (by simp [C0])]; rfl)
@[simp] theorem B86 {v0 v1 v2 v3 : Value} (h0 : v0.cells.size = 1) (h1 : v1.cells.size = 1) (h2 : v2.cells.size = 1) (h3 : v3.cells.size = 4) (K : Value → WP) : A0 PR (Instr.build 47 #[(2, v0), (3, v1), (4, v2), (6, v3)]) K = K (.agg (D7 (D7 (D7 (D7 #[(.int .i64 0), (.int .i64 0), (.int .i64 0), (.int .i64 0), (.int .i64 0), (.int .i64 0), (.int .i64 0), (.int .i64 0), (.bool false), (.int .i64 0)] 2 v0.cells.toList) 3 v1.cells.toList) 4 v2.cells.toList) 6 v3.cells.toList)) := F2 (pl := #[(0, 1), (1, 1), (2, 1), (3, 1), (4, 1), (5, 1), (6, 4)]) A0W (fun w => by kernel_rfl) (by rw [B4 rfl h0 (by simp [C0]), B4 rfl h1 (by simp [C0]), B4 rfl h2 (by simp [C0]), B4 rfl h3 (by simp [C0])]; rfl)
@[simp] theorem C1U {v0 v1 : Value} (h0 : v0.cells.size = 1) (h1 : v1.cells.size = 1) (K : Value → WP) : A0 PR (Instr.build 47 #[(3, v0), (4, v1)]) K = K (.agg (D7 (D7 #[(.int .i64 0), (.int .i64 0), (.int .i64 0), (.int .i64 0), (.int .i64 0), (.int .i64 0), (.int .i64 0), (.int .i64 0), (.bool false), (.int .i64 0)] 3 v0.cells.toList) 4 v1.cells.toList)) := F2 (pl := #[(0, 1), (1, 1), (2, 1), (3, 1), (4, 1), (5, 1), (6, 4)]) A0W (fun w => by kernel_rfl) (by rw [B4 rfl h0 (by simp [C0]), B4 rfl h1 (by simp [C0])]; rfl)
theorem A4H : TI PR 52 Tryz.t51.desc 4 56 (.agg #[(.int .i64 0), (.string (ByteArray.mk #[])), (.slice none 0 0), (.int .i64 0)]) := ⟨Tryz.underlying52, Tryz.t52, by kernel_rfl, rfl, rfl, rfl⟩
@[simp] theorem C3n {v0 : Value} (h0 : v0.cells.size = 1) (K : Value → WP) : A0 PR (Instr.build 52 #[(0, v0)]) K = K (.agg (D7 #[(.int .i64 0), (.string (ByteArray.mk #[])), (.slice none 0 0), (.int .i64 0)] 0 v0.cells.toList)) := F2 (pl := #[(0, 1), (1, 1), (2, 1), (3, 1)]) A4H (fun w => by kernel_rfl) (by rw [B4 rfl h0 (by simp [C0])]; rfl)
theorem B5W : TI PR 78 Tryz.t77.desc 7 88 (.agg #[(.int .i64 0), (.int .i64 0), (.int .i64 0), (.int .i64 0), (.int .i64 0), (.slice none 0 0), (.slice none 0 0)]) := ⟨Tryz.underlying78, Tryz.t78, by kernel_rfl, rfl, rfl, rfl⟩
@[simp] theorem C1b {v0 v1 : Value} (h0 : v0.cells.size = 5) (h1 : v1.cells.size = 1) (K : Value → WP) : A0 PR (Instr.build 78 #[(0, v0), (2, v1)]) K = K (.agg (D7 (D7 #[(.int .i64 0), (.int .i64 0), (.int .i64 0), (.int .i64 0), (.int .i64 0), (.slice none 0 0), (.slice none 0 0)] 0 v0.cells.toList) 6 v1.cells.toList)) := F2 (pl := #[(0, 5), (5, 1), (6, 1)]) B5W (fun w => by kernel_rfl) (by rw [B4 rfl h0 (by simp [C0]), B4 rfl h1 (by simp [C0])]; rfl)
theorem ty5 : TI PR 5 Tryz.t5.desc 1 1 (.int .u8 0) := ⟨Tryz.underlying5, Tryz.t5, by kernel_rfl, rfl, rfl, rfl⟩
theorem B4Y : TI PR 207 Tryz.t207.desc 1 24 (.slice none 0 0) := ⟨Tryz.underlying207, Tryz.t207, by kernel_rfl, rfl, rfl, rfl⟩
theorem B2C : TI PR 24 Tryz.t24.desc 1 24 (.slice none 0 0) := ⟨Tryz.underlying24, Tryz.t24, by kernel_rfl, rfl, rfl, rfl⟩
theorem A9l : TI PR 53 Tryz.t53.desc 1 24 (.slice none 0 0) := ⟨Tryz.underlying53, Tryz.t53, by kernel_rfl, rfl, rfl, rfl⟩
theorem B5H : TI PR 251 Tryz.t251.desc 1 24 (.slice none 0 0) := ⟨Tryz.underlying251, Tryz.t251, by kernel_rfl, rfl, rfl, rfl⟩
theorem B8v : TI PR 104 Tryz.t104.desc 1 8 (.int .u64 0) := ⟨Tryz.underlying104, Tryz.t104, by kernel_rfl, rfl, rfl, rfl⟩
@[simp] theorem C20 {k : IntKind} (a : Int) (K : Value → WP) : A0 PR (convert 104 3 (.int k a)) K = K (.int .i64 (IntKind.i64.wrap a)) := A02 F6 B8v
@[simp] theorem C28 {k : IntKind} (a : Int) (K : Value → WP) : A0 PR (convert 122 3 (.int k a)) K = K (.int .i64 (IntKind.i64.wrap a)) := A02 F6 A2l
@[simp] theorem C2N {k : IntKind} (a : Int) (K : Value → WP) : A0 PR (convert 122 5 (.int k a)) K = K (.int .u8 (IntKind.u8.wrap a)) := A02 ty5 A2l
theorem B3J {K : Value → WP} {w : World} {b o cap : Nat} {ns : List Int} (hr : H4 w b o (ns.map (Value.int .u8))) : A6 PR (convert 160 9 (.slice (some ⟨b, o, none⟩) ns.length cap)) K w = K (.string (A1m ns)) w := C2M A6W ty5 ty9 hr
@[simp] theorem C2U {k : IntKind} (a : Int) (K : Value → WP) : A0 PR (convert 3 104 (.int k a)) K = K (.int .u64 (IntKind.u64.wrap a)) := A02 B8v F6
@[simp] theorem C2b {k : IntKind} (a : Int) (K : Value → WP) : A0 PR (convert 3 122 (.int k a)) K = K (.int .u64 (IntKind.u64.wrap a)) := A02 A2l F6
@[simp] theorem C1g {k : IntKind} (a : Int) (K : Value → WP) : A0 PR (convert 5 122 (.int k a)) K = K (.int .u64 (IntKind.u64.wrap a)) := A02 A2l ty5
@[simp] theorem C2v {k : IntKind} (a : Int) (K : Value → WP) : A0 PR (convert 5 229 (.int k a)) K = K (.int .u64 (IntKind.u64.wrap a)) := A02 B84 ty5
@[simp] theorem C4f {k : IntKind} (a : Int) (K : Value → WP) : A0 PR (convert 5 3 (.int k a)) K = K (.int .i64 (IntKind.i64.wrap a)) := A02 F6 ty5
theorem ty4 : TI PR 4 Tryz.t4.desc 1 1 (.bool false) := ⟨Tryz.underlying4, Tryz.t4, by kernel_rfl, rfl, rfl, rfl⟩
@[simp] theorem B8m (a0 b0 : Int) (a1 b1 : Int) (a2 b2 : Bool) (a3 b3 : Int) (x y : Operand) (K : Value → WP) (w : World) : A6 PR (q6 .eql 44 x y (.agg #[.int .i64 a0, .int .i64 a1, .bool a2, .int .i64 a3]) (.agg #[.int .i64 b0, .int .i64 b1, .bool b2, .int .i64 b3])) K w = K (.bool (decide (a0 = b0) && (decide (a1 = b1) && ((a2 == b2) && (decide (a3 = b3) && true))))) w := C2e (by kernel_rfl) (B5C (e := 9999) A4N (by kernel_rfl) (A4u rfl B5L rfl rfl rfl (A9C (e := 9998) B5L) (A4u rfl F6 rfl rfl rfl (A9C (e := 9998) F6) (A4u rfl ty4 rfl rfl rfl (B7r (e := 9998) ty4) (A4u rfl F6 rfl rfl rfl (A9C (e := 9998) F6) (B9l))))))
@[simp] theorem C2T (b o : Nat) (K : Value → WP) : A0 PR (Instr.fieldAt 108 (.pointer (some ⟨b, o, none⟩)) 0) K = K (.pointer (some ⟨b, o, none⟩)) := B3 (i := 0) A0m rfl ⟨_, _, _, _, F6⟩ b o
@[simp] theorem C2q (b o : Nat) (K : Value → WP) : A0 PR (Instr.fieldAt 108 (.pointer (some ⟨b, o, none⟩)) 1) K = K (.pointer (some ⟨b, o + 1, none⟩)) := B3 (i := 1) A0m rfl ⟨_, _, _, _, ty9⟩ b o
@[simp] theorem C1k (b o : Nat) (K : Value → WP) : A0 PR (Instr.fieldAt 108 (.pointer (some ⟨b, o, none⟩)) 2) K = K (.pointer (some ⟨b, o + 2, none⟩)) := B3 (i := 2) A0m rfl ⟨_, _, _, _, ty9⟩ b o
@[simp] theorem C2w (b o : Nat) (K : Value → WP) : A0 PR (Instr.fieldAt 108 (.pointer (some ⟨b, o, none⟩)) 3) K = K (.pointer (some ⟨b, o + 3, none⟩)) := B3 (i := 3) A0m rfl ⟨_, _, _, _, F6⟩ b o
@[simp] theorem C2F (b o : Nat) (K : Value → WP) : A0 PR (Instr.fieldAt 108 (.pointer (some ⟨b, o, none⟩)) 4) K = K (.pointer (some ⟨b, o + 4, none⟩)) := B3 (i := 4) A0m rfl ⟨_, _, _, _, F6⟩ b o
@[simp] theorem C2f (b o : Nat) (K : Value → WP) : A0 PR (Instr.fieldAt 108 (.pointer (some ⟨b, o, none⟩)) 5) K = K (.pointer (some ⟨b, o + 5, none⟩)) := B3 (i := 5) A0m rfl ⟨_, _, _, _, F6⟩ b o
@[simp] theorem C1z (b o : Nat) (K : Value → WP) : A0 PR (Instr.fieldAt 110 (.pointer (some ⟨b, o, none⟩)) 0) K = K (.pointer (some ⟨b, o, none⟩)) := B3 (i := 0) A8C rfl ⟨_, _, _, _, A0m⟩ b o
@[simp] theorem C2E (b o : Nat) (K : Value → WP) : A0 PR (Instr.fieldAt 110 (.pointer (some ⟨b, o, none⟩)) 1) K = K (.pointer (some ⟨b, o + 6, none⟩)) := B3 (i := 1) A8C rfl ⟨_, _, _, _, F6⟩ b o
@[simp] theorem C1e (b o : Nat) (K : Value → WP) : A0 PR (Instr.fieldAt 119 (.pointer (some ⟨b, o, none⟩)) 0) K = K (.pointer (some ⟨b, o, none⟩)) := B3 (i := 0) A0d rfl ⟨_, _, _, _, F6⟩ b o
@[simp] theorem C14 (b o : Nat) (K : Value → WP) : A0 PR (Instr.fieldAt 119 (.pointer (some ⟨b, o, none⟩)) 1) K = K (.pointer (some ⟨b, o + 1, none⟩)) := B3 (i := 1) A0d rfl ⟨_, _, _, _, ty9⟩ b o
@[simp] theorem C23 (b o : Nat) (K : Value → WP) : A0 PR (Instr.fieldAt 119 (.pointer (some ⟨b, o, none⟩)) 2) K = K (.pointer (some ⟨b, o + 2, none⟩)) := B3 (i := 2) A0d rfl ⟨_, _, _, _, F6⟩ b o
@[simp] theorem C21 (b o : Nat) (K : Value → WP) : A0 PR (Instr.fieldAt 119 (.pointer (some ⟨b, o, none⟩)) 3) K = K (.pointer (some ⟨b, o + 3, none⟩)) := B3 (i := 3) A0d rfl ⟨_, _, _, _, F6⟩ b o
@[simp] theorem C1p (b o : Nat) (K : Value → WP) : A0 PR (Instr.fieldAt 129 (.pointer (some ⟨b, o, none⟩)) 0) K = K (.pointer (some ⟨b, o, none⟩)) := B3 (i := 0) A6S rfl ⟨_, _, _, _, F6⟩ b o
@[simp] theorem C2K (b o : Nat) (K : Value → WP) : A0 PR (Instr.fieldAt 129 (.pointer (some ⟨b, o, none⟩)) 1) K = K (.pointer (some ⟨b, o + 1, none⟩)) := B3 (i := 1) A6S rfl ⟨_, _, _, _, F6⟩ b o
@[simp] theorem C2Q (b o : Nat) (K : Value → WP) : A0 PR (Instr.fieldAt 153 (.pointer (some ⟨b, o, none⟩)) 0) K = K (.pointer (some ⟨b, o, none⟩)) := B3 (i := 0) A4W rfl ⟨_, _, _, _, F6⟩ b o
@[simp] theorem C1x (b o : Nat) (K : Value → WP) : A0 PR (Instr.fieldAt 153 (.pointer (some ⟨b, o, none⟩)) 1) K = K (.pointer (some ⟨b, o + 1, none⟩)) := B3 (i := 1) A4W rfl ⟨_, _, _, _, F6⟩ b o
@[simp] theorem C1r (b o : Nat) (K : Value → WP) : A0 PR (Instr.fieldAt 153 (.pointer (some ⟨b, o, none⟩)) 2) K = K (.pointer (some ⟨b, o + 2, none⟩)) := B3 (i := 2) A4W rfl ⟨_, _, _, _, F6⟩ b o
@[simp] theorem C2L (b o : Nat) (K : Value → WP) : A0 PR (Instr.fieldAt 179 (.pointer (some ⟨b, o, none⟩)) 0) K = K (.pointer (some ⟨b, o, none⟩)) := B3 (i := 0) B1U rfl ⟨_, _, _, _, A2l⟩ b o
@[simp] theorem C22 (b o : Nat) (K : Value → WP) : A0 PR (Instr.fieldAt 179 (.pointer (some ⟨b, o, none⟩)) 1) K = K (.pointer (some ⟨b, o + 1, none⟩)) := B3 (i := 1) B1U rfl ⟨_, _, _, _, F6⟩ b o
@[simp] theorem C1f (b o : Nat) (K : Value → WP) : A0 PR (Instr.fieldAt 184 (.pointer (some ⟨b, o, none⟩)) 0) K = K (.pointer (some ⟨b, o, none⟩)) := B3 (i := 0) A6Y rfl ⟨_, _, _, _, ty9⟩ b o
@[simp] theorem C2p (b o : Nat) (K : Value → WP) : A0 PR (Instr.fieldAt 184 (.pointer (some ⟨b, o, none⟩)) 1) K = K (.pointer (some ⟨b, o + 1, none⟩)) := B3 (i := 1) A6Y rfl ⟨_, _, _, _, ty9⟩ b o
@[simp] theorem C1v (b o : Nat) (K : Value → WP) : A0 PR (Instr.fieldAt 184 (.pointer (some ⟨b, o, none⟩)) 2) K = K (.pointer (some ⟨b, o + 2, none⟩)) := B3 (i := 2) A6Y rfl ⟨_, _, _, _, F6⟩ b o
@[simp] theorem C2J (b o : Nat) (K : Value → WP) : A0 PR (Instr.fieldAt 188 (.pointer (some ⟨b, o, none⟩)) 0) K = K (.pointer (some ⟨b, o, none⟩)) := B3 (i := 0) A6T rfl ⟨_, _, _, _, ty9⟩ b o
@[simp] theorem C2y (b o : Nat) (K : Value → WP) : A0 PR (Instr.fieldAt 188 (.pointer (some ⟨b, o, none⟩)) 1) K = K (.pointer (some ⟨b, o + 1, none⟩)) := B3 (i := 1) A6T rfl ⟨_, _, _, _, ty9⟩ b o
@[simp] theorem C12 (b o : Nat) (K : Value → WP) : A0 PR (Instr.fieldAt 188 (.pointer (some ⟨b, o, none⟩)) 2) K = K (.pointer (some ⟨b, o + 2, none⟩)) := B3 (i := 2) A6T rfl ⟨_, _, _, _, F6⟩ b o
theorem C0T : TI PR 29 Tryz.t29.desc 1 8 .nilFunc := ⟨Tryz.underlying29, Tryz.t29, by kernel_rfl, rfl, rfl, rfl⟩
@[simp] theorem C2z (b o : Nat) (K : Value → WP) : A0 PR (Instr.fieldAt 219 (.pointer (some ⟨b, o, none⟩)) 0) K = K (.pointer (some ⟨b, o, none⟩)) := B3 (i := 0) A6e rfl ⟨_, _, _, _, C0T⟩ b o
@[simp] theorem C19 (b o : Nat) (K : Value → WP) : A0 PR (Instr.fieldAt 219 (.pointer (some ⟨b, o, none⟩)) 1) K = K (.pointer (some ⟨b, o + 1, none⟩)) := B3 (i := 1) A6e rfl ⟨_, _, _, _, B5L⟩ b o
@[simp] theorem C3l (b o : Nat) (K : Value → WP) : A0 PR (Instr.fieldAt 23 (.pointer (some ⟨b, o, none⟩)) 0) K = K (.pointer (some ⟨b, o, none⟩)) := B3 (i := 0) A28 rfl ⟨_, _, _, _, F6⟩ b o
@[simp] theorem C3c (b o : Nat) (K : Value → WP) : A0 PR (Instr.fieldAt 23 (.pointer (some ⟨b, o, none⟩)) 1) K = K (.pointer (some ⟨b, o + 1, none⟩)) := B3 (i := 1) A28 rfl ⟨_, _, _, _, F6⟩ b o
@[simp] theorem C4S (b o : Nat) (K : Value → WP) : A0 PR (Instr.fieldAt 23 (.pointer (some ⟨b, o, none⟩)) 2) K = K (.pointer (some ⟨b, o + 2, none⟩)) := B3 (i := 2) A28 rfl ⟨_, _, _, _, F6⟩ b o
@[simp] theorem C33 (b o : Nat) (K : Value → WP) : A0 PR (Instr.fieldAt 23 (.pointer (some ⟨b, o, none⟩)) 3) K = K (.pointer (some ⟨b, o + 3, none⟩)) := B3 (i := 3) A28 rfl ⟨_, _, _, _, F6⟩ b o
@[simp] theorem C3f (b o : Nat) (K : Value → WP) : A0 PR (Instr.fieldAt 23 (.pointer (some ⟨b, o, none⟩)) 4) K = K (.pointer (some ⟨b, o + 4, none⟩)) := B3 (i := 4) A28 rfl ⟨_, _, _, _, F6⟩ b o
@[simp] theorem C15 (b o : Nat) (K : Value → WP) : A0 PR (Instr.fieldAt 241 (.pointer (some ⟨b, o, none⟩)) 0) K = K (.pointer (some ⟨b, o, none⟩)) := B3 (i := 0) A4U rfl ⟨_, _, _, _, A2l⟩ b o
@[simp] theorem C11 (b o : Nat) (K : Value → WP) : A0 PR (Instr.fieldAt 241 (.pointer (some ⟨b, o, none⟩)) 1) K = K (.pointer (some ⟨b, o + 1, none⟩)) := B3 (i := 1) A4U rfl ⟨_, _, _, _, F6⟩ b o
theorem A9w : TI PR 27 Tryz.t26.desc 7 88 (.agg #[(.int .i64 0), (.int .i64 0), (.int .i64 0), (.int .i64 0), (.int .i64 0), (.slice none 0 0), (.slice none 0 0)]) := ⟨Tryz.underlying27, Tryz.t27, by kernel_rfl, rfl, rfl, rfl⟩
@[simp] theorem C4J (b o : Nat) (K : Value → WP) : A0 PR (Instr.fieldAt 27 (.pointer (some ⟨b, o, none⟩)) 0) K = K (.pointer (some ⟨b, o, none⟩)) := B3 (i := 0) A9w rfl ⟨_, _, _, _, A28⟩ b o
@[simp] theorem C3e (b o : Nat) (K : Value → WP) : A0 PR (Instr.fieldAt 27 (.pointer (some ⟨b, o, none⟩)) 1) K = K (.pointer (some ⟨b, o + 5, none⟩)) := B3 (i := 1) A9w rfl ⟨_, _, _, _, B2C⟩ b o
theorem B8G : TI PR 25 Tryz.t25.desc 1 24 (.slice none 0 0) := ⟨Tryz.underlying25, Tryz.t25, by kernel_rfl, rfl, rfl, rfl⟩
@[simp] theorem C32 (b o : Nat) (K : Value → WP) : A0 PR (Instr.fieldAt 27 (.pointer (some ⟨b, o, none⟩)) 2) K = K (.pointer (some ⟨b, o + 6, none⟩)) := B3 (i := 2) A9w rfl ⟨_, _, _, _, B8G⟩ b o
@[simp] theorem C3a (b o : Nat) (K : Value → WP) : A0 PR (Instr.fieldAt 44 (.pointer (some ⟨b, o, none⟩)) 3) K = K (.pointer (some ⟨b, o + 3, none⟩)) := B3 (i := 3) A4N rfl ⟨_, _, _, _, F6⟩ b o
@[simp] theorem C4A (b o : Nat) (K : Value → WP) : A0 PR (Instr.fieldAt 47 (.pointer (some ⟨b, o, none⟩)) 0) K = K (.pointer (some ⟨b, o, none⟩)) := B3 (i := 0) A0W rfl ⟨_, _, _, _, F6⟩ b o
@[simp] theorem C3E (b o : Nat) (K : Value → WP) : A0 PR (Instr.fieldAt 47 (.pointer (some ⟨b, o, none⟩)) 1) K = K (.pointer (some ⟨b, o + 1, none⟩)) := B3 (i := 1) A0W rfl ⟨_, _, _, _, F6⟩ b o
@[simp] theorem C4C (b o : Nat) (K : Value → WP) : A0 PR (Instr.fieldAt 47 (.pointer (some ⟨b, o, none⟩)) 2) K = K (.pointer (some ⟨b, o + 2, none⟩)) := B3 (i := 2) A0W rfl ⟨_, _, _, _, F6⟩ b o
@[simp] theorem C3u (b o : Nat) (K : Value → WP) : A0 PR (Instr.fieldAt 47 (.pointer (some ⟨b, o, none⟩)) 3) K = K (.pointer (some ⟨b, o + 3, none⟩)) := B3 (i := 3) A0W rfl ⟨_, _, _, _, F6⟩ b o
@[simp] theorem C3k (b o : Nat) (K : Value → WP) : A0 PR (Instr.fieldAt 47 (.pointer (some ⟨b, o, none⟩)) 4) K = K (.pointer (some ⟨b, o + 4, none⟩)) := B3 (i := 4) A0W rfl ⟨_, _, _, _, F6⟩ b o
@[simp] theorem C38 (b o : Nat) (K : Value → WP) : A0 PR (Instr.fieldAt 47 (.pointer (some ⟨b, o, none⟩)) 5) K = K (.pointer (some ⟨b, o + 5, none⟩)) := B3 (i := 5) A0W rfl ⟨_, _, _, _, F6⟩ b o
@[simp] theorem C3v (b o : Nat) (K : Value → WP) : A0 PR (Instr.fieldAt 47 (.pointer (some ⟨b, o, none⟩)) 6) K = K (.pointer (some ⟨b, o + 6, none⟩)) := B3 (i := 6) A0W rfl ⟨_, _, _, _, A4N⟩ b o
@[simp] theorem C4B (b o : Nat) (K : Value → WP) : A0 PR (Instr.fieldAt 52 (.pointer (some ⟨b, o, none⟩)) 0) K = K (.pointer (some ⟨b, o, none⟩)) := B3 (i := 0) A4H rfl ⟨_, _, _, _, F6⟩ b o
@[simp] theorem C4M (b o : Nat) (K : Value → WP) : A0 PR (Instr.fieldAt 52 (.pointer (some ⟨b, o, none⟩)) 1) K = K (.pointer (some ⟨b, o + 1, none⟩)) := B3 (i := 1) A4H rfl ⟨_, _, _, _, ty9⟩ b o
@[simp] theorem C3V (b o : Nat) (K : Value → WP) : A0 PR (Instr.fieldAt 52 (.pointer (some ⟨b, o, none⟩)) 2) K = K (.pointer (some ⟨b, o + 2, none⟩)) := B3 (i := 2) A4H rfl ⟨_, _, _, _, A7e⟩ b o
@[simp] theorem C4U (b o : Nat) (K : Value → WP) : A0 PR (Instr.fieldAt 52 (.pointer (some ⟨b, o, none⟩)) 3) K = K (.pointer (some ⟨b, o + 3, none⟩)) := B3 (i := 3) A4H rfl ⟨_, _, _, _, F6⟩ b o
@[simp] theorem C3Z (b o : Nat) (K : Value → WP) : A0 PR (Instr.fieldAt 78 (.pointer (some ⟨b, o, none⟩)) 0) K = K (.pointer (some ⟨b, o, none⟩)) := B3 (i := 0) B5W rfl ⟨_, _, _, _, A28⟩ b o
@[simp] theorem C3x (b o : Nat) (K : Value → WP) : A0 PR (Instr.fieldAt 78 (.pointer (some ⟨b, o, none⟩)) 1) K = K (.pointer (some ⟨b, o + 5, none⟩)) := B3 (i := 1) B5W rfl ⟨_, _, _, _, A7e⟩ b o
theorem B1l : TI PR 76 Tryz.t76.desc 1 24 (.slice none 0 0) := ⟨Tryz.underlying76, Tryz.t76, by kernel_rfl, rfl, rfl, rfl⟩
@[simp] theorem C3m (b o : Nat) (K : Value → WP) : A0 PR (Instr.fieldAt 78 (.pointer (some ⟨b, o, none⟩)) 2) K = K (.pointer (some ⟨b, o + 6, none⟩)) := B3 (i := 2) B5W rfl ⟨_, _, _, _, B1l⟩ b o
theorem C0d : TI PR 82 Tryz.t81.desc 1 24 (.agg #[(.slice none 0 0)]) := ⟨Tryz.underlying82, Tryz.t82, by kernel_rfl, rfl, rfl, rfl⟩
@[simp] theorem C3q (b o : Nat) (K : Value → WP) : A0 PR (Instr.fieldAt 82 (.pointer (some ⟨b, o, none⟩)) 0) K = K (.pointer (some ⟨b, o, none⟩)) := B3 (i := 0) C0d rfl ⟨_, _, _, _, A99⟩ b o
theorem B5F : TI PR 84 Tryz.t83.desc 2 32 (.agg #[(.slice none 0 0), (.int .i64 0)]) := ⟨Tryz.underlying84, Tryz.t84, by kernel_rfl, rfl, rfl, rfl⟩
@[simp] theorem C3d (b o : Nat) (K : Value → WP) : A0 PR (Instr.fieldAt 84 (.pointer (some ⟨b, o, none⟩)) 0) K = K (.pointer (some ⟨b, o, none⟩)) := B3 (i := 0) B5F rfl ⟨_, _, _, _, C0d⟩ b o
@[simp] theorem C3p (b o : Nat) (K : Value → WP) : A0 PR (Instr.fieldAt 84 (.pointer (some ⟨b, o, none⟩)) 1) K = K (.pointer (some ⟨b, o + 1, none⟩)) := B3 (i := 1) B5F rfl ⟨_, _, _, _, F6⟩ b o
theorem V4 {k1 : IntKind} {i : Int} {s : ByteArray} {b : UInt8} (h0 : 0 ≤ i) (h1 : s[i.toNat]? = some b) (K : Value → WP) : A0 PR (Instr.index 9 (.string s) (.int k1 i)) K = K (.int .u8 b.toNat) := B8V ty9 h0 h1
theorem B5U : TI PR 105 Tryz.t105.desc 1 8 .nilFunc := ⟨Tryz.underlying105, Tryz.t105, by kernel_rfl, rfl, rfl, rfl⟩
@[simp] theorem C5S {k : IntKind} {i : Int} (h0 : 0 ≤ i) (h1 : i < (4 : Nat)) (b o : Nat) (K : Value → WP) : A0 PR (Instr.indexAt 106 (.pointer (some ⟨b, o, none⟩)) (.int k i)) K = K (.pointer (some ⟨b, o + i.toNat, none⟩)) := (by simpa using A80 (K := K) B4r B5U h0 h1 b o)
@[simp] theorem C4Y {k : IntKind} {i : Int} {len cap : Nat} (h0 : 0 ≤ i) (h1 : i < len) (b o : Nat) (K : Value → WP) : A0 PR (Instr.indexAt 160 (.slice (some ⟨b, o, none⟩) len cap) (.int k i)) K = K (.pointer (some ⟨b, o + i.toNat, none⟩)) := (by simpa using H7 (K := K) A6W ty5 h0 h1 b o)
@[simp] theorem C4a {k : IntKind} {i : Int} (h0 : 0 ≤ i) (h1 : i < (2 : Nat)) (b o : Nat) (K : Value → WP) : A0 PR (Instr.indexAt 164 (.pointer (some ⟨b, o, none⟩)) (.int k i)) K = K (.pointer (some ⟨b, o + i.toNat, none⟩)) := (by simpa using A80 (K := K) A8p F6 h0 h1 b o)
@[simp] theorem C4r {k : IntKind} {i : Int} {len cap : Nat} (h0 : 0 ≤ i) (h1 : i < len) (b o : Nat) (K : Value → WP) : A0 PR (Instr.indexAt 205 (.slice (some ⟨b, o, none⟩) len cap) (.int k i)) K = K (.pointer (some ⟨b, o + i.toNat * 4, none⟩)) := (H7 (K := K) B4x A0d h0 h1 b o)
@[simp] theorem C4v {k : IntKind} {i : Int} {len cap : Nat} (h0 : 0 ≤ i) (h1 : i < len) (b o : Nat) (K : Value → WP) : A0 PR (Instr.indexAt 207 (.slice (some ⟨b, o, none⟩) len cap) (.int k i)) K = K (.pointer (some ⟨b, o + i.toNat * 2, none⟩)) := (H7 (K := K) B4Y A8p h0 h1 b o)
@[simp] theorem C4k {k : IntKind} {i : Int} {len cap : Nat} (h0 : 0 ≤ i) (h1 : i < len) (b o : Nat) (K : Value → WP) : A0 PR (Instr.indexAt 221 (.slice (some ⟨b, o, none⟩) len cap) (.int k i)) K = K (.pointer (some ⟨b, o + i.toNat, none⟩)) := (by simpa using H7 (K := K) B8w ty9 h0 h1 b o)
theorem B5e : TI PR 237 Tryz.t147.desc 1 24 (.slice none 0 0) := ⟨Tryz.underlying237, Tryz.t237, by kernel_rfl, rfl, rfl, rfl⟩
@[simp] theorem C5F {k : IntKind} {i : Int} {len cap : Nat} (h0 : 0 ≤ i) (h1 : i < len) (b o : Nat) (K : Value → WP) : A0 PR (Instr.indexAt 237 (.slice (some ⟨b, o, none⟩) len cap) (.int k i)) K = K (.pointer (some ⟨b, o + i.toNat * 2, none⟩)) := (H7 (K := K) B5e B1U h0 h1 b o)
@[simp] theorem C5B {k : IntKind} {i : Int} {len cap : Nat} (h0 : 0 ≤ i) (h1 : i < len) (b o : Nat) (K : Value → WP) : A0 PR (Instr.indexAt 239 (.slice (some ⟨b, o, none⟩) len cap) (.int k i)) K = K (.pointer (some ⟨b, o + i.toNat * 2, none⟩)) := (H7 (K := K) B1W A4U h0 h1 b o)
@[simp] theorem C5n {k : IntKind} {i : Int} {len cap : Nat} (h0 : 0 ≤ i) (h1 : i < len) (b o : Nat) (K : Value → WP) : A0 PR (Instr.indexAt 24 (.slice (some ⟨b, o, none⟩) len cap) (.int k i)) K = K (.pointer (some ⟨b, o + i.toNat, none⟩)) := (by simpa using H7 (K := K) B2C A9l h0 h1 b o)
@[simp] theorem C5K {k : IntKind} {i : Int} {len cap : Nat} (h0 : 0 ≤ i) (h1 : i < len) (b o : Nat) (K : Value → WP) : A0 PR (Instr.indexAt 251 (.slice (some ⟨b, o, none⟩) len cap) (.int k i)) K = K (.pointer (some ⟨b, o + i.toNat * 2, none⟩)) := (H7 (K := K) B5H A6e h0 h1 b o)
theorem C09 : TI PR 28 Tryz.t28.desc 1 24 (.slice none 0 0) := ⟨Tryz.underlying28, Tryz.t28, by kernel_rfl, rfl, rfl, rfl⟩
@[simp] theorem C5V {k : IntKind} {i : Int} {len cap : Nat} (h0 : 0 ≤ i) (h1 : i < len) (b o : Nat) (K : Value → WP) : A0 PR (Instr.indexAt 28 (.slice (some ⟨b, o, none⟩) len cap) (.int k i)) K = K (.pointer (some ⟨b, o + i.toNat * 10, none⟩)) := (H7 (K := K) C09 B7l h0 h1 b o)
@[simp] theorem C5k {k : IntKind} {i : Int} {len cap : Nat} (h0 : 0 ≤ i) (h1 : i < len) (b o : Nat) (K : Value → WP) : A0 PR (Instr.indexAt 32 (.slice (some ⟨b, o, none⟩) len cap) (.int k i)) K = K (.pointer (some ⟨b, o + i.toNat * 10, none⟩)) := (H7 (K := K) B4c A0W h0 h1 b o)
@[simp] theorem C5g {k : IntKind} {i : Int} {len cap : Nat} (h0 : 0 ≤ i) (h1 : i < len) (b o : Nat) (K : Value → WP) : A0 PR (Instr.indexAt 35 (.slice (some ⟨b, o, none⟩) len cap) (.int k i)) K = K (.pointer (some ⟨b, o + i.toNat, none⟩)) := (by simpa using H7 (K := K) B5D F6 h0 h1 b o)
@[simp] theorem C5q {k : IntKind} {i : Int} {len cap : Nat} (h0 : 0 ≤ i) (h1 : i < len) (b o : Nat) (K : Value → WP) : A0 PR (Instr.indexAt 50 (.slice (some ⟨b, o, none⟩) len cap) (.int k i)) K = K (.pointer (some ⟨b, o + i.toNat * 2, none⟩)) := (H7 (K := K) A7e A6S h0 h1 b o)
@[simp] theorem C5c {k : IntKind} {i : Int} {len cap : Nat} (h0 : 0 ≤ i) (h1 : i < len) (b o : Nat) (K : Value → WP) : A0 PR (Instr.indexAt 53 (.slice (some ⟨b, o, none⟩) len cap) (.int k i)) K = K (.pointer (some ⟨b, o + i.toNat * 4, none⟩)) := (H7 (K := K) A9l A4H h0 h1 b o)
@[simp] theorem C5a {k : IntKind} {i : Int} {len cap : Nat} (h0 : 0 ≤ i) (h1 : i < len) (b o : Nat) (K : Value → WP) : A0 PR (Instr.indexAt 76 (.slice (some ⟨b, o, none⟩) len cap) (.int k i)) K = K (.pointer (some ⟨b, o + i.toNat * 2, none⟩)) := (H7 (K := K) B1l B5F h0 h1 b o)
@[simp] theorem C5b {k : IntKind} {i : Int} {len cap : Nat} (h0 : 0 ≤ i) (h1 : i < len) (b o : Nat) (K : Value → WP) : A0 PR (Instr.indexAt 79 (.slice (some ⟨b, o, none⟩) len cap) (.int k i)) K = K (.pointer (some ⟨b, o + i.toNat * 4, none⟩)) := (H7 (K := K) A99 A0d h0 h1 b o)
@[simp] theorem C3r (a : Option Addr) (n c : Nat) (K : Value → WP) : A0 PR (A8 .len #[205] 0 [.slice a n c]) K = K (.int .i64 n) := g8 B4x a n c
@[simp] theorem C4D (a : Option Addr) (n c : Nat) (K : Value → WP) : A0 PR (A8 .len #[207] 0 [.slice a n c]) K = K (.int .i64 n) := g8 B4Y a n c
@[simp] theorem C4E (a : Option Addr) (n c : Nat) (K : Value → WP) : A0 PR (A8 .len #[237] 0 [.slice a n c]) K = K (.int .i64 n) := g8 B5e a n c
@[simp] theorem C3Y (a : Option Addr) (n c : Nat) (K : Value → WP) : A0 PR (A8 .len #[239] 0 [.slice a n c]) K = K (.int .i64 n) := g8 B1W a n c
@[simp] theorem C42 (a : Option Addr) (n c : Nat) (K : Value → WP) : A0 PR (A8 .len #[24] 0 [.slice a n c]) K = K (.int .i64 n) := g8 B2C a n c
@[simp] theorem C4e (a : Option Addr) (n c : Nat) (K : Value → WP) : A0 PR (A8 .len #[25] 0 [.slice a n c]) K = K (.int .i64 n) := g8 B8G a n c
@[simp] theorem C3U (a : Option Addr) (n c : Nat) (K : Value → WP) : A0 PR (A8 .len #[251] 0 [.slice a n c]) K = K (.int .i64 n) := g8 B5H a n c
@[simp] theorem C4Z (a : Option Addr) (n c : Nat) (K : Value → WP) : A0 PR (A8 .len #[28] 0 [.slice a n c]) K = K (.int .i64 n) := g8 C09 a n c
@[simp] theorem C41 (a : Option Addr) (n c : Nat) (K : Value → WP) : A0 PR (A8 .len #[32] 0 [.slice a n c]) K = K (.int .i64 n) := g8 B4c a n c
@[simp] theorem C5H (a : Option Addr) (n c : Nat) (K : Value → WP) : A0 PR (A8 .len #[35] 0 [.slice a n c]) K = K (.int .i64 n) := g8 B5D a n c
@[simp] theorem C4w (a : Option Addr) (n c : Nat) (K : Value → WP) : A0 PR (A8 .len #[50] 0 [.slice a n c]) K = K (.int .i64 n) := g8 A7e a n c
@[simp] theorem C5L (a : Option Addr) (n c : Nat) (K : Value → WP) : A0 PR (A8 .len #[53] 0 [.slice a n c]) K = K (.int .i64 n) := g8 A9l a n c
@[simp] theorem C5A (a : Option Addr) (n c : Nat) (K : Value → WP) : A0 PR (A8 .len #[76] 0 [.slice a n c]) K = K (.int .i64 n) := g8 B1l a n c
@[simp] theorem C4x (a : Option Addr) (n c : Nat) (K : Value → WP) : A0 PR (A8 .len #[79] 0 [.slice a n c]) K = K (.int .i64 n) := g8 A99 a n c
@[simp] theorem C5e (s : ByteArray) (K : Value → WP) : A0 PR (A8 .len #[9] 0 [.string s]) K = K (.int .i64 s.size) := C0L ty9 s
@[simp] theorem C49 (a : Addr) (K : Value → WP) (w : World) : A6 PR (Instr.loadAt 122 (.pointer (some a))) K w = rdc (w.cell? a) K (far PR 122 a K) w := B2j A2l rfl a
@[simp] theorem C5s (a : Addr) (K : Value → WP) (w : World) : A6 PR (Instr.loadAt 3 (.pointer (some a))) K w = rdc (w.cell? a) K (far PR 3 a K) w := B2j F6 rfl a
theorem C4g : TI PR 60 Tryz.t60.desc 1 8 (.pointer none) := ⟨Tryz.underlying60, Tryz.t60, by kernel_rfl, rfl, rfl, rfl⟩
@[simp] theorem C45 (v : Value) (K : Value → WP) : A0 PR (Instr.makeInterface 224 v) K = K (.iface 224 v) := B0D B88 (by intro ms h; cases h) v
@[simp] theorem C5P (v : Value) (K : Value → WP) : A0 PR (Instr.makeInterface 225 v) K = K (.iface 225 v) := B0D B85 (by intro ms h; cases h) v
@[simp] theorem C1u (b o : Nat) (K : Value → WP) : A0 PR (Instr.sliceAt 159 (.pointer (some ⟨b, o, none⟩)) none none none) K = K (.slice (some ⟨b, o, none⟩) 38 38) := B6E B4v ty5 b o
@[simp] theorem C5m {k1 : IntKind} {hi : Int} {s : ByteArray} (h0 : 0 ≤ hi) (h1 : hi ≤ s.size) (K : Value → WP) : A0 PR (Instr.sliceAt 9 (.string s) none (some (.int k1 hi)) none) K = K (.string (s.extract 0 hi.toNat)) := B6Y ty9 h0 h1
@[simp] theorem C5Z {k1 : IntKind} {lo : Int} {s : ByteArray} (h0 : 0 ≤ lo) (h1 : lo ≤ s.size) (K : Value → WP) : A0 PR (Instr.sliceAt 9 (.string s) (some (.int k1 lo)) none none) K = K (.string (s.extract lo.toNat s.size)) := B64 ty9 h0 h1
@[simp] theorem C54 {k1 k2 : IntKind} {lo hi : Int} {s : ByteArray} (h0 : 0 ≤ lo) (h1 : lo ≤ hi) (h2 : hi ≤ s.size) (K : Value → WP) : A0 PR (Instr.sliceAt 9 (.string s) (some (.int k1 lo)) (some (.int k2 hi)) none) K = K (.string (s.extract lo.toNat hi.toNat)) := B8l ty9 h0 h1 h2
theorem B4S : TI PR 59 Tryz.t59.desc 1 8 (.map none) := ⟨Tryz.underlying59, Tryz.t59, by kernel_rfl, rfl, rfl, rfl⟩
theorem B1S : TI PR 192 Tryz.t191.desc 1 16 .nilIface := ⟨Tryz.underlying192, Tryz.t192, by kernel_rfl, rfl, rfl, rfl⟩
theorem B1V : TI PR 193 Tryz.t193.desc 1 8 (.map none) := ⟨Tryz.underlying193, Tryz.t193, by kernel_rfl, rfl, rfl, rfl⟩
end Go.Proofs.YtlplkjgcfjdinaaGreat
namespace Go.Proofs.YtlplkjgcfjdinaaGreat
open Go
@[simp] theorem B54 (a b : ByteArray) : (a == b) = decide (a = b) := by
 obtain ⟨x⟩ := a; obtain ⟨y⟩ := b
 have h : ((⟨x⟩ : ByteArray) == ⟨y⟩) = (x == y) := rfl
 rw [h]
 by_cases e : x = y
 ·subst e; simp
 ·simp [e]
@[simp] theorem C1w (a : Array UInt8) : (ByteArray.mk a).size = a.size := rfl
theorem B1q (ns : List Int) : (A1m ns).data.toList = ns.map fun n => UInt8.ofNat n.toNat := by
 have : ∀ (l : List Int) (r : ByteArray), (l.foldl (fun r n => r.push (UInt8.ofNat n.toNat)) r).data.toList = r.data.toList ++ l.map fun n => UInt8.ofNat n.toNat := by
  intro l
  induction l with
  | nil => intro r; simp
  | cons x l ih => intro r; rw [List.foldl_cons, ih]; simp [ByteArray.push]
 have h := this ns ByteArray.empty
 rw [show ByteArray.empty.data.toList = [] from rfl, List.nil_append] at h
 exact h
@[simp] theorem C1P (ns : List Int) : (A1m ns).size = ns.length := by
 have := congrArg List.length (B1q ns)
 rw [List.length_map] at this
 exact this
class TS (t : TypeId) (z : outParam Value) : Prop where
 ti : ∃ d m, TI PR t d 1 m z ∧ M6 d = false
class TG (t : TypeId) (n : outParam Nat) (z : outParam Value) : Prop where
 ti : ∃ d m, TI PR t d n m z ∧ M6 d = true
class TA (t : TypeId) (n : outParam Nat) (z : outParam Value) : Prop where
 ti : ∃ d m, TI PR t d n m z
class SL (t : TypeId) (e : outParam TypeId) (k by' : outParam Nat) (z : outParam Value) : Prop where
 ti : (∃ n m z', TI PR t (.slice e) n m z') ∧ (∃ d, TI PR e d k by' z) ∧ z.cells.size = k
instance TS.ta {t : TypeId} {z : Value} [h : TS t z] : TA t 1 z := ⟨let ⟨d, m, h, _⟩ := h.ti; ⟨d, m, h⟩⟩
instance TG.ta {t : TypeId} {n : Nat} {z : Value} [h : TG t n z] : TA t n z := ⟨let ⟨d, m, h, _⟩ := h.ti; ⟨d, m, h⟩⟩
def rdq (x : Option (List Value)) (G : List Value → WP) (F : WP) : WP := match x with | some l => G l | none => F
@[simp] theorem A7M (l : List Value) (G : List Value → WP) (F : WP) : rdq (some l) G F = G l := id rfl
@[congr] theorem C3S {x x' : Option (List Value)} {G : List Value → WP} {F : WP} (h : x = x') {q : Nat} (hq : T5 = q) : rdq x G F = rdq x' G F := by rw [h]
@[simp] theorem C46 (xs : List Value) : P1 xs 0 0 = some [] := by simp [P1]
@[simp] theorem C2H (x : Value) (xs : List Value) (n : Nat) : P1 (x :: xs) 0 (n + 1) = (P1 xs 0 n).map (x :: ·) := by
 simp only [P1, Nat.zero_add, List.length_cons, List.drop_zero, List.take_succ_cons]
 by_cases h : n ≤ xs.length
 ·rw [if_pos h, if_pos (by omega)]; rfl
 ·rw [if_neg h, if_neg (by omega)]; rfl
@[simp] theorem C2l (x : Value) (xs : List Value) (o n : Nat) : P1 (x :: xs) (o + 1) n = P1 xs o n := by
 simp only [P1, List.length_cons, List.drop_succ_cons]
 by_cases h : o + n ≤ xs.length
 ·rw [if_pos h, if_pos (by omega)]
 ·rw [if_neg h, if_neg (by omega)]
theorem A50 {α : Type} {l : List α} {f : α → List Value} {k i : Nat} {x : α} (hk : ∀ x, (f x).length = k) (hx : l[i]? = some x) : P1 (l.flatMap f) (i * k) k = some (f x) := by
 obtain ⟨hlt, hx'⟩ := List.getElem?_eq_some_iff.1 hx
 have h1 : (i + 1) * k ≤ l.length * k := Nat.mul_le_mul_right k hlt
 rw [Nat.add_mul] at h1
 rw [P1, if_pos (by rw [H3 hk]; omega), A5W hk, List.drop_eq_getElem_cons hlt, List.flatMap_cons, hx']
 rw [List.take_left' (hk x)]
inductive Sel (r : Res) : List Res → List Res → Prop where
 | here {H : List Res} : Sel r (r :: H) H
 | there {x : Res} {H H' : List Res} : Sel r H H' → Sel r (x :: H) (x :: H')
theorem Sel.perm {r : Res} {H Hr : List Res} (h : Sel r H Hr) : H.Perm (r :: Hr) := by
 induction h with
 | here => exact .refl _
 | there _ ih => exact (ih.cons _).trans (.swap ..)
theorem Sel.sub {r : Res} {H Hr : List Res} (h : Sel r H Hr) : Hr.Sublist H := by
 induction h with
 | here => exact List.sublist_cons_self ..
 | there _ ih => exact ih.cons_cons _
theorem A1 {r : Res} {H : List Res} : r ∈ r :: H := List.mem_cons_self ..
theorem uH {r r' : Res} {H : List Res} : Up r r' (r :: H) (r' :: H) := Up.here
theorem uT {r r' x : Res} {H H' : List Res} (h : Up r r' H H') : Up r r' (x :: H) (x :: H') := Up.there h
theorem A2 {r x : Res} {H : List Res} (h : r ∈ H) : r ∈ x :: H := List.mem_cons_of_mem _ h
inductive Sels : List Res → List Res → Prop where
 | nil {H : List Res} : Sels [] H
 | cons {r : Res} {rs H Hr : List Res} : Sel r H Hr → Sels rs Hr → Sels (r :: rs) H
theorem Sels.sub {rs H : List Res} (h : Sels rs H) : ∃ H', H.Perm H' ∧ rs.Sublist H' := by
 induction h with
 | nil => exact ⟨_, .refl _, List.nil_sublist _⟩
 | cons h1 _ ih => obtain ⟨H', h2, h3⟩ := ih; exact ⟨_ :: H', h1.perm.trans (h2.cons _), h3.cons_cons _⟩
theorem Sels.lw {κ : Bool} {S : List Nat} {w0 w : World} {rs H : List Res} (h : Sels rs H) (hw : LW κ S w0 H w) : LW κ S w0 rs w := let ⟨_, h1, h2⟩ := h.sub; (hw.perm h1).sub h2
theorem Sels.tw {κ : Bool} {S : List Nat} {w0 : World} {rs H : List Res} {K : WP} (h : Sels rs H) (hk : TW κ S w0 rs K) : TW κ S w0 H K := fun w hw => hk w (h.lw hw)
inductive Part : List Res → List Res → List Res → Prop where
 | nil {H : List Res} : Part [] H H
 | cons {r : Res} {rs H H1 Hk : List Res} : Sel r H H1 → Part rs H1 Hk → Part (r :: rs) H Hk
theorem Part.perm {Hc H Hk : List Res} (h : Part Hc H Hk) : H.Perm (Hc ++ Hk) := by
 induction h with
 | nil => exact .refl _
 | cons h1 _ ih => exact h1.perm.trans (ih.cons _)
theorem E5 {κ : Bool} {X : Nat → Prop} {S : List Nat} {w0 : World} {H Hk Hc : List Res} {K : Value → WP} {f : FuncId} {args : List Value} {α : Type} {φ : α → Value → Prop} {Hn : α → List Res} (he : B0 PR f)
  (hf : ∀ w, LW κ S w0 (Hc ++ Hk) w → LW false (B2 Hc) w Hc w → Fn PR B5 f args.toArray w (Rn (B2 Hc) w φ Hn)) (hp : Part Hc H Hk) (hK : ∀ a v, φ a v → TW κ S w0 (Hn a ++ Hk) (K v)) : TW κ S w0 H (B7 PR X f args K) :=
 B5q he hp.perm (fun w hw => let h := hw.perm hp.perm; hf w h (h.sub (List.sublist_append_left _ _)).self) hK
theorem C3 {κ : Bool} {S : List Nat} {w0 : World} {H : List Res} {α : Type} {φ : α → Value → Prop} {Hn : α → List Res} {v : Value} (a : α) (h : φ a v) (hs : Sels (Hn a) H) : TW κ S w0 H (Rn S w0 φ Hn v) := fun w hw => ⟨a, h, hs.lw hw.low⟩
theorem C2n {κ : Bool} {S : List Nat} {w0 : World} {H : List Res} {F : Value → WP} {A : (Value → WP) → WP} {α : Type} (φ : α → Prop) (Hh : α → List Res) (v1 : α → Value) (hF : ∀ x, φ x → TW κ S w0 (Hh x) (F (v1 x)))
  (hA : ∀ J : Value → WP, (∀ x, φ x → TW κ S w0 (Hh x) (J (v1 x))) → TW κ S w0 H (A J)) : TW κ S w0 H (kt (n := 1) F A) := hA F hF
theorem B4j {κ : Bool} {S : List Nat} {w0 : World} {H : List Res} {F : Value → Value → WP} {A : (Value → Value → WP) → WP} {α : Type} (φ : α → Prop) (Hh : α → List Res) (v1 v2 : α → Value) (hF : ∀ x, φ x → TW κ S w0 (Hh x) (F (v1 x) (v2 x)))
  (hA : ∀ J : Value → Value → WP, (∀ x, φ x → TW κ S w0 (Hh x) (J (v1 x) (v2 x))) → TW κ S w0 H (A J)) : TW κ S w0 H (kt (n := 2) F A) := hA F hF
theorem E4.form {w : World} {v : Value} {n : Nat} {xs : List Value} (h : E4 w v n xs) : ∃ a c, v = .slice a n c ∧ (0 < n → ∃ b o, a = some ⟨b, o, none⟩ ∧ H4 w b o xs) := by
 rcases h with ⟨rfl, rfl, a, c, rfl⟩ | ⟨b, o, c, rfl, hr⟩
 ·exact ⟨a, c, rfl, fun h => absurd h (by omega)⟩
 ·exact ⟨_, c, rfl, fun _ => ⟨b, o, rfl, hr⟩⟩
theorem H4.at {w : World} {b o k : Nat} {α : Type} {l : List α} {f : α → List Value} (h : H4 w b o (l.flatMap f)) (hk : ∀ x, (f x).length = k) {i : Nat} {x : α} (hx : l[i]? = some x) : W2 w b (o + i * k) k = some (f x) := by
 have h1 : H4 w b (o + i * k) (f x) := fun j hj => by
  rw [hk] at hj
  have h2 := Q9 hk l i j hj
  rw [hx] at h2
  have h3 : (l.flatMap f)[i * k + j]? = some ((f x)[j]'(by rw [hk]; exact hj)) := by rw [h2]; simp [List.getElem?_eq_getElem, hk, hj]
  rw [Nat.add_assoc, h.get h3]; simp [List.getElem?_eq_getElem, hk, hj]
 have := A3w h1
 rwa [hk] at this
theorem H4.cellAt {w : World} {b o k : Nat} {α : Type} {l : List α} {f : α → List Value} (h : H4 w b o (l.flatMap f)) (hk : ∀ x, (f x).length = k) {i j : Nat} {x : α} {u : Value} (hx : l[i]? = some x) (hu : (f x)[j]? = some u) : w.cell? ⟨b, o + i * k + j, none⟩ = some u := by
 have hj : j < k := by rw [← hk x]; exact (List.getElem?_eq_some_iff.1 hu).1
 have h2 := Q9 hk l i j hj
 rw [hx] at h2
 rw [Nat.add_assoc]
 exact h.get (by rw [h2]; exact hu)
theorem H4.one {w : World} {b o : Nat} {α : Type} {l : List α} {f : α → Value} (h : H4 w b o (l.map f)) {i : Nat} {x : α} (hx : l[i]? = some x) : w.cell? ⟨b, o + i, none⟩ = some (f x) := h.get (by simp [hx])
section
variable {κ : Bool} {X : Nat → Prop} {S : List Nat} {w0 : World} {H H' Hr : List Res} {K : Value → WP} {K0 : WP} {t e : TypeId} {n k by' : Nat} {z : Value}
theorem C2A {s : Sem Value} {v : Value} (h : ∀ w, LW κ S w0 H w → A6 PR s K w = K v w) : TW κ S w0 H (A6 PR s K) = TW κ S w0 H (K v) := TW.congr h
theorem r7 {v : Value} {q : Nat} {xs : List Value} (hm : Res.own e k v q xs ∈ H) (hq : 0 < q) (h : ∀ g c, v = .slice (some ⟨g, 0, none⟩) q c → TW κ S w0 H K0) : TW κ S w0 H K0 := fun w hw => by
 rcases (hw.hold _ hm).2 with ⟨_, rfl⟩ | ⟨g, c, _, rfl, _⟩
 ·omega
 ·exact h g c rfl w hw
@[simp] theorem C5U [h : TS t z] {b o : Nat} {c : Array Value} {T : TypeId} {f : Nat × Nat} (hm : Res.pt b (.cells c T f) ∈ H) :
  TW κ S w0 H (A6 PR (Instr.loadAt t (.pointer (some ⟨b, o, none⟩))) K) = TW κ S w0 H (rdc c[o]? K (far PR t ⟨b, o, none⟩ K)) := let ⟨_, _, h, hd⟩ := h.ti; B9y h hd hm
@[simp] theorem C5D [h : TS t z] {g o : Nat} {k q c : Nat} {xs : List Value} (hm : Res.own e k (.slice (some ⟨g, 0, none⟩) q c) q xs ∈ H) :
  TW κ S w0 H (A6 PR (Instr.loadAt t (.pointer (some ⟨g, o, none⟩))) K) = TW κ S w0 H (rdc xs[o]? K (A6 PR (Instr.loadAt t (.pointer (some ⟨g, o, none⟩))) K)) := by
 cases hv : xs[o]? with
 | none => rfl
 | some v => exact let ⟨_, _, h, hd⟩ := h.ti; B8U h hd hm hv
@[simp] theorem C44 [h : TS t z] {b o : Nat} {v : Value} (hc : w0.cell? ⟨b, o, none⟩ = some v) (hS : b ∉ S) :
  TW κ S w0 H (A6 PR (Instr.loadAt t (.pointer (some ⟨b, o, none⟩))) K) = TW κ S w0 H (K v) := let ⟨_, _, h, hd⟩ := h.ti; B7b h hd hc hS
@[simp] theorem C4b [h : TG t n z] {b o : Nat} {c : Array Value} {T : TypeId} {f : Nat × Nat} (hm : Res.pt b (.cells c T f) ∈ H) :
  TW κ S w0 H (A6 PR (Instr.loadAt t (.pointer (some ⟨b, o, none⟩))) K) = TW κ S w0 H (rdq (P1 c.toList o n) (fun l => K (.agg l.toArray)) (A6 PR (Instr.loadAt t (.pointer (some ⟨b, o, none⟩))) K)) := by
 cases hl : P1 c.toList o n with
 | none => rfl
 | some l => exact let ⟨_, _, h, hd⟩ := h.ti; B8Y h hd hm hl
@[simp] theorem C4N [h : TG t n z] {g o : Nat} {k q c : Nat} {xs : List Value} (hm : Res.own e k (.slice (some ⟨g, 0, none⟩) q c) q xs ∈ H) :
  TW κ S w0 H (A6 PR (Instr.loadAt t (.pointer (some ⟨g, o, none⟩))) K) = TW κ S w0 H (rdq (P1 xs o n) (fun l => K (.agg l.toArray)) (A6 PR (Instr.loadAt t (.pointer (some ⟨g, o, none⟩))) K)) := by
 cases hl : P1 xs o n with
 | none => rfl
 | some l => exact let ⟨_, _, h, hd⟩ := h.ti; B69 h hd hm hl
@[simp] theorem C3Q [h : TG t n z] {b o : Nat} {l : List Value} (hc : W2 w0 b o n = some l) (hS : b ∉ S) :
  TW κ S w0 H (A6 PR (Instr.loadAt t (.pointer (some ⟨b, o, none⟩))) K) = TW κ S w0 H (K (.agg l.toArray)) := let ⟨_, _, h, hd⟩ := h.ti; B6T h hd hc hS
@[simp] theorem C1B [h : TS t z] {b o : Nat} {c : Array Value} {T : TypeId} {f : Nat × Nat} (hm : Res.pt b (.cells c T f) ∈ H) {v : Value} (hv : c[o]? = some v) :
  TW κ S w0 H (A6 PR (D2 [.c t (.pointer (some ⟨b, o, none⟩))]) K) = TW κ S w0 H (K v) := let ⟨_, _, h, hd⟩ := h.ti; C05 h hd hm hv
@[simp] theorem C5w [h : TG t n z] {b o : Nat} {c : Array Value} {T : TypeId} {f : Nat × Nat} (hm : Res.pt b (.cells c T f) ∈ H) :
  TW κ S w0 H (A6 PR (D2 [.c t (.pointer (some ⟨b, o, none⟩))]) K) = TW κ S w0 H (rdq (P1 c.toList o n) (fun l => K (.agg l.toArray)) (A6 PR (D2 [.c t (.pointer (some ⟨b, o, none⟩))]) K)) := by
 cases hl : P1 c.toList o n with
 | none => rfl
 | some l => exact let ⟨_, _, h, hd⟩ := h.ti; C0l h hd hm hl
@[simp] theorem C5j [h : TG t n z] {b o : Nat} {c : Array Value} {T : TypeId} {f : Nat × Nat} {x : Value} (hm : Res.pt b (.cells c T f) ∈ H) :
  TW κ S w0 H (A6 PR (D2 [.c t (.pointer (some ⟨b, o, none⟩)), .v x]) K) = TW κ S w0 H (rdq (P1 c.toList o n) (fun l => K (.tuple #[.agg l.toArray, x])) (A6 PR (D2 [.c t (.pointer (some ⟨b, o, none⟩)), .v x]) K)) := by
 cases hl : P1 c.toList o n with
 | none => rfl
 | some l =>
   obtain ⟨_, _, h, hd⟩ := h.ti
   refine TW.congr fun w hw => ?_
   rw [A7M]
   have hr := A0a hl (H4.bl (hw.pt hm)); have h2 := d7 hr
   refine Y7 ?_ K
   have := k9 h hd h2.1 h2.2
   simp only [Instr.loadAt, Instr.sureAddr, Sem.run_bind, Sem.run_pure, Result.andThen_ok] at this
   simp [D2, A1H, RV.sem, asAddr, this, one]
@[simp] theorem C5T [h : TG t n z] {b o : Nat} {c : Array Value} {T : TypeId} {f : Nat × Nat} {x y : Value} (hm : Res.pt b (.cells c T f) ∈ H) :
  TW κ S w0 H (A6 PR (D2 [.c t (.pointer (some ⟨b, o, none⟩)), .v x, .v y]) K) = TW κ S w0 H (rdq (P1 c.toList o n) (fun l => K (.tuple #[.agg l.toArray, x, y])) (A6 PR (D2 [.c t (.pointer (some ⟨b, o, none⟩)), .v x, .v y]) K)) := by
 cases hl : P1 c.toList o n with
 | none => rfl
 | some l =>
   obtain ⟨_, _, h, hd⟩ := h.ti
   refine TW.congr fun w hw => ?_
   rw [A7M]
   have hr := A0a hl (H4.bl (hw.pt hm)); have h2 := d7 hr
   refine Y7 ?_ K
   have := k9 h hd h2.1 h2.2
   simp only [Instr.loadAt, Instr.sureAddr, Sem.run_bind, Sem.run_pure, Result.andThen_ok] at this
   simp [D2, A1H, RV.sem, asAddr, this, one]
@[simp] theorem C2D [h : TS t z] {b o : Nat} {c : Array Value} {T : TypeId} {f : Nat × Nat} {v : Value} {l : List Rd} (hm : Res.pt b (.cells c T f) ∈ H) (hv : c[o]? = some v) :
  TW κ S w0 H (watch PR ((none, Instr.loadAt t (.pointer (some ⟨b, o, none⟩)), v) :: l) K0) = TW κ S w0 H (watch PR l K0) := let ⟨_, _, h, hd⟩ := h.ti; A3q fun w hw => l6 h hd (by rw [H0 (hw.pt hm)]; exact hv)
@[simp] theorem C1T [h : TS t z] {g o : Nat} {k q c : Nat} {xs : List Value} {v : Value} {l : List Rd} (hm : Res.own e k (.slice (some ⟨g, 0, none⟩) q c) q xs ∈ H) (hv : xs[o]? = some v) :
  TW κ S w0 H (watch PR ((none, Instr.loadAt t (.pointer (some ⟨g, o, none⟩)), v) :: l) K0) = TW κ S w0 H (watch PR l K0) := let ⟨_, _, h, hd⟩ := h.ti; A3q fun w hw => l6 h hd (by have := (hw.ownr hm).get hv; rwa [Nat.zero_add] at this)
@[simp] theorem C1Z [h : TS t z] {b o : Nat} {v : Value} {l : List Rd} (hc : w0.cell? ⟨b, o, none⟩ = some v) (hS : b ∉ S) :
  TW κ S w0 H (watch PR ((none, Instr.loadAt t (.pointer (some ⟨b, o, none⟩)), v) :: l) K0) = TW κ S w0 H (watch PR l K0) := let ⟨_, _, h, hd⟩ := h.ti; A3q fun w hw => l6 h hd (hw.ks.cell hS hc)
@[simp] theorem C6P [h : TA t n z] {v : Value} {b o : Nat} {c : Array Value} {T : TypeId} (hv : v.cells.size = n)
  (hu : Up (.pt b (.cells c T (0, 0))) (.pt b (.cells (D7 c o v.cells.toList) T (0, 0))) H H') (hs : o + n ≤ c.size) (hp : v.cells.toList.all plain = true) :
  TW κ S w0 H (B8 PR X (Instr.storeAt t (.pointer (some ⟨b, o, none⟩)) v) K0) = TW κ S w0 H' K0 := let ⟨_, _, h⟩ := h.ti; C43 h hv hu hs hp
theorem W6 [h : TA t n z] {v : Value} {g o q c : Nat} {xs : List Value} (hu : Up (.own e k (.slice (some ⟨g, 0, none⟩) q c) q xs) (.own e k (.slice (some ⟨g, 0, none⟩) q c) q (p6 xs o v.cells.toList)) H H')
  (hv : v.cells.size = n) (hs : o + n ≤ xs.length) (hp : v.cells.toList.all plain = true) (hK : TW κ S w0 H' K0) :
  TW κ S w0 H (B8 PR X (Instr.storeAt t (.pointer (some ⟨g, o, none⟩)) v) K0) := let ⟨_, _, h⟩ := h.ti; B7U h hv hu hs hp hK
theorem A4 [h : TA t n z] (hK : ∀ b, TW κ S w0 (.pt b (.cells z.cells t) :: H) (K (.pointer (some ⟨b, 0, none⟩)))) : TW κ S w0 H (B1 PR X (Instr.alloc t true (.tuple #[])) K) := let ⟨_, _, h⟩ := h.ti; C4j h hK
theorem B7K {k1 k2 : IntKind} {l : Int} [h : SL t e k by' z] (h0 : 0 ≤ l) (hb : l * by' ≤ 140737488355328) (hc : l ≤ 9223372036854775807) (hk : 0 < k)
  (hK : ∀ b, TW κ S w0 (.own e k (.slice (some ⟨b, 0, none⟩) l.toNat l.toNat) l.toNat (Builtin.zeroCells z.cells l.toNat).toList :: H) (K (.slice (some ⟨b, 0, none⟩) l.toNat l.toNat))) :
  TW κ S w0 H (B1 PR X (Instr.makeSlice t (.int k1 l) (.int k2 l)) K) := let ⟨⟨_, _, _, h1⟩, ⟨_, h2⟩, h3⟩ := h.ti; C48 h1 h2 h3 hk h0 rfl hb hc hK
theorem E1 [h : SL t e k by' z] (hK : ∀ b, TW κ S w0 (.own e k (.slice (some ⟨b, 0, none⟩) 0 0) 0 [] :: H) (K (.slice (some ⟨b, 0, none⟩) 0 0))) : TW κ S w0 H (B1 PR X (Instr.buildSlice t 0 #[]) K) :=
 let ⟨⟨_, _, _, h1⟩, ⟨_, h2⟩, h3⟩ := h.ti; C25 h1 h2 hK
theorem B8j {m n q : Nat} (hq : 0 < n) : ∀ (vs : List Value) (i : Nat) (cs : Array Value), (∀ v ∈ vs, v.cells.size = n) → (i + vs.length) * n ≤ cs.size →
  Instr.fill (fun i => some (i * n, n)) cs ((List.range' i vs.length).zip vs) = some (D7 cs (i * n) (vs.flatMap fun v => v.cells.toList)) := by
 intro vs
 induction vs with
 | nil => intro i cs _ _; simp [Instr.fill]
 | cons v vs ih =>
  intro i cs hv hs
  simp only [List.length_cons] at hs
  have hv0 : v.cells.size = n := hv v (by simp)
  have e1 : (i + (vs.length + 1)) * n = i * n + n + vs.length * n := by rw [Nat.add_mul, Nat.add_mul]; omega
  simp only [List.length_cons, List.range'_succ, List.zip_cons_cons]
  rw [B4 rfl hv0 (by omega), ih (i + 1) _ (fun u hu => hv u (by simp [hu])) (by rw [C0]; (have : (i + 1 + vs.length) * n = i * n + n + vs.length * n := by (rw [Nat.add_mul, Nat.add_mul]; omega)); omega)]
  have spl_spl : ∀ (l l' : List Value) (c : Array Value) (o : Nat), D7 (D7 c o l) (o + l.length) l' = D7 c o (l ++ l') := by
   intro l
   induction l with
   | nil => intro l' c o; simp
   | cons u l ih => intro l' c o; simp only [B1w, List.cons_append, List.length_cons]; rw [← ih]; congr 1; omega
  rw [List.flatMap_cons, ← spl_spl]
  congr 2
  have : v.cells.toList.length = n := by simp [hv0]
  rw [this, Nat.add_mul]; omega
theorem B15 {len : Nat} {parts : Array (Nat × Value)} (vs : List Value) [h : SL t e k by' z] (hk : 0 < k) (h0 : 0 < len) (hb : len * k ≤ 2 ^ 24) (hp : parts.toList = (List.range' 0 len).zip vs) (hl : vs.length = len) (hv : ∀ v ∈ vs, v.cells.size = k)
  (hK : ∀ b, TW κ S w0 (.own e k (.slice (some ⟨b, 0, none⟩) len len) len (vs.flatMap fun v => v.cells.toList) :: H) (K (.slice (some ⟨b, 0, none⟩) len len))) :
  TW κ S w0 H (B1 PR X (Instr.buildSlice t len parts) K) := by
 obtain ⟨⟨_, _, _, h1⟩, ⟨_, h2⟩, h3⟩ := h.ti
 have hlen : (vs.flatMap fun v => v.cells.toList).length = len * k := by
  rw [← hl]; clear hp hl hK hb h0
  induction vs with
  | nil => simp
  | cons v vs ih =>
   have := hv v (by simp)
   rw [List.flatMap_cons, List.length_append, ih fun u hu => hv u (by simp [hu])]
   simp only [Array.length_toList, List.length_cons, this]; rw [Nat.add_mul]; omega
 have hf := B8j (m := 0) (q := 0) hk vs 0 ((Array.range (len * k)).map (z.cells[· % z.cells.size]!)) hv (by simp [hl])
 rw [hl, ← hp] at hf
 have hz : D7 ((Array.range (len * k)).map (z.cells[· % z.cells.size]!)) (0 * k) (vs.flatMap fun v => v.cells.toList) = (vs.flatMap fun v => v.cells.toList).toArray := by
  apply Array.toList_inj.1
  rw [A1a _ _ _ (by simp [-List.length_flatMap, hlen])]
  simp only [Nat.zero_mul, List.take_zero, List.nil_append, hlen, Nat.zero_add]
  rw [List.drop_eq_nil_of_le (by simp)]; simp
 refine C4l h1 h2 hb (by have : 0 < len * k := Nat.mul_pos h0 hk; omega) (hf.trans (by rw [hz])) (by simp [-List.length_flatMap, hlen]) ?_
 simpa using hK
theorem E3 {v0 : Value} [h : SL t e k by' z] (hk : 0 < k := by decide) (hb : 1 * k ≤ 2 ^ 24 := by decide) (h0 : v0.cells.size = k := by simp) (hK : ∀ b, TW κ S w0 (.own e k (.slice (some ⟨b, 0, none⟩) 1 1) 1 (v0.cells.toList) :: H) (K (.slice (some ⟨b, 0, none⟩) 1 1))) :
  TW κ S w0 H (B1 PR X (Instr.buildSlice t 1 #[(0, v0)]) K) := B15 [v0] hk (by omega) hb rfl rfl (by intro v hv; simp only [List.mem_cons, List.not_mem_nil, or_false] at hv; subst hv; assumption) (by simpa using hK)
theorem D9 {v0 v1 : Value} [h : SL t e k by' z] (hk : 0 < k := by decide) (hb : 2 * k ≤ 2 ^ 24 := by decide) (h0 : v0.cells.size = k := by simp) (h1 : v1.cells.size = k := by simp) (hK : ∀ b, TW κ S w0 (.own e k (.slice (some ⟨b, 0, none⟩) 2 2) 2 (v0.cells.toList ++ v1.cells.toList) :: H) (K (.slice (some ⟨b, 0, none⟩) 2 2))) :
  TW κ S w0 H (B1 PR X (Instr.buildSlice t 2 #[(0, v0), (1, v1)]) K) := B15 [v0, v1] hk (by omega) hb rfl rfl (by intro v hv; simp only [List.mem_cons, List.not_mem_nil, or_false] at hv; rcases hv with rfl | rfl <;> assumption) (by simpa using hK)
theorem E2 {v0 v1 v2 : Value} [h : SL t e k by' z] (hk : 0 < k := by decide) (hb : 3 * k ≤ 2 ^ 24 := by decide) (h0 : v0.cells.size = k := by simp) (h1 : v1.cells.size = k := by simp) (h2 : v2.cells.size = k := by simp) (hK : ∀ b, TW κ S w0 (.own e k (.slice (some ⟨b, 0, none⟩) 3 3) 3 (v0.cells.toList ++ v1.cells.toList ++ v2.cells.toList) :: H) (K (.slice (some ⟨b, 0, none⟩) 3 3))) :
  TW κ S w0 H (B1 PR X (Instr.buildSlice t 3 #[(0, v0), (1, v1), (2, v2)]) K) := B15 [v0, v1, v2] hk (by omega) hb rfl rfl (by intro v hv; simp only [List.mem_cons, List.not_mem_nil, or_false] at hv; rcases hv with rfl | rfl | rfl <;> assumption) (by simpa using hK)
theorem D8 {v0 v1 v2 v3 v4 : Value} [h : SL t e k by' z] (hk : 0 < k := by decide) (hb : 5 * k ≤ 2 ^ 24 := by decide) (h0 : v0.cells.size = k := by simp) (h1 : v1.cells.size = k := by simp) (h2 : v2.cells.size = k := by simp) (h3 : v3.cells.size = k := by simp) (h4 : v4.cells.size = k := by simp) (hK : ∀ b, TW κ S w0 (.own e k (.slice (some ⟨b, 0, none⟩) 5 5) 5 (v0.cells.toList ++ v1.cells.toList ++ v2.cells.toList ++ v3.cells.toList ++ v4.cells.toList) :: H) (K (.slice (some ⟨b, 0, none⟩) 5 5))) :
  TW κ S w0 H (B1 PR X (Instr.buildSlice t 5 #[(0, v0), (1, v1), (2, v2), (3, v3), (4, v4)]) K) := B15 [v0, v1, v2, v3, v4] hk (by omega) hb rfl rfl (by intro v hv; simp only [List.mem_cons, List.not_mem_nil, or_false] at hv; rcases hv with rfl | rfl | rfl | rfl | rfl <;> assumption) (by simpa using hK)
theorem E0 {v0 v1 v2 v3 v4 v5 : Value} [h : SL t e k by' z] (hk : 0 < k := by decide) (hb : 6 * k ≤ 2 ^ 24 := by decide) (h0 : v0.cells.size = k := by simp) (h1 : v1.cells.size = k := by simp) (h2 : v2.cells.size = k := by simp) (h3 : v3.cells.size = k := by simp) (h4 : v4.cells.size = k := by simp) (h5 : v5.cells.size = k := by simp) (hK : ∀ b, TW κ S w0 (.own e k (.slice (some ⟨b, 0, none⟩) 6 6) 6 (v0.cells.toList ++ v1.cells.toList ++ v2.cells.toList ++ v3.cells.toList ++ v4.cells.toList ++ v5.cells.toList) :: H) (K (.slice (some ⟨b, 0, none⟩) 6 6))) :
  TW κ S w0 H (B1 PR X (Instr.buildSlice t 6 #[(0, v0), (1, v1), (2, v2), (3, v3), (4, v4), (5, v5)]) K) := B15 [v0, v1, v2, v3, v4, v5] hk (by omega) hb rfl rfl (by intro v hv; simp only [List.mem_cons, List.not_mem_nil, or_false] at hv; rcases hv with rfl | rfl | rfl | rfl | rfl | rfl <;> assumption) (by simpa using hK)
theorem S5.form {w : World} {e : TypeId} {k n : Nat} {v : Value} {xs : List Value} (h : S5 w e k v n xs) : ∃ a c, v = .slice a n c := by
 rcases h.2 with ⟨rfl, rfl⟩ | ⟨g, cap, cur, rfl, _⟩
 ·exact ⟨_, _, rfl⟩
 ·exact ⟨_, _, rfl⟩
theorem C1J {q : Nat} {xs : List Value} {A : Value → WP} (h : ∀ a c, TW κ S w0 (.own e k (.slice a q c) q xs :: H) (A (.slice a q c))) (v : Value) : TW κ S w0 (.own e k v q xs :: H) (A v) := fun w hw => by
 obtain ⟨a, c, rfl⟩ := S5.form (hw.hold _ A1)
 exact h a c w hw
theorem A1b {ty : TypeId} {v x : Value} {q r : Nat} {xs news : List Value} [h : SL t e k by' z] (hs : Sel (.own e k v q xs) H Hr) (hx : H2 κ S w0 H x r news) (hk : 0 < k) (hl : news.length = r * k) (hp : news.all plain = true)
  (h63 : q + r ≤ maxLen) (hby : (q + r) * by' ≤ 140737488355328) (hK : ∀ a c, TW κ S w0 (.own e k (.slice a (q + r) c) (q + r) (xs ++ news) :: Hr) (K (.slice a (q + r) c))) : TW κ S w0 H (B1 PR X (A8 .append #[t, t] ty [v, x]) K) := by
 obtain ⟨⟨_, _, _, h1⟩, ⟨_, h2⟩, h3⟩ := h.ti
 refine TW.perm ?_ hs.perm
 exact C2C (H'' := fun v' => .own e k v' (q + r) (xs ++ news) :: Hr) h1 h2 h3 hk (fun v' => .here) (fun w hw => hx w (hw.perm hs.perm.symm)) hl hp h63 hby (C1J hK)
end
end Go.Proofs.YtlplkjgcfjdinaaGreat
namespace Go.Proofs.YtlplkjgcfjdinaaGreat
open Go
instance : TS 3 (.int .i64 0) := ⟨_, _, F6, rfl⟩
instance : TS 5 (.int .u8 0) := ⟨_, _, ty5, rfl⟩
instance : TS 9 (.string (ByteArray.mk #[])) := ⟨_, _, ty9, rfl⟩
instance : TG 23 5 (.agg #[(.int .i64 0), (.int .i64 0), (.int .i64 0), (.int .i64 0), (.int .i64 0)]) := ⟨_, _, A28, rfl⟩
instance : TS 24 (.slice none 0 0) := ⟨_, _, B2C, rfl⟩
instance : SL 24 53 1 24 (.slice none 0 0) := ⟨⟨_, _, _, B2C⟩, ⟨_, A9l⟩, rfl⟩
instance : TS 25 (.slice none 0 0) := ⟨_, _, B8G, rfl⟩
instance : TG 27 7 (.agg #[(.int .i64 0), (.int .i64 0), (.int .i64 0), (.int .i64 0), (.int .i64 0), (.slice none 0 0), (.slice none 0 0)]) := ⟨_, _, A9w, rfl⟩
instance : TS 29 .nilFunc := ⟨_, _, C0T, rfl⟩
instance : TS 32 (.slice none 0 0) := ⟨_, _, B4c, rfl⟩
instance : SL 32 47 10 80 (.agg #[(.int .i64 0), (.int .i64 0), (.int .i64 0), (.int .i64 0), (.int .i64 0), (.int .i64 0), (.int .i64 0), (.int .i64 0), (.bool false), (.int .i64 0)]) := ⟨⟨_, _, _, B4c⟩, ⟨_, A0W⟩, rfl⟩
instance : SL 35 3 1 8 (.int .i64 0) := ⟨⟨_, _, _, B5D⟩, ⟨_, F6⟩, rfl⟩
instance : TS 42 (.int .i64 0) := ⟨_, _, B5L, rfl⟩
instance : TG 44 4 (.agg #[(.int .i64 0), (.int .i64 0), (.bool false), (.int .i64 0)]) := ⟨_, _, A4N, rfl⟩
instance : TG 46 10 (.agg #[(.int .i64 0), (.int .i64 0), (.int .i64 0), (.int .i64 0), (.int .i64 0), (.int .i64 0), (.int .i64 0), (.int .i64 0), (.bool false), (.int .i64 0)]) := ⟨_, _, B7l, rfl⟩
instance : TG 47 10 (.agg #[(.int .i64 0), (.int .i64 0), (.int .i64 0), (.int .i64 0), (.int .i64 0), (.int .i64 0), (.int .i64 0), (.int .i64 0), (.bool false), (.int .i64 0)]) := ⟨_, _, A0W, rfl⟩
instance : TS 50 (.slice none 0 0) := ⟨_, _, A7e, rfl⟩
instance : SL 50 129 2 16 (.agg #[(.int .i64 0), (.int .i64 0)]) := ⟨⟨_, _, _, A7e⟩, ⟨_, A6S⟩, rfl⟩
instance : TG 52 4 (.agg #[(.int .i64 0), (.string (ByteArray.mk #[])), (.slice none 0 0), (.int .i64 0)]) := ⟨_, _, A4H, rfl⟩
instance : TS 53 (.slice none 0 0) := ⟨_, _, A9l, rfl⟩
instance : SL 53 52 4 56 (.agg #[(.int .i64 0), (.string (ByteArray.mk #[])), (.slice none 0 0), (.int .i64 0)]) := ⟨⟨_, _, _, A9l⟩, ⟨_, A4H⟩, rfl⟩
instance : TS 57 .nilFunc := ⟨_, _, C4s, rfl⟩
instance : TS 60 (.pointer none) := ⟨_, _, C4g, rfl⟩
instance : TS 76 (.slice none 0 0) := ⟨_, _, B1l, rfl⟩
instance : SL 76 84 2 32 (.agg #[(.slice none 0 0), (.int .i64 0)]) := ⟨⟨_, _, _, B1l⟩, ⟨_, B5F⟩, rfl⟩
instance : TS 79 (.slice none 0 0) := ⟨_, _, A99, rfl⟩
instance : SL 79 119 4 40 (.agg #[(.int .i64 0), (.string (ByteArray.mk #[])), (.int .i64 0), (.int .i64 0)]) := ⟨⟨_, _, _, A99⟩, ⟨_, A0d⟩, rfl⟩
instance : TS 85 .nilFunc := ⟨_, _, C4u, rfl⟩
instance : TS 105 .nilFunc := ⟨_, _, B5U, rfl⟩
instance : TG 106 4 (.agg #[.nilFunc, .nilFunc, .nilFunc, .nilFunc]) := ⟨_, _, B4r, rfl⟩
instance : TG 108 6 (.agg #[(.int .i64 0), (.string (ByteArray.mk #[])), (.string (ByteArray.mk #[])), (.int .i64 0), (.int .i64 0), (.int .i64 0)]) := ⟨_, _, A0m, rfl⟩
instance : TG 110 7 (.agg #[(.int .i64 0), (.string (ByteArray.mk #[])), (.string (ByteArray.mk #[])), (.int .i64 0), (.int .i64 0), (.int .i64 0), (.int .i64 0)]) := ⟨_, _, A8C, rfl⟩
instance : TG 119 4 (.agg #[(.int .i64 0), (.string (ByteArray.mk #[])), (.int .i64 0), (.int .i64 0)]) := ⟨_, _, A0d, rfl⟩
instance : TS 122 (.int .u64 0) := ⟨_, _, A2l, rfl⟩
instance : TG 129 2 (.agg #[(.int .i64 0), (.int .i64 0)]) := ⟨_, _, A6S, rfl⟩
instance : SL 147 179 2 16 (.agg #[(.int .u64 0), (.int .i64 0)]) := ⟨⟨_, _, _, C2Z⟩, ⟨_, B1U⟩, rfl⟩
instance : TG 153 3 (.agg #[(.int .i64 0), (.int .i64 0), (.int .i64 0)]) := ⟨_, _, A4W, rfl⟩
instance : TG 159 38 (.agg #[(.int .u8 0), (.int .u8 0), (.int .u8 0), (.int .u8 0), (.int .u8 0), (.int .u8 0), (.int .u8 0), (.int .u8 0), (.int .u8 0), (.int .u8 0), (.int .u8 0), (.int .u8 0), (.int .u8 0), (.int .u8 0), (.int .u8 0), (.int .u8 0), (.int .u8 0), (.int .u8 0), (.int .u8 0), (.int .u8 0), (.int .u8 0), (.int .u8 0), (.int .u8 0), (.int .u8 0), (.int .u8 0), (.int .u8 0), (.int .u8 0), (.int .u8 0), (.int .u8 0), (.int .u8 0), (.int .u8 0), (.int .u8 0), (.int .u8 0), (.int .u8 0), (.int .u8 0), (.int .u8 0), (.int .u8 0), (.int .u8 0)]) := ⟨_, _, B4v, rfl⟩
instance : TS 160 (.slice none 0 0) := ⟨_, _, A6W, rfl⟩
instance : SL 160 5 1 1 (.int .u8 0) := ⟨⟨_, _, _, A6W⟩, ⟨_, ty5⟩, rfl⟩
instance : TG 164 2 (.agg #[(.int .i64 0), (.int .i64 0)]) := ⟨_, _, A8p, rfl⟩
instance : TS 165 .nilFunc := ⟨_, _, C1j, rfl⟩
instance : TG 184 3 (.agg #[(.string (ByteArray.mk #[])), (.string (ByteArray.mk #[])), (.int .i64 0)]) := ⟨_, _, A6Y, rfl⟩
instance : TG 188 3 (.agg #[(.string (ByteArray.mk #[])), (.string (ByteArray.mk #[])), (.int .i64 0)]) := ⟨_, _, A6T, rfl⟩
instance : TS 205 (.slice none 0 0) := ⟨_, _, B4x, rfl⟩
instance : SL 207 164 2 16 (.agg #[(.int .i64 0), (.int .i64 0)]) := ⟨⟨_, _, _, B4Y⟩, ⟨_, A8p⟩, rfl⟩
instance : TG 219 2 (.agg #[.nilFunc, (.int .i64 0)]) := ⟨_, _, A6e, rfl⟩
instance : SL 221 9 1 16 (.string (ByteArray.mk #[])) := ⟨⟨_, _, _, B8w⟩, ⟨_, ty9⟩, rfl⟩
instance : TS 227 .nilFunc := ⟨_, _, C1n, rfl⟩
instance : TS 229 (.int .u64 0) := ⟨_, _, B84, rfl⟩
instance : TS 237 (.slice none 0 0) := ⟨_, _, B5e, rfl⟩
instance : TS 239 (.slice none 0 0) := ⟨_, _, B1W, rfl⟩
instance : SL 239 241 2 16 (.agg #[(.int .u64 0), (.int .i64 0)]) := ⟨⟨_, _, _, B1W⟩, ⟨_, A4U⟩, rfl⟩
instance : TG 241 2 (.agg #[(.int .u64 0), (.int .i64 0)]) := ⟨_, _, A4U, rfl⟩
instance : SL 251 219 2 16 (.agg #[.nilFunc, (.int .i64 0)]) := ⟨⟨_, _, _, B5H⟩, ⟨_, A6e⟩, rfl⟩
@[simp] theorem C4d (a0 b0 : Int) (a1 b1 : Int) (a2 b2 : Bool) (a3 b3 : Int) (x y : Operand) (K : Value → WP) : A6 PR (q6 .eql 44 x y (.agg #[.int .i64 a0, .int .i64 a1, .bool a2, .int .i64 a3]) (.agg #[.int .i64 b0, .int .i64 b1, .bool b2, .int .i64 b3])) K = K (.bool (decide (a0 = b0) && (decide (a1 = b1) && ((a2 == b2) && (decide (a3 = b3) && true))))) := funext fun w => B8m a0 b0 a1 b1 a2 b2 a3 b3 x y K w
end Go.Proofs.YtlplkjgcfjdinaaGreat
namespace Go.Proofs.YtlplkjgcfjdinaaGreat
open Go
def A9s (n i : Nat) : List Value := [.int .i64 (i : Int), .int .u64 (8 * ((n : Int) - 1 - i))]
abbrev B6s (b : Nat) : Value := .func (.func 150) #[] #[.pointer (some ⟨b, 0, none⟩)]
theorem B1n (w : World) (n : Int) : Fn PR B5 122 #[.int .i64 n] w (Rn [] w (fun b v => v = B6s b) fun b => [.pt b (.cells #[.int .i64 n] 3)]) := by
 refine A9j (TW.go (κ := false) (S := []) ?_)
 unfold A36
 (have zz:=trivial;repeat((first|clear zz|with_reducible first|refine A3 ?_|refine A5 fun _=>?_|refine A4 fun _=>?_);try simp(disch:=first|omega|assumption|((repeat(first|exact A1|exact uH|apply A2|apply uT));first|done|fail)|(simp;first|done|omega|fail))[]))
 rename_i b
 exact l0 b rfl (by simp)
theorem B2x (b : Nat) {n : Nat} (hn : n ≤ 8) : A1k (B6s b) [.pt b (.cells #[.int .i64 (n : Int)] 3)] (fun _ _ => True) ((List.range n).map (A9s n)) := by
 refine ⟨_, _, _, rfl, fun l J E hJ hE stJ stE hy w0 h0 => ?_⟩
 refine A6n (A6m (TW.at (κ := true) ?_ (hJ _ _ _ h0).1))
 unfold A1W
 (have zz:=trivial;repeat((first|clear zz|with_reducible first|refine A3 ?_|refine A5 fun _=>?_|refine A4 fun _=>?_);try simp(disch:=first|omega|assumption|((repeat(first|exact A1|exact uH|apply A2|apply uT));first|done|fail)|(simp;first|done|omega|fail))[]))
 refine A14 n (fun i => i) (fun _ => _) hJ stJ h0 fun i a hi hJi _ L hL => ?_
 by_cases hlt : i < n
 ·(have zz:=trivial;repeat((first|clear zz|with_reducible first|refine A3 ?_|refine A5 fun _=>?_|refine A4 fun _=>?_);try simp(disch:=first|omega|assumption|((repeat(first|exact A1|exact uH|apply A2|apply uT));first|done|fail)|(simp;first|done|omega|fail))[hlt]))
  refine A2s hJ hE stJ hy hJi (by simpa using hlt) (by simp [A9s]) (fun w3 h => ?_) (fun w3 h => ?_)
  ·(have zz:=trivial;repeat((first|clear zz|with_reducible first|refine A3 ?_|refine A5 fun _=>?_|refine A4 fun _=>?_);try simp(disch:=first|omega|assumption|((repeat(first|exact A1|exact uH|apply A2|apply uT));first|done|fail)|(simp;first|done|omega|fail))[]))
   exact fun w' hw' => hL hlt w' (stJ _ _ _ _ _ h hw')
  ·(have zz:=trivial;repeat((first|clear zz|with_reducible first|refine A3 ?_|refine A5 fun _=>?_|refine A4 fun _=>?_);try simp(disch:=first|omega|assumption|((repeat(first|exact A1|exact uH|apply A2|apply uT));first|done|fail)|(simp;first|done|omega|fail))[]))
   exact A0v stE h
 ·obtain rfl : i = n := by omega
  (have zz:=trivial;repeat((first|clear zz|with_reducible first|refine A3 ?_|refine A5 fun _=>?_|refine A4 fun _=>?_);try simp(disch:=first|omega|assumption|((repeat(first|exact A1|exact uH|apply A2|apply uT));first|done|fail)|(simp;first|done|omega|fail))[]))
  exact A0u stJ (by simpa using hJi)
def D4 (s : ByteArray) (i : Nat) : Nat := (s.data.getD i 0).toNat
def k5 (s : ByteArray) (a : Nat) : Nat → Nat
 | 0 => 0
 | i + 1 => k5 s a i * 256 + D4 s (a + i)
theorem w8 (s : ByteArray) (i : Nat) : D4 s i < 256 := (s.data.getD i 0).toNat_lt
theorem A5c (s : ByteArray) (a i : Nat) : k5 s a i < 256 ^ i := by
 induction i with
 | zero => simp [k5]
 | succ i ih =>
  have := w8 s (a + i)
  simp only [k5, Nat.pow_succ]
  omega
theorem u0 {s : ByteArray} {i : Nat} (h : i < s.size) : ∃ b : UInt8, s[i]? = some b ∧ b.toNat = D4 s i := by
 refine ⟨s[i], by simp [h], ?_⟩
 have h' : i < s.data.size := h
 have e : s.data.getD i 0 = s[i] := by rw [Array.getD_eq_getD_getElem?, Array.getElem?_eq_getElem h']; rfl
 rw [D4, e]
def A0n (s : ByteArray) (a n : Int) : Bool := decide (1 ≤ n ∧ n ≤ 8 ∧ 0 ≤ a ∧ a ≤ s.size - n)
def A3K (s : ByteArray) (a n : Int) : Int := if A0n s a n = true then (k5 s a.toNat n.toNat : Nat) else 0
theorem A0w (w : World) (s : ByteArray) (hs : s.size < 2 ^ 62) (a n : Int) :
  Fn PR B5 120 #[.string s, .int .i64 a, .int .i64 n] w (fun v w' => v = .tuple #[.int .u64 (A3K s a n), .bool (A0n s a n)] ∧ C6 [] w w') := by
 refine Fn.pure (B1j (TW.go (κ := false) (S := []) ?_))
 unfold A5u
 by_cases hok : A0n s a n = true
 case neg =>
  have hv : A3K s a n = 0 := if_neg hok
  have hok' : A0n s a n = false := by simpa using hok
  rw [hv, hok']
  have hc : n < 1 ∨ 8 < n ∨ a < 0 ∨ (s.size : Int) - n < a := by
   simp only [A0n, decide_eq_true_eq] at hok; omega
  by_cases h1 : n < 1
  ·(have zz:=trivial;repeat((first|clear zz|with_reducible first|refine A3 ?_|refine A5 fun _=>?_|refine A4 fun _=>?_);try simp(disch:=first|omega|assumption|((repeat(first|exact A1|exact uH|apply A2|apply uT));first|done|fail)|(simp;first|done|omega|fail))[h1])); exact A9 rfl
  by_cases h2 : 8 < n
  ·(have zz:=trivial;repeat((first|clear zz|with_reducible first|refine A3 ?_|refine A5 fun _=>?_|refine A4 fun _=>?_);try simp(disch:=first|omega|assumption|((repeat(first|exact A1|exact uH|apply A2|apply uT));first|done|fail)|(simp;first|done|omega|fail))[h1, h2])); exact A9 rfl
  by_cases h3 : a < 0
  ·(have zz:=trivial;repeat((first|clear zz|with_reducible first|refine A3 ?_|refine A5 fun _=>?_|refine A4 fun _=>?_);try simp(disch:=first|omega|assumption|((repeat(first|exact A1|exact uH|apply A2|apply uT));first|done|fail)|(simp;first|done|omega|fail))[h1, h2, h3])); exact A9 rfl
  have h4 : (s.size : Int) - n < a := by omega
  (have zz:=trivial;repeat((first|clear zz|with_reducible first|refine A3 ?_|refine A5 fun _=>?_|refine A4 fun _=>?_);try simp(disch:=first|omega|assumption|((repeat(first|exact A1|exact uH|apply A2|apply uT));first|done|fail)|(simp;first|done|omega|fail))[h1, h2, h3, h4])); exact A9 rfl
 have hv : A3K s a n = (k5 s a.toNat n.toNat : Nat) := if_pos hok
 rw [hv, hok]
 simp only [A0n, decide_eq_true_eq] at hok
 obtain ⟨m, rfl⟩ : ∃ m : Nat, n = m := ⟨n.toNat, by omega⟩
 obtain ⟨k, rfl⟩ : ∃ k : Nat, a = k := ⟨a.toNat, by omega⟩
 have h1 : ¬ (m : Int) < 1 := by omega
 have h2 : ¬ 8 < (m : Int) := by omega
 have h4 : ¬ (s.size : Int) - m < k := by omega
 have h5 : ¬ (k : Int) < 0 := by omega
 (have zz:=trivial;repeat((first|clear zz|with_reducible first|refine A3 ?_|refine A5 fun _=>?_|refine A4 fun _=>?_);try simp(disch:=first|omega|assumption|((repeat(first|exact A1|exact uH|apply A2|apply uT));first|done|fail)|(simp;first|done|omega|fail))[h1, h2, h4, h5]))
 rename_i bs ba bv
 refine G8 A2Q (fun w' _ => B1n w' m) ?_
 rintro b v rfl
 refine A0p (B2x b (n := m) (by omega)) (by simp [A9s]) (fun _ (_ : Unit) => True) (fun i _ => [.pt bv (.cells #[.int .u64 ((k5 s k i * 256 ^ (m - i) : Nat) : Int)] 122), .pt ba (.cells #[.int .i64 (k : Int)] 3), .pt bs (.cells #[.string s] 9)])
  (fun _ (_ : Unit) => False) (fun _ => []) () trivial ?_ ?_ ?_ ?_ (by simp [k5])
 ·intros; trivial
 ·rintro i hi _ F _ K' hK _
  have hi' : i < m := by simpa using hi
  obtain ⟨by0, hb0, hb1⟩ := u0 (s := s) (i := k + i) (by omega)
  have hidx : ((k : Int) + i).toNat = k + i := by omega
  have hbl := w8 s (k + i)
  rw [← hidx] at hb0
  have hsh : (0 : Int) ≤ 8 * ((m : Int) - 1 - i) := by omega
  simp only [List.getElem_map, List.getElem_range, A9s, VF.app]
  (have zz:=trivial;repeat((first|clear zz|with_reducible first|refine A3 ?_|refine A5 fun _=>?_|refine A4 fun _=>?_);try simp(disch:=first|omega|assumption|((repeat(first|exact A1|exact uH|apply A2|apply uT));first|done|fail)|(simp;first|done|omega|fail))[V4]))
  refine TW.eqH ?_ (hK () trivial)
  have hlt : (k5 s k i * 256 + D4 s (k + i)) * 256 ^ (m - 1 - i) < 2 ^ 64 := by
   have hA : k5 s k (i + 1) < 256 ^ (i + 1) := A5c s k (i + 1)
   have h8 : 256 ^ (i + 1) * 256 ^ (m - 1 - i) ≤ 2 ^ 64 := by
    rw [← Nat.pow_add, show (2 : Nat) ^ 64 = 256 ^ 8 from rfl]
    exact Nat.pow_le_pow_right (by omega) (by omega)
   exact Nat.lt_of_lt_of_le (Nat.mul_lt_mul_of_pos_right hA (Nat.pow_pos (by omega))) h8
  have hval := B9J hbl hlt (by omega)
  rw [show m - (i + 1) = m - 1 - i from by omega]
  simp [k5, ← hval]
  rw [hb1, show (8 * ((m : Int) - 1 - i)).toNat = 8 * (m - 1 - i) from by omega, show m - i = m - 1 - i + 1 from by omega]
 ·rintro _ _
  (have zz:=trivial;repeat((first|clear zz|with_reducible first|refine A3 ?_|refine A5 fun _=>?_|refine A4 fun _=>?_);try simp(disch:=first|omega|assumption|((repeat(first|exact A1|exact uH|apply A2|apply uT));first|done|fail)|(simp;first|done|omega|fail))[]))
  exact A9 (by simp)
 ·rintro _ _ h; exact h.elim
def B1Q (v : Int) (n i : Nat) : Int := IntKind.u8.wrap (v.fdiv (2 ^ min (8 * ((n : Int) - 1 - i)).toNat IntKind.u64.bits))
def s5 (v : Int) (n i : Nat) : List Int := (List.range n).map fun j => if j < i then B1Q v n j else 0
def F8 (v n : Int) : ByteArray := if 1 ≤ n ∧ n ≤ 8 then A1m (s5 v n.toNat n.toNat) else ByteArray.mk #[]
theorem B7g (v : Int) {n i : Nat} (h : i < n) : (s5 v n i).set i (B1Q v n i) = s5 v n (i + 1) := by
 apply List.ext_getElem (by simp [s5])
 intro j h1 h2
 simp only [s5, List.length_set, List.length_map, List.length_range] at h1
 rw [List.getElem_set]
 simp only [s5, List.getElem_map, List.getElem_range]
 by_cases hij : i = j
 ·subst hij; simp
 ·by_cases hj : j < i
  ·simp [hij, hj, Nat.lt_succ_of_lt hj]
  ·have : ¬ j < i + 1 := by omega
   simp [hij, hj, this]
def A23 (v : Int) (n i : Nat) : Array Value := ((s5 v n i).map (Value.int .u8)).toArray
theorem B6z (v : Int) {m : Nat} (h : m ≤ 8) : Builtin.zeroCells (Value.int .u8 0).cells m = A23 v m 0 := by
 have : m = 0 ∨ m = 1 ∨ m = 2 ∨ m = 3 ∨ m = 4 ∨ m = 5 ∨ m = 6 ∨ m = 7 ∨ m = 8 := by omega
 rcases this with rfl | rfl | rfl | rfl | rfl | rfl | rfl | rfl | rfl <;>
  (apply Array.ext'; simp [Builtin.zeroCells, A23, s5, List.range, List.range.loop])
@[simp] theorem C4G {v n : Int} (h1 : 1 ≤ n) (h2 : n ≤ 8) : (F8 v n).size = n.toNat := by simp [F8, h1, h2, s5]
theorem k6 (w : World) (v n : Int) :
  Fn PR B5 95 #[.int .u64 v, .int .i64 n] w (fun u w' => u = .string (F8 v n) ∧ C6 [] w w') := by
 refine Fn.pure (B2s (TW.go (κ := false) (S := []) ?_))
 unfold A6K
 by_cases hok : 1 ≤ n ∧ n ≤ 8
 case neg =>
  have hv : F8 v n = ByteArray.mk #[] := if_neg hok
  rw [hv]
  by_cases h1 : n < 1
  ·(have zz:=trivial;repeat((first|clear zz|with_reducible first|refine A3 ?_|refine A5 fun _=>?_|refine A4 fun _=>?_);try simp(disch:=first|omega|assumption|((repeat(first|exact A1|exact uH|apply A2|apply uT));first|done|fail)|(simp;first|done|omega|fail))[h1])); exact A9 rfl
  ·have h2 : 8 < n := by omega
   (have zz:=trivial;repeat((first|clear zz|with_reducible first|refine A3 ?_|refine A5 fun _=>?_|refine A4 fun _=>?_);try simp(disch:=first|omega|assumption|((repeat(first|exact A1|exact uH|apply A2|apply uT));first|done|fail)|(simp;first|done|omega|fail))[h1, h2])); exact A9 rfl
 have hv : F8 v n = A1m (s5 v n.toNat n.toNat) := if_pos hok
 rw [hv]
 obtain ⟨m, rfl⟩ : ∃ m : Nat, n = m := ⟨n.toNat, by omega⟩
 have h1 : ¬ (m : Int) < 1 := by omega
 have h2 : ¬ 8 < (m : Int) := by omega
 (have zz:=trivial;repeat((first|clear zz|with_reducible first|refine A3 ?_|refine A5 fun _=>?_|refine A4 fun _=>?_);try simp(disch:=first|omega|assumption|((repeat(first|exact A1|exact uH|apply A2|apply uT));first|done|fail)|(simp;first|done|omega|fail))[h1, h2]))
 refine B7K (by omega) (by omega) (by omega) (by omega) fun bs => ?_
 rw [Int.toNat_natCast, B6z v (by omega)]
 (have zz:=trivial;repeat((first|clear zz|with_reducible first|refine A3 ?_|refine A5 fun _=>?_|refine A4 fun _=>?_);try simp(disch:=first|omega|assumption|((repeat(first|exact A1|exact uH|apply A2|apply uT));first|done|fail)|(simp;first|done|omega|fail))[h1, h2]))
 rename_i bv bb
 refine G8 A2Q (fun w' _ => B1n w' m) ?_
 rintro b v rfl
 refine A0p (B2x b (n := m) (by omega)) (by simp [A9s]) (fun _ (_ : Unit) => True) (fun i _ => [.pt bb (.cells #[.slice (some ⟨bs, 0, none⟩) m m] 160),
   .own 5 1 (.slice (some ⟨bs, 0, none⟩) m m) m (A23 v m i).toList, .pt bv (.cells #[.int .u64 v] 122)])
  (fun _ (_ : Unit) => False) (fun _ => []) () trivial ?_ ?_ ?_ ?_ (by simp)
 ·intros; trivial
 ·rintro i hi _ F _ K' hK _
  have hi' : i < m := by simpa using hi
  have hsh : (0 : Int) ≤ 8 * ((m : Int) - 1 - i) := by omega
  simp only [List.getElem_map, List.getElem_range, A9s, VF.app]
  (have zz:=trivial;repeat((first|clear zz|with_reducible first|refine A3 ?_|refine A5 fun _=>?_|refine A4 fun _=>?_);try simp(disch:=first|omega|assumption|((repeat(first|exact A1|exact uH|apply A2|apply uT));first|done|fail)|(simp;first|done|omega|fail))[]))
  refine W6 (by (repeat constructor)) (by simp) (by simp [A23, s5]; omega) (by simp) ?_
  refine TW.eqH ?_ (hK () trivial)
  have e : p6 (A23 v m i).toList i [.int .u8 (B1Q v m i)] = (A23 v m (i + 1)).toList := by
   rw [B10 (by simp [A23, s5]; omega)]; simp [A23, ← B7g v hi', List.map_set]
  rw [← e]; simp [B1Q]
 ·rintro _ _
  (have zz:=trivial;repeat((first|clear zz|with_reducible first|refine A3 ?_|refine A5 fun _=>?_|refine A4 fun _=>?_);try simp(disch:=first|omega|assumption|((repeat(first|exact A1|exact uH|apply A2|apply uT));first|done|fail)|(simp;first|done|omega|fail))[]))
  have hlen : (s5 v m m).length = m := by simp [s5]
  have := fun w' K (hr : H4 w' bs 0 ((s5 v m m).map (Value.int .u8))) => @B3J K w' bs 0 m _ hr
  rw [hlen] at this
  rw [C2A fun w' hw' => this w' _ (by simpa [A23] using hw'.ownr (e := 5) (k := 1) (q := m) (c := m) (xs := (A23 v m m).toList) (by (repeat constructor)))]
  simp only [C2c]
  exact A9 rfl
 ·rintro _ _ h; exact h.elim
end Go.Proofs.YtlplkjgcfjdinaaGreat
