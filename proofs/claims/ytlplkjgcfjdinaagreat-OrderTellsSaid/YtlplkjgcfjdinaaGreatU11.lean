/- The proof of a given statement, a part of it (ShStd ShOctet Ins Tc Tn Oct). No condition but what each lemma says. -/
import Derived.Test.YtlplkjgcfjdinaaGreatU10
set_option linter.unusedVariables false
set_option linter.unusedSimpArgs false
namespace Go.Proofs.YtlplkjgcfjdinaaGreat
open Go
def S5 (X : Nat → Prop) (t0 t1 : Value) (R : Value → WP) : WP :=
 A0 PR (A7 .len #[35] 0 [t0]) fun t6 =>
 B2 PR X 31 [t0, t6, t1] fun t8 =>
 R (.tuple #[])
theorem Z8 : B0 PR 20 := A8 Tryz.func20 (by kernel_rfl) rfl
theorem b9 {X : Nat → Prop} {t0 t1 : Value} {R : Value → WP} {w : World} (h : S5 X t0 t1 R w) : Fn PR X 20 #[t0, t1] w R := C7 (args := [t0, t1]) mixed Tryz.func20 (by kernel_rfl) h
def A3Z (X : Nat → Prop) (t0 t1 : Value) (R : Value → WP) : WP :=
 B2 PR X 32 [t0] fun t8 =>
 B2 PR X 32 [t1] fun t10 =>
 jn (n := 1) (fun t4 =>
 jn (n := 1) (fun t4_1 =>
 jn (n := 1) (fun t4_2 =>
 jn (n := 1) (fun t4_3 =>
 R (.int .i64 0)) fun J1 =>
 A0 PR (binOp .gtr 3 t0 t1) fun t19 =>
 B3 t19 (
 R (.int .i64 1)) (
 J1 t4_2)) fun J2 =>
 A0 PR (binOp .lss 3 t0 t1) fun t16 =>
 B3 t16 (
 R (.int .i64 (-1))) (
 J2 t4_1)) fun J3 =>
 B3 t10 (
 R (.int .i64 1)) (
 J3 t4)) fun J4 =>
 B3 t8 (
 jn (n := 1) (fun t4_4 =>
 R (.int .i64 (-1))) fun J5 =>
 B3 t10 (
 R (.int .i64 0)) (
 J5 (.int .i64 0))) (
 J4 (.int .i64 0))
theorem A22 : B0 PR 22 := A8 Tryz.func22 (by kernel_rfl) rfl
theorem B0s {X : Nat → Prop} {t0 t1 : Value} {R : Value → WP} {w : World} (h : A3Z X t0 t1 R w) : Fn PR X 22 #[t0, t1] w R := C7 (args := [t0, t1]) mixed Tryz.func22 (by kernel_rfl) h
theorem B1W {X : Nat → Prop} {t0 t1 : Value} {K : Value → WP} {w : World} (h : Fn PR X 22 #[t0, t1] w K) : B2 PR X 22 [t0, t1] K w := Or.inl ⟨A22, h⟩
def V7 (X : Nat → Prop) (t0 t1 t2 : Value) (R : Value → WP) : WP :=
 jn (n := 2) (fun t7 t8 =>
 B2 PR X 40 [t0, t7, t1, t2] fun t27 =>
 lp (n := 3) (fun L1 t7_1 t8_1 t6 =>
 jn (n := 0) (
 A0 PR (binOp .mul 3 (.int .i64 2) t6) fun t32 =>
 jn (n := 2) (fun t7_2 t8_2 =>
 jn (n := 0) (
 A0 PR (binOp .mul 3 t6 (.int .i64 2)) fun t62 =>
 L1 t7_2 t8_2 t62) fun J2 =>
 A0 PR (binOp .add 3 t7_2 t6) fun t51 =>
 A0 PR (binOp .lss 3 t51 t1) fun t54 =>
 B3 t54 (
 B2 PR X 41 [t0, t7_2, t51, t1, t2] fun t60 =>
 J2) (
 J2)) fun J3 =>
 lp (n := 2) (fun L4 t7_3 t8_3 =>
 jn (n := 0) (
 A0 PR (binOp .add 3 t7_3 t6) fun t40 =>
 B2 PR X 41 [t0, t7_3, t40, t8_3, t2] fun t43 =>
 A0 PR (binOp .mul 3 (.int .i64 2) t6) fun t47 =>
 A0 PR (binOp .add 3 t8_3 t47) fun t48 =>
 L4 t8_3 t48) fun J5 =>
 A0 PR (binOp .leq 3 t8_3 t1) fun t35 =>
 B3 t35 (
 J5) (
 J3 t7_3 t8_3)) (.int .i64 0) t32) fun J6 =>
 A0 PR (binOp .lss 3 t6 t1) fun t30 =>
 B3 t30 (
 J6) (
 R (.tuple #[]))) t7 t8 (.int .i64 20)) fun J7 =>
 lp (n := 2) (fun L8 t7_4 t8_4 =>
 jn (n := 0) (
 B2 PR X 40 [t0, t7_4, t8_4, t2] fun t18 =>
 A0 PR (binOp .add 3 t8_4 (.int .i64 20)) fun t22 =>
 L8 t8_4 t22) fun J9 =>
 A0 PR (binOp .leq 3 t8_4 t1) fun t13 =>
 B3 t13 (
 J9) (
 J7 t7_4 t8_4)) (.int .i64 0) (.int .i64 20)
theorem m5 : B0 PR 31 := A8 Tryz.func31 (by kernel_rfl) rfl
theorem p6 {X : Nat → Prop} {t0 t1 t2 : Value} {R : Value → WP} {w : World} (h : V7 X t0 t1 t2 R w) : Fn PR X 31 #[t0, t1, t2] w R := C7 (args := [t0, t1, t2]) mixed Tryz.func31 (by kernel_rfl) h
def A4n (X : Nat → Prop) (t0 : Value) (R : Value → WP) : WP :=
 A0 PR (binOp .neq 3 t0 t0) fun t5 =>
 R t5
theorem B1b : B0 PR 32 := A8 Tryz.func32 (by kernel_rfl) rfl
theorem B2S {X : Nat → Prop} {t0 : Value} {R : Value → WP} {w : World} (h : A4n X t0 R w) : Fn PR X 32 #[t0] w R := C7 (args := [t0]) mixed Tryz.func32 (by kernel_rfl) h
theorem A6Z {X : Nat → Prop} {t0 : Value} {K : Value → WP} {w : World} (h : Fn PR X 32 #[t0] w K) : B2 PR X 32 [t0] K w := Or.inl ⟨B1b, h⟩
def P9 (X : Nat → Prop) (t0 t1 t2 t3 : Value) (R : Value → WP) : WP :=
 A0 PR (binOp .add 3 t1 (.int .i64 1)) fun t11 =>
 lp (n := 1) (fun L1 t8 =>
 jn (n := 0) (
 jn (n := 1) (fun t9 =>
 A0 PR (binOp .add 3 t8 (.int .i64 1)) fun t16 =>
 L1 t16) fun J2 =>
 lp (n := 1) (fun L3 t9_1 =>
 jn (n := 0) (
 jn (n := 0) (
 A0 PR (binOp .sub 3 t9_1 (.int .i64 1)) fun t36 =>
 L3 t36) fun J4 =>
 drw <|
 A0 PR (binOp .sub 3 t9_1 (.int .i64 1)) fun t41 =>
 A0 PR (binOp .sub 3 t9_1 (.int .i64 1)) fun t44 =>
 A0 PR (Instr.indexAt 35 t0 t44) fun t45 =>
 A6 PR (Instr.loadAt 3 t45) fun t46 =>
 A0 PR (Instr.indexAt 35 t0 t9_1) fun t49 =>
 A6 PR (Instr.loadAt 3 t49) fun t50 =>
 A0 PR (Instr.indexAt 35 t0 t9_1) fun t51 =>
 B6 PR X (Instr.storeAt 3 t51 t46) <|
 A0 PR (Instr.indexAt 35 t0 t41) fun t52 =>
 B6 PR X (Instr.storeAt 3 t52 t50) <|
 J4) fun J5 =>
 drw <|
 A0 PR (binOp .gtr 3 t9_1 t1) fun t20 =>
 gj t20 true (fun J => J t3) fun t22 =>
 gj t20 true (fun J => J t0) fun t23 =>
 gj t20 true (fun J => J t9_1) fun t24 =>
 gj t20 true (fun J => A0 PR (Instr.indexAt 35 t23 t24) J) fun t25 =>
 gj t20 true (fun J => A6 PR (Instr.loadAt 3 t25) J) fun t26 =>
 gj t20 true (fun J => J t0) fun t27 =>
 gj t20 true (fun J => J t9_1) fun t28 =>
 gj t20 true (fun J => A0 PR (binOp .sub 3 t28 (.int .i64 1)) J) fun t29 =>
 gj t20 true (fun J => A0 PR (Instr.indexAt 35 t27 t29) J) fun t30 =>
 gj t20 true (fun J => A6 PR (Instr.loadAt 3 t30) J) fun t31 =>
 gj t20 true (fun J => J0 PR X t22 [t26, t31] J) fun t32 =>
 gj t20 true (fun J => A0 PR (binOp .lss 3 t32 (.int .i64 0)) J) fun t33 =>
 A0 PR (do pure (if ← asBool t20 then t33 else (.bool false))) fun t34 =>
 B3 t34 (
 J5) (
 J2 t9_1)) t8) fun J6 =>
 A0 PR (binOp .lss 3 t8 t2) fun t14 =>
 B3 t14 (
 J6) (
 R (.tuple #[]))) t11
theorem P5 : B0 PR 40 := A8 Tryz.func40 (by kernel_rfl) rfl
theorem Y9 {X : Nat → Prop} {t0 t1 t2 t3 : Value} {R : Value → WP} {w : World} (h : P9 X t0 t1 t2 t3 R w) : Fn PR X 40 #[t0, t1, t2, t3] w R := C7 (args := [t0, t1, t2, t3]) mixed Tryz.func40 (by kernel_rfl) h
def U6 (X : Nat → Prop) (t0 t1 t2 t3 t4 : Value) (R : Value → WP) : WP :=
 jn (n := 0) (
 jn (n := 0) (
 A0 PR (binOp .add 3 t1 t3) fun t131 =>
 A0 PR (convert 3 104 t131) fun t132 =>
 A0 PR (binOp .shr 104 t132 (.int .u64 1)) fun t133 =>
 A0 PR (convert 104 3 t133) fun t134 =>
 A0 PR (binOp .add 3 t134 t2) fun t137 =>
 jn (n := 2) (fun t20 t21 =>
 A0 PR (binOp .sub 3 t137 (.int .i64 1)) fun t148 =>
 jn (n := 2) (fun t20_1 t21_1 =>
 A0 PR (binOp .sub 3 t137 t20_1) fun t177 =>
 jn (n := 0) (
 jn (n := 0) (
 A0 PR (binOp .lss 3 t134 t177) fun t208 =>
 gj t208 true (fun J => J t177) fun t210 =>
 gj t208 true (fun J => J t3) fun t211 =>
 gj t208 true (fun J => A0 PR (binOp .lss 3 t210 t211) J) fun t212 =>
 A0 PR (do pure (if ← asBool t208 then t212 else (.bool false))) fun t213 =>
 B3 t213 (
 B2 PR X 41 [t0, t134, t177, t3, t4] fun t219 =>
 R (.tuple #[])) (
 R (.tuple #[]))) fun J1 =>
 A0 PR (binOp .lss 3 t1 t20_1) fun t194 =>
 gj t194 true (fun J => J t20_1) fun t196 =>
 gj t194 true (fun J => J t134) fun t197 =>
 gj t194 true (fun J => A0 PR (binOp .lss 3 t196 t197) J) fun t198 =>
 A0 PR (do pure (if ← asBool t194 then t198 else (.bool false))) fun t199 =>
 B3 t199 (
 B2 PR X 41 [t0, t1, t20_1, t134, t4] fun t205 =>
 J1) (
 J1)) fun J2 =>
 A0 PR (binOp .lss 3 t20_1 t2) fun t180 =>
 gj t180 true (fun J => J t2) fun t182 =>
 gj t180 true (fun J => J t177) fun t183 =>
 gj t180 true (fun J => A0 PR (binOp .lss 3 t182 t183) J) fun t184 =>
 A0 PR (do pure (if ← asBool t180 then t184 else (.bool false))) fun t185 =>
 B3 t185 (
 B2 PR X 51 [t0, t20_1, t2, t177, t4] fun t191 =>
 J2) (
 J2)) fun J3 =>
 lp (n := 2) (fun L4 t20_2 t21_2 =>
 jn (n := 0) (
 A0 PR (binOp .add 3 t20_2 t21_2) fun t154 =>
 A0 PR (convert 3 104 t154) fun t155 =>
 A0 PR (binOp .shr 104 t155 (.int .u64 1)) fun t156 =>
 A0 PR (convert 104 3 t156) fun t157 =>
 drw <|
 A0 PR (binOp .sub 3 t148 t157) fun t162 =>
 A0 PR (Instr.indexAt 35 t0 t162) fun t163 =>
 A6 PR (Instr.loadAt 3 t163) fun t164 =>
 A0 PR (Instr.indexAt 35 t0 t157) fun t167 =>
 A6 PR (Instr.loadAt 3 t167) fun t168 =>
 J0 PR X t4 [t164, t168] fun t169 =>
 A0 PR (binOp .lss 3 t169 (.int .i64 0)) fun t170 =>
 A0 PR (Op.unary .not t170) fun t171 =>
 B3 t171 (
 A0 PR (binOp .add 3 t157 (.int .i64 1)) fun t173 =>
 L4 t173 t21_2) (
 L4 t20_2 t157)) fun J5 =>
 A0 PR (binOp .lss 3 t20_2 t21_2) fun t151 =>
 B3 t151 (
 J5) (
 J3 t20_2 t21_2)) t20 t21) fun J6 =>
 A0 PR (binOp .gtr 3 t2 t134) fun t140 =>
 B3 t140 (
 A0 PR (binOp .sub 3 t137 t3) fun t143 =>
 J6 t143 t134) (
 J6 t1 t2)) fun J7 =>
 A0 PR (binOp .sub 3 t3 t2) fun t79 =>
 A0 PR (binOp .eql 3 t79 (.int .i64 1)) fun t80 =>
 B3 t80 (
 jn (n := 2) (fun t14 t15 =>
 jn (n := 1) (fun t17 =>
 R (.tuple #[])) fun J8 =>
 lp (n := 1) (fun L9 t17_1 =>
 jn (n := 0) (
 jn (n := 0) (
 A0 PR (binOp .sub 3 t17_1 (.int .i64 1)) fun t112 =>
 L9 t112) fun J10 =>
 drw <|
 A0 PR (binOp .sub 3 t17_1 (.int .i64 1)) fun t117 =>
 A0 PR (binOp .sub 3 t17_1 (.int .i64 1)) fun t120 =>
 A0 PR (Instr.indexAt 35 t0 t120) fun t121 =>
 A6 PR (Instr.loadAt 3 t121) fun t122 =>
 A0 PR (Instr.indexAt 35 t0 t17_1) fun t125 =>
 A6 PR (Instr.loadAt 3 t125) fun t126 =>
 A0 PR (Instr.indexAt 35 t0 t17_1) fun t127 =>
 B6 PR X (Instr.storeAt 3 t127 t122) <|
 A0 PR (Instr.indexAt 35 t0 t117) fun t128 =>
 B6 PR X (Instr.storeAt 3 t128 t126) <|
 J10) fun J11 =>
 A0 PR (binOp .gtr 3 t17_1 t14) fun t110 =>
 B3 t110 (
 J11) (
 J8 t17_1)) t2) fun J12 =>
 lp (n := 2) (fun L13 t14_1 t15_1 =>
 jn (n := 0) (
 A0 PR (binOp .add 3 t14_1 t15_1) fun t88 =>
 A0 PR (convert 3 104 t88) fun t89 =>
 A0 PR (binOp .shr 104 t89 (.int .u64 1)) fun t90 =>
 A0 PR (convert 104 3 t90) fun t91 =>
 drw <|
 A0 PR (Instr.indexAt 35 t0 t2) fun t95 =>
 A6 PR (Instr.loadAt 3 t95) fun t96 =>
 A0 PR (Instr.indexAt 35 t0 t91) fun t99 =>
 A6 PR (Instr.loadAt 3 t99) fun t100 =>
 J0 PR X t4 [t96, t100] fun t101 =>
 A0 PR (binOp .lss 3 t101 (.int .i64 0)) fun t102 =>
 A0 PR (Op.unary .not t102) fun t103 =>
 B3 t103 (
 A0 PR (binOp .add 3 t91 (.int .i64 1)) fun t105 =>
 L13 t105 t15_1) (
 L13 t14_1 t91)) fun J14 =>
 A0 PR (binOp .lss 3 t14_1 t15_1) fun t85 =>
 B3 t85 (
 J14) (
 J12 t14_1 t15_1)) t1 t2) (
 J7)) fun J15 =>
 A0 PR (binOp .sub 3 t2 t1) fun t27 =>
 A0 PR (binOp .eql 3 t27 (.int .i64 1)) fun t28 =>
 B3 t28 (
 jn (n := 2) (fun t10 t11 =>
 jn (n := 1) (fun t13 =>
 R (.tuple #[])) fun J16 =>
 lp (n := 1) (fun L17 t13_1 =>
 jn (n := 0) (
 jn (n := 0) (
 A0 PR (binOp .add 3 t13_1 (.int .i64 1)) fun t60 =>
 L17 t60) fun J18 =>
 drw <|
 A0 PR (binOp .add 3 t13_1 (.int .i64 1)) fun t65 =>
 A0 PR (binOp .add 3 t13_1 (.int .i64 1)) fun t68 =>
 A0 PR (Instr.indexAt 35 t0 t68) fun t69 =>
 A6 PR (Instr.loadAt 3 t69) fun t70 =>
 A0 PR (Instr.indexAt 35 t0 t13_1) fun t73 =>
 A6 PR (Instr.loadAt 3 t73) fun t74 =>
 A0 PR (Instr.indexAt 35 t0 t13_1) fun t75 =>
 B6 PR X (Instr.storeAt 3 t75 t70) <|
 A0 PR (Instr.indexAt 35 t0 t65) fun t76 =>
 B6 PR X (Instr.storeAt 3 t76 t74) <|
 J18) fun J19 =>
 A0 PR (binOp .sub 3 t10 (.int .i64 1)) fun t57 =>
 A0 PR (binOp .lss 3 t13_1 t57) fun t58 =>
 B3 t58 (
 J19) (
 J16 t13_1)) t1) fun J20 =>
 lp (n := 2) (fun L21 t10_1 t11_1 =>
 jn (n := 0) (
 A0 PR (binOp .add 3 t10_1 t11_1) fun t36 =>
 A0 PR (convert 3 104 t36) fun t37 =>
 A0 PR (binOp .shr 104 t37 (.int .u64 1)) fun t38 =>
 A0 PR (convert 104 3 t38) fun t39 =>
 drw <|
 A0 PR (Instr.indexAt 35 t0 t39) fun t43 =>
 A6 PR (Instr.loadAt 3 t43) fun t44 =>
 A0 PR (Instr.indexAt 35 t0 t1) fun t47 =>
 A6 PR (Instr.loadAt 3 t47) fun t48 =>
 J0 PR X t4 [t44, t48] fun t49 =>
 A0 PR (binOp .lss 3 t49 (.int .i64 0)) fun t50 =>
 B3 t50 (
 A0 PR (binOp .add 3 t39 (.int .i64 1)) fun t52 =>
 L21 t52 t11_1) (
 L21 t10_1 t39)) fun J22 =>
 A0 PR (binOp .lss 3 t10_1 t11_1) fun t33 =>
 B3 t33 (
 J22) (
 J20 t10_1 t11_1)) t2 t3) (
 J15)
theorem T9 : B0 PR 41 := A8 Tryz.func41 (by kernel_rfl) rfl
theorem l6 {X : Nat → Prop} {t0 t1 t2 t3 t4 : Value} {R : Value → WP} {w : World} (h : U6 X t0 t1 t2 t3 t4 R w) : Fn PR X 41 #[t0, t1, t2, t3, t4] w R := C7 (args := [t0, t1, t2, t3, t4]) mixed Tryz.func41 (by kernel_rfl) h
def p8 (X : Nat → Prop) (t0 t1 t2 t3 t4 : Value) (R : Value → WP) : WP :=
 A0 PR (binOp .sub 3 t2 t1) fun t14 =>
 A0 PR (binOp .sub 3 t3 t2) fun t17 =>
 jn (n := 2) (fun t10 t11 =>
 A0 PR (binOp .sub 3 t2 t10) fun t53 =>
 B2 PR X 69 [t0, t53, t2, t10, t4] fun t57 =>
 R (.tuple #[])) fun J1 =>
 lp (n := 2) (fun L2 t10_1 t11_1 =>
 jn (n := 0) (
 A0 PR (binOp .gtr 3 t10_1 t11_1) fun t23 =>
 B3 t23 (
 A0 PR (binOp .sub 3 t2 t10_1) fun t27 =>
 B2 PR X 69 [t0, t27, t2, t11_1, t4] fun t31 =>
 A0 PR (binOp .sub 3 t10_1 t11_1) fun t34 =>
 L2 t34 t11_1) (
 A0 PR (binOp .sub 3 t2 t10_1) fun t38 =>
 A0 PR (binOp .add 3 t2 t11_1) fun t41 =>
 A0 PR (binOp .sub 3 t41 t10_1) fun t43 =>
 B2 PR X 69 [t0, t38, t43, t10_1, t4] fun t46 =>
 A0 PR (binOp .sub 3 t11_1 t10_1) fun t49 =>
 L2 t10_1 t49)) fun J3 =>
 A0 PR (binOp .neq 3 t10_1 t11_1) fun t20 =>
 B3 t20 (
 J3) (
 J1 t10_1 t11_1)) t14 t17
theorem A3G : B0 PR 51 := A8 Tryz.func51 (by kernel_rfl) rfl
theorem A3r {X : Nat → Prop} {t0 t1 t2 t3 t4 : Value} {R : Value → WP} {w : World} (h : p8 X t0 t1 t2 t3 t4 R w) : Fn PR X 51 #[t0, t1, t2, t3, t4] w R := C7 (args := [t0, t1, t2, t3, t4]) mixed Tryz.func51 (by kernel_rfl) h
def g9 (X : Nat → Prop) (t0 t1 t2 t3 t4 : Value) (R : Value → WP) : WP :=
 lp (n := 1) (fun L1 t10 =>
 jn (n := 0) (
 jn (n := 0) (
 A0 PR (binOp .add 3 t10 (.int .i64 1)) fun t15 =>
 L1 t15) fun J2 =>
 drw <|
 A0 PR (binOp .add 3 t1 t10) fun t19 =>
 A0 PR (binOp .add 3 t2 t10) fun t23 =>
 A0 PR (binOp .add 3 t2 t10) fun t27 =>
 A0 PR (Instr.indexAt 35 t0 t27) fun t28 =>
 A6 PR (Instr.loadAt 3 t28) fun t29 =>
 A0 PR (binOp .add 3 t1 t10) fun t33 =>
 A0 PR (Instr.indexAt 35 t0 t33) fun t34 =>
 A6 PR (Instr.loadAt 3 t34) fun t35 =>
 A0 PR (Instr.indexAt 35 t0 t19) fun t36 =>
 B6 PR X (Instr.storeAt 3 t36 t29) <|
 A0 PR (Instr.indexAt 35 t0 t23) fun t37 =>
 B6 PR X (Instr.storeAt 3 t37 t35) <|
 J2) fun J3 =>
 A0 PR (binOp .lss 3 t10 t3) fun t13 =>
 B3 t13 (
 J3) (
 R (.tuple #[]))) (.int .i64 0)
theorem T3 : B0 PR 69 := A8 Tryz.func69 (by kernel_rfl) rfl
theorem A2p {X : Nat → Prop} {t0 t1 t2 t3 t4 : Value} {R : Value → WP} {w : World} (h : g9 X t0 t1 t2 t3 t4 R w) : Fn PR X 69 #[t0, t1, t2, t3, t4] w R := C7 (args := [t0, t1, t2, t3, t4]) mixed Tryz.func69 (by kernel_rfl) h
def U4 (X : Nat → Prop) (t0 : Value) (R : Value → WP) : WP :=
 jn (n := 1) (fun t2 =>
 B1 PR X (Instr.buildSlice 50 0 #[]) fun t5 =>
 B1 PR X (A7 .append #[50, 50] 50 [t5, t0]) fun t7 =>
 R t7) fun J1 =>
 A6 PR (n8 .eql 50 (.tmp 3) (.const (.slice none 0 0)) t0 (.slice none 0 0)) fun t4 =>
 B3 t4 (
 R (.slice none 0 0)) (
 J1 (.slice none 0 0))
theorem r8 : B0 PR 76 := A8 Tryz.func76 (by kernel_rfl) rfl
theorem u0 {X : Nat → Prop} {t0 : Value} {R : Value → WP} {w : World} (h : U4 X t0 R w) : Fn PR X 76 #[t0] w R := C7 (args := [t0]) mixed Tryz.func76 (by kernel_rfl) h
def W5 (X : Nat → Prop) (t0 : Value) (R : Value → WP) : WP :=
 jn (n := 1) (fun t2 =>
 B1 PR X (Instr.buildSlice 79 0 #[]) fun t5 =>
 B1 PR X (A7 .append #[79, 79] 79 [t5, t0]) fun t7 =>
 R t7) fun J1 =>
 A6 PR (n8 .eql 79 (.tmp 3) (.const (.slice none 0 0)) t0 (.slice none 0 0)) fun t4 =>
 B3 t4 (
 R (.slice none 0 0)) (
 J1 (.slice none 0 0))
theorem W3 : B0 PR 103 := A8 Tryz.func103 (by kernel_rfl) rfl
theorem A0Z {X : Nat → Prop} {t0 : Value} {R : Value → WP} {w : World} (h : W5 X t0 R w) : Fn PR X 103 #[t0] w R := C7 (args := [t0]) mixed Tryz.func103 (by kernel_rfl) h
def Y8 (X : Nat → Prop) (t0 t1 : Value) (R : Value → WP) : WP :=
 B2 PR X 161 [t0, t1] fun t7 =>
 A0 PR (binOp .geq 3 t7 (.int .i64 0)) fun t8 =>
 R t8
theorem A0T : B0 PR 132 := A8 Tryz.func132 (by kernel_rfl) rfl
theorem A07 {X : Nat → Prop} {t0 t1 : Value} {R : Value → WP} {w : World} (h : Y8 X t0 t1 R w) : Fn PR X 132 #[t0, t1] w R := C7 (args := [t0, t1]) mixed Tryz.func132 (by kernel_rfl) h
def S3 (X : Nat → Prop) (t0 t1 : Value) (R : Value → WP) : WP :=
 jn (n := 2) (fun t4 t8 =>
 R (.int .i64 (-1))) fun J1 =>
 A0 PR (A7 .len #[50] 0 [t0]) fun t7 =>
 lp (n := 2) (fun L2 t4_1 t8_1 =>
 A0 PR (binOp .lss 3 t8_1 t7) fun t9 =>
 jn (n := 0) (
 jn (n := 1) (fun t4_2 =>
 A0 PR (binOp .add 3 t8_1 (.int .i64 1)) fun t18 =>
 L2 t4_2 t18) fun J3 =>
 A0 PR (Instr.indexAt 50 t0 t8_1) fun t14 =>
 A6 PR (Instr.loadAt 129 t14) fun t15 =>
 J0 PR X t1 [t15] fun t16 =>
 B3 t16 (
 R t8_1) (
 J3 t4_1)) fun J4 =>
 B3 t9 (
 J4) (
 J1 t4_1 t8_1)) (.int .i64 0) (.int .i64 0)
theorem l0 : B0 PR 154 := A8 Tryz.func154 (by kernel_rfl) rfl
theorem l7 {X : Nat → Prop} {t0 t1 : Value} {R : Value → WP} {w : World} (h : S3 X t0 t1 R w) : Fn PR X 154 #[t0, t1] w R := C7 (args := [t0, t1]) mixed Tryz.func154 (by kernel_rfl) h
def Z7 (X : Nat → Prop) (t0 t1 : Value) (R : Value → WP) : WP :=
 B2 PR X 172 [t0] fun t7 =>
 B2 PR X 173 [t7, t1] fun t10 =>
 R t7
theorem A06 : B0 PR 157 := A8 Tryz.func157 (by kernel_rfl) rfl
theorem A1Y {X : Nat → Prop} {t0 t1 : Value} {R : Value → WP} {w : World} (h : Z7 X t0 t1 R w) : Fn PR X 157 #[t0, t1] w R := C7 (args := [t0, t1]) mixed Tryz.func157 (by kernel_rfl) h
def f8 (X : Nat → Prop) (t0 t1 : Value) (R : Value → WP) : WP :=
 jn (n := 2) (fun t4 t8 =>
 R (.int .i64 (-1))) fun J1 =>
 A0 PR (A7 .len #[207] 0 [t0]) fun t7 =>
 lp (n := 2) (fun L2 t4_1 t8_1 =>
 A0 PR (binOp .lss 3 t8_1 t7) fun t9 =>
 jn (n := 0) (
 jn (n := 1) (fun t4_2 =>
 A0 PR (binOp .add 3 t8_1 (.int .i64 1)) fun t18 =>
 L2 t4_2 t18) fun J3 =>
 A0 PR (Instr.indexAt 207 t0 t8_1) fun t14 =>
 A6 PR (Instr.loadAt 164 t14) fun t15 =>
 J0 PR X t1 [t15] fun t16 =>
 B3 t16 (
 R t8_1) (
 J3 t4_1)) fun J4 =>
 B3 t9 (
 J4) (
 J1 t4_1 t8_1)) (.int .i64 0) (.int .i64 0)
theorem A1z : B0 PR 161 := A8 Tryz.func161 (by kernel_rfl) rfl
theorem A2P {X : Nat → Prop} {t0 t1 : Value} {R : Value → WP} {w : World} (h : f8 X t0 t1 R w) : Fn PR X 161 #[t0, t1] w R := C7 (args := [t0, t1]) mixed Tryz.func161 (by kernel_rfl) h
def A70 (X : Nat → Prop) (t0 t1 : Value) (R : Value → WP) : WP :=
 jn (n := 2) (fun t5 t6 =>
 R t5) fun J1 =>
 lp (n := 2) (fun L2 t5_1 t6_1 =>
 jn (n := 0) (
 A0 PR (binOp .add 3 t5_1 t6_1) fun t14 =>
 A0 PR (convert 3 104 t14) fun t15 =>
 A0 PR (binOp .shr 104 t15 (.int .u64 1)) fun t16 =>
 A0 PR (convert 104 3 t16) fun t17 =>
 J0 PR X t1 [t17] fun t20 =>
 A0 PR (Op.unary .not t20) fun t21 =>
 B3 t21 (
 A0 PR (binOp .add 3 t17 (.int .i64 1)) fun t23 =>
 L2 t23 t6_1) (
 L2 t5_1 t17)) fun J3 =>
 A0 PR (binOp .lss 3 t5_1 t6_1) fun t11 =>
 B3 t11 (
 J3) (
 J1 t5_1 t6_1)) (.int .i64 0) t0
theorem B3l : B0 PR 170 := A8 Tryz.func170 (by kernel_rfl) rfl
theorem B4Z {X : Nat → Prop} {t0 t1 : Value} {R : Value → WP} {w : World} (h : A70 X t0 t1 R w) : Fn PR X 170 #[t0, t1] w R := C7 (args := [t0, t1]) mixed Tryz.func170 (by kernel_rfl) h
def j3 (X : Nat → Prop) (t0 : Value) (R : Value → WP) : WP :=
 B2 PR X 179 [(.slice none 0 0), t0] fun t4 =>
 R t4
theorem A2Q : B0 PR 172 := A8 Tryz.func172 (by kernel_rfl) rfl
theorem A2e {X : Nat → Prop} {t0 : Value} {R : Value → WP} {w : World} (h : j3 X t0 R w) : Fn PR X 172 #[t0] w R := C7 (args := [t0]) mixed Tryz.func172 (by kernel_rfl) h
theorem j9 : B0 PR 173 := A8 Tryz.func173 (by kernel_rfl) rfl
def A9S (X : Nat → Prop) (t0 : Value) (R : Value → WP) : WP :=
 jn (n := 2) (fun t2 t8 =>
 R (.int .i64 0)) fun J1 =>
 A0 PR (A7 .len #[35] 0 [t0]) fun t7 =>
 lp (n := 2) (fun L2 t2_1 t8_1 =>
 A0 PR (binOp .lss 3 t8_1 t7) fun t9 =>
 jn (n := 0) (
 jn (n := 1) (fun t2_2 =>
 A0 PR (binOp .add 3 t8_1 (.int .i64 1)) fun t16 =>
 L2 t2_2 t16) fun J3 =>
 A0 PR (Instr.indexAt 35 t0 t8_1) fun t10 =>
 A6 PR (Instr.loadAt 3 t10) fun t11 =>
 A0 PR (binOp .neq 3 t11 (.int .i64 0)) fun t14 =>
 B3 t14 (
 R t11) (
 J3 t2_1)) fun J4 =>
 B3 t9 (
 J4) (
 J1 t2_1 t8_1)) (.int .i64 0) (.int .i64 0)
theorem B4b : B0 PR 176 := A8 Tryz.func176 (by kernel_rfl) rfl
theorem B57 {X : Nat → Prop} {t0 : Value} {R : Value → WP} {w : World} (h : A9S X t0 R w) : Fn PR X 176 #[t0] w R := C7 (args := [t0]) mixed Tryz.func176 (by kernel_rfl) h
theorem B8H {X : Nat → Prop} {t0 : Value} {K : Value → WP} {w : World} (h : Fn PR X 176 #[t0] w K) : B2 PR X 176 [t0] K w := Or.inl ⟨B4b, h⟩
def A2E (X : Nat → Prop) (t0 t1 : Value) (R : Value → WP) : WP :=
 B2 PR X 182 [t0] fun t8 =>
 B2 PR X 182 [t1] fun t10 =>
 jn (n := 1) (fun t4 =>
 jn (n := 1) (fun t4_1 =>
 jn (n := 1) (fun t4_2 =>
 jn (n := 1) (fun t4_3 =>
 R (.int .i64 0)) fun J1 =>
 A0 PR (binOp .gtr 122 t0 t1) fun t19 =>
 B3 t19 (
 R (.int .i64 1)) (
 J1 t4_2)) fun J2 =>
 A0 PR (binOp .lss 122 t0 t1) fun t16 =>
 B3 t16 (
 R (.int .i64 (-1))) (
 J2 t4_1)) fun J3 =>
 B3 t10 (
 R (.int .i64 1)) (
 J3 t4)) fun J4 =>
 B3 t8 (
 jn (n := 1) (fun t4_4 =>
 R (.int .i64 (-1))) fun J5 =>
 B3 t10 (
 R (.int .i64 0)) (
 J5 (.int .i64 0))) (
 J4 (.int .i64 0))
theorem A7W : B0 PR 177 := A8 Tryz.func177 (by kernel_rfl) rfl
theorem A8H {X : Nat → Prop} {t0 t1 : Value} {R : Value → WP} {w : World} (h : A2E X t0 t1 R w) : Fn PR X 177 #[t0, t1] w R := C7 (args := [t0, t1]) mixed Tryz.func177 (by kernel_rfl) h
theorem A9G {X : Nat → Prop} {t0 t1 : Value} {K : Value → WP} {w : World} (h : Fn PR X 177 #[t0, t1] w K) : B2 PR X 177 [t0, t1] K w := Or.inl ⟨A7W, h⟩
def Q7 (X : Nat → Prop) (t0 t1 : Value) (R : Value → WP) : WP :=
 B1 PR X (Instr.box 239 t0) fun t2 =>
 jn (n := 0) (
 A6 PR (Instr.loadAt 239 t2) fun t12 =>
 j8 (R t12)) fun J1 =>
 rng (N := 1) PR X (fun t7 K2 =>
 B1 PR (fun _ => False) (Instr.alloc 241 true (.tuple #[])) fun t5 =>
 B6 PR (fun _ => False) (Instr.storeAt 241 t5 t7) <|
 bgn <|
 A6 PR (Instr.loadAt 239 t2) fun t8 =>
 A6 PR (Instr.loadAt 241 t5) fun t9 =>
 B1 PR (fun _ => False) (Instr.buildSlice 239 1 #[(0, t9)]) fun t10 =>
 B1 PR (fun _ => False) (A7 .append #[239, 239] 239 [t8, t10]) fun t11 =>
 B6 PR (fun _ => False) (Instr.storeAt 239 t2 t11) <|
 K2 none) t1 (fun j => match j with | none => (J1) | some (.exit i) => (match Nat.beq i 0 with | true => (J1) | false => (G5)) | some .ret => (j8 (R (.slice none 0 0))) | some _ => G5)
theorem f9 : B0 PR 179 := A8 Tryz.func179 (by kernel_rfl) rfl
theorem j5 {X : Nat → Prop} {t0 t1 : Value} {R : Value → WP} {w : World} (h : Q7 X t0 t1 R w) : Fn PR X 179 #[t0, t1] w R := C7 (args := [t0, t1]) mixed Tryz.func179 (by kernel_rfl) h
def A23 (X : Nat → Prop) (t0 : Value) (R : Value → WP) : WP :=
 A0 PR (binOp .neq 122 t0 t0) fun t5 =>
 R t5
theorem A8y : B0 PR 182 := A8 Tryz.func182 (by kernel_rfl) rfl
theorem A9n {X : Nat → Prop} {t0 : Value} {R : Value → WP} {w : World} (h : A23 X t0 R w) : Fn PR X 182 #[t0] w R := C7 (args := [t0]) mixed Tryz.func182 (by kernel_rfl) h
theorem A3l {X : Nat → Prop} {t0 : Value} {K : Value → WP} {w : World} (h : Fn PR X 182 #[t0] w K) : B2 PR X 182 [t0] K w := Or.inl ⟨A8y, h⟩
theorem A3x : B0 PR 219 := A8 Tryz.func219 (by kernel_rfl) rfl
end Go.Proofs.YtlplkjgcfjdinaaGreat
namespace Go.Proofs.YtlplkjgcfjdinaaGreat
open Go
def B0m (X : Nat → Prop) (t0 t1 : Value) (R : Value → WP) : WP :=
 B1 PR X (Instr.box 122 t0) fun t2 =>
 jn (n := 1) (fun t4 =>
 B1 PR X (Instr.makeSlice 160 t1 t1) fun t15 =>
 B1 PR X (Instr.alloc 160 true (.tuple #[])) fun t5 =>
 B6 PR X (Instr.storeAt 160 t5 t15) <|
 jn (n := 0) (
 A6 PR (Instr.loadAt 160 t5) fun t27 =>
 A6 PR (convert 160 9 t27) fun t28 =>
 j8 (R t28)) fun J1 =>
 B2 PR X 122 [t1] fun t17 =>
 rng (N := 2) PR X (fun t18 t19 K2 =>
 bgn <|
 A6 PR (Instr.loadAt 160 t5) fun t20 =>
 A6 PR (Instr.loadAt 122 t2) fun t22 =>
 A0 PR (binOp .shr 122 t22 t19) fun t24 =>
 A0 PR (convert 122 5 t24) fun t25 =>
 A0 PR (Instr.indexAt 160 t20 t18) fun t26 =>
 B6 PR (fun _ => False) (Instr.storeAt 5 t26 t25) <|
 K2 none) t17 (fun j => match j with | none => (J1) | some (.exit i) => (match Nat.beq i 0 with | true => (J1) | false => (G5)) | some .ret => (j8 (R t4)) | some _ => G5)) fun J3 =>
 A0 PR (binOp .lss 3 t1 (.int .i64 1)) fun t9 =>
 gj t9 false (fun J => J t1) fun t11 =>
 gj t9 false (fun J => A0 PR (binOp .gtr 3 t11 (.int .i64 8)) J) fun t12 =>
 A0 PR (do pure (if ← asBool t9 then (.bool true) else t12)) fun t13 =>
 B3 t13 (
 j8 (R (.string (ByteArray.mk #[])))) (
 J3 (.string (ByteArray.mk #[])))
theorem M9 : B0 PR 95 := A8 Tryz.func95 (by kernel_rfl) rfl
theorem B7e {X : Nat → Prop} {t0 t1 : Value} {R : Value → WP} {w : World} (h : B0m X t0 t1 R w) : Fn PR X 95 #[t0, t1] w R := C7 (args := [t0, t1]) mixed Tryz.func95 (by kernel_rfl) h
def B0v (X : Nat → Prop) (t0 t1 t2 : Value) (R : Value → WP) : WP :=
 B1 PR X (Instr.box 9 t0) fun t3 =>
 B1 PR X (Instr.box 3 t1) fun t4 =>
 jn (n := 2) (fun t6 t7 =>
 B1 PR X (Instr.alloc 122 true (.tuple #[])) fun t8 =>
 jn (n := 0) (
 A6 PR (Instr.loadAt 122 t8) fun t43 =>
 j8 (R (.tuple #[t43, (.bool true)]))) fun J1 =>
 B2 PR X 122 [t2] fun t30 =>
 rng (N := 2) PR X (fun t31 t32 K2 =>
 bgn <|
 drw <|
 A6 PR (Instr.loadAt 122 t8) fun t33 =>
 A6 PR (Instr.loadAt 9 t3) fun t34 =>
 A6 PR (Instr.loadAt 3 t4) fun t35 =>
 A0 PR (binOp .add 3 t35 t31) fun t37 =>
 A0 PR (Instr.index 9 t34 t37) fun t38 =>
 A0 PR (convert 5 122 t38) fun t39 =>
 A0 PR (binOp .shl 122 t39 t32) fun t41 =>
 A0 PR (binOp .or 122 t33 t41) fun t42 =>
 B6 PR (fun _ => False) (Instr.storeAt 122 t8 t42) <|
 K2 none) t30 (fun j => match j with | none => (J1) | some (.exit i) => (match Nat.beq i 0 with | true => (J1) | false => (G5)) | some .ret => (j8 (R (.tuple #[t6, t7]))) | some _ => G5)) fun J3 =>
 A0 PR (binOp .lss 3 t2 (.int .i64 1)) fun t12 =>
 gj t12 false (fun J => J t2) fun t14 =>
 gj t12 false (fun J => A0 PR (binOp .gtr 3 t14 (.int .i64 8)) J) fun t15 =>
 A0 PR (do pure (if ← asBool t12 then (.bool true) else t15)) fun t16 =>
 gj t16 false (fun J => A6 PR (Instr.loadAt 3 t4) J) fun t18 =>
 gj t16 false (fun J => A0 PR (binOp .lss 3 t18 (.int .i64 0)) J) fun t19 =>
 A0 PR (do pure (if ← asBool t16 then (.bool true) else t19)) fun t20 =>
 gj t20 false (fun J => A6 PR (Instr.loadAt 3 t4) J) fun t22 =>
 gj t20 false (fun J => A6 PR (Instr.loadAt 9 t3) J) fun t23 =>
 gj t20 false (fun J => A0 PR (A7 .len #[9] 0 [t23]) J) fun t24 =>
 gj t20 false (fun J => J t2) fun t25 =>
 gj t20 false (fun J => A0 PR (binOp .sub 3 t24 t25) J) fun t26 =>
 gj t20 false (fun J => A0 PR (binOp .gtr 3 t22 t26) J) fun t27 =>
 A0 PR (do pure (if ← asBool t20 then (.bool true) else t27)) fun t28 =>
 B3 t28 (
 j8 (R (.tuple #[(.int .u64 0), (.bool false)]))) (
 J3 (.int .u64 0) (.bool false))
theorem U5 : B0 PR 120 := A8 Tryz.func120 (by kernel_rfl) rfl
theorem B7p {X : Nat → Prop} {t0 t1 t2 : Value} {R : Value → WP} {w : World} (h : B0v X t0 t1 t2 R w) : Fn PR X 120 #[t0, t1, t2] w R := C7 (args := [t0, t1, t2]) mixed Tryz.func120 (by kernel_rfl) h
def A8S (X : Nat → Prop) (t0 : Value) (R : Value → WP) : WP :=
 B1 PR X (Instr.box 3 t0) fun t1 =>
 A0 PR (Instr.makeFunc (.func 150) #[] #[t1]) fun t3 =>
 R t3
theorem A6A : B0 PR 122 := A8 Tryz.func122 (by kernel_rfl) rfl
theorem B4g {X : Nat → Prop} {t0 : Value} {R : Value → WP} {w : World} (h : A8S X t0 R w) : Fn PR X 122 #[t0] w R := C7 (args := [t0]) mixed Tryz.func122 (by kernel_rfl) h
def A4F (X : Nat → Prop) (t0 t1 : Value) (R : Value → WP) : WP :=
 A6 PR (Instr.loadAt 3 t1) fun t4 =>
 lp (n := 1) (fun L1 t5 =>
 A0 PR (binOp .lss 3 t5 t4) fun t6 =>
 jn (n := 0) (
 jn (n := 0) (
 A0 PR (binOp .add 3 t5 (.int .i64 1)) fun t18 =>
 L1 t18) fun J2 =>
 A6 PR (Instr.loadAt 3 t1) fun t10 =>
 A0 PR (binOp .sub 3 t10 (.int .i64 1)) fun t11 =>
 A0 PR (binOp .sub 3 t11 t5) fun t13 =>
 A0 PR (binOp .mul 3 (.int .i64 8) t13) fun t14 =>
 A0 PR (convert 3 104 t14) fun t15 =>
 J0 PR X t0 [t5, t15] fun t16 =>
 A0 PR (Op.unary .not t16) fun t17 =>
 B3 t17 (
 R (.tuple #[])) (
 J2)) fun J3 =>
 B3 t6 (
 J3) (
 R (.tuple #[]))) (.int .i64 0)
theorem A93 : B0 PR 150 := A8 Tryz.func150 (by kernel_rfl) rfl
theorem B1S {X : Nat → Prop} {t0 t1 : Value} {R : Value → WP} {w : World} (h : A4F X t0 t1 R w) : Fn PR X 150 #[t0, t1] w R := C7 (args := [t0, t1]) mixed Tryz.func150 (by kernel_rfl) h
theorem B1Z {X : Nat → Prop} {t0 t1 : Value} {K : Value → WP} {w : World} (h : Fn PR X 150 #[t0, t1] w K) : A12 PR X 150 [t0, t1] K w := ⟨A93, h⟩
end Go.Proofs.YtlplkjgcfjdinaaGreat
namespace Go.Proofs.YtlplkjgcfjdinaaGreat
open Go
theorem C0F : TI PR 106 Tryz.t106.desc 4 32 (.agg #[.nilFunc, .nilFunc, .nilFunc, .nilFunc]) := ⟨Tryz.underlying106, Tryz.t106, by kernel_rfl, rfl, rfl, rfl⟩
theorem A2w : TI PR 108 Tryz.t107.desc 6 64 (.agg #[(.int .i64 0), (.string (ByteArray.mk #[])), (.string (ByteArray.mk #[])), (.int .i64 0), (.int .i64 0), (.int .i64 0)]) := ⟨Tryz.underlying108, Tryz.t108, by kernel_rfl, rfl, rfl, rfl⟩
theorem B2w : TI PR 110 Tryz.t109.desc 7 72 (.agg #[(.int .i64 0), (.string (ByteArray.mk #[])), (.string (ByteArray.mk #[])), (.int .i64 0), (.int .i64 0), (.int .i64 0), (.int .i64 0)]) := ⟨Tryz.underlying110, Tryz.t110, by kernel_rfl, rfl, rfl, rfl⟩
theorem A2c : TI PR 119 Tryz.t118.desc 4 40 (.agg #[(.int .i64 0), (.string (ByteArray.mk #[])), (.int .i64 0), (.int .i64 0)]) := ⟨Tryz.underlying119, Tryz.t119, by kernel_rfl, rfl, rfl, rfl⟩
theorem A6Q : TI PR 122 Tryz.t122.desc 1 8 (.int .u64 0) := ⟨Tryz.underlying122, Tryz.t122, by kernel_rfl, rfl, rfl, rfl⟩
theorem B1A : TI PR 129 Tryz.t128.desc 2 16 (.agg #[(.int .i64 0), (.int .i64 0)]) := ⟨Tryz.underlying129, Tryz.t129, by kernel_rfl, rfl, rfl, rfl⟩
theorem A6C : TI PR 137 Tryz.t136.desc 5 64 (.agg #[(.string (ByteArray.mk #[])), (.string (ByteArray.mk #[])), (.string (ByteArray.mk #[])), (.int .i64 0), (.int .i64 0)]) := ⟨Tryz.underlying137, Tryz.t137, by kernel_rfl, rfl, rfl, rfl⟩
theorem B09 : TI PR 140 Tryz.t139.desc 3 24 (.agg #[(.int .i64 0), (.int .i64 0), (.int .i64 0)]) := ⟨Tryz.underlying140, Tryz.t140, by kernel_rfl, rfl, rfl, rfl⟩
theorem A85 : TI PR 153 Tryz.t139.desc 3 24 (.agg #[(.int .i64 0), (.int .i64 0), (.int .i64 0)]) := ⟨Tryz.underlying153, Tryz.t153, by kernel_rfl, rfl, rfl, rfl⟩
theorem C00 : TI PR 159 Tryz.t159.desc 38 38 (.agg #[(.int .u8 0), (.int .u8 0), (.int .u8 0), (.int .u8 0), (.int .u8 0), (.int .u8 0), (.int .u8 0), (.int .u8 0), (.int .u8 0), (.int .u8 0), (.int .u8 0), (.int .u8 0), (.int .u8 0), (.int .u8 0), (.int .u8 0), (.int .u8 0), (.int .u8 0), (.int .u8 0), (.int .u8 0), (.int .u8 0), (.int .u8 0), (.int .u8 0), (.int .u8 0), (.int .u8 0), (.int .u8 0), (.int .u8 0), (.int .u8 0), (.int .u8 0), (.int .u8 0), (.int .u8 0), (.int .u8 0), (.int .u8 0), (.int .u8 0), (.int .u8 0), (.int .u8 0), (.int .u8 0), (.int .u8 0), (.int .u8 0)]) := ⟨Tryz.underlying159, Tryz.t159, by kernel_rfl, rfl, rfl, rfl⟩
theorem B1D : TI PR 160 Tryz.t160.desc 1 24 (.slice none 0 0) := ⟨Tryz.underlying160, Tryz.t160, by kernel_rfl, rfl, rfl, rfl⟩
theorem C8N : TI PR 165 Tryz.t165.desc 1 8 .nilFunc := ⟨Tryz.underlying165, Tryz.t165, by kernel_rfl, rfl, rfl, rfl⟩
theorem B05 : TI PR 172 Tryz.t171.desc 3 40 (.agg #[(.string (ByteArray.mk #[])), (.string (ByteArray.mk #[])), (.int .i64 0)]) := ⟨Tryz.underlying172, Tryz.t172, by kernel_rfl, rfl, rfl, rfl⟩
theorem B1P : TI PR 175 Tryz.t171.desc 3 40 (.agg #[(.string (ByteArray.mk #[])), (.string (ByteArray.mk #[])), (.int .i64 0)]) := ⟨Tryz.underlying175, Tryz.t175, by kernel_rfl, rfl, rfl, rfl⟩
theorem B1L : TI PR 184 Tryz.t171.desc 3 40 (.agg #[(.string (ByteArray.mk #[])), (.string (ByteArray.mk #[])), (.int .i64 0)]) := ⟨Tryz.underlying184, Tryz.t184, by kernel_rfl, rfl, rfl, rfl⟩
theorem B04 : TI PR 188 Tryz.t171.desc 3 40 (.agg #[(.string (ByteArray.mk #[])), (.string (ByteArray.mk #[])), (.int .i64 0)]) := ⟨Tryz.underlying188, Tryz.t188, by kernel_rfl, rfl, rfl, rfl⟩
theorem B91 : TI PR 205 Tryz.t79.desc 1 24 (.slice none 0 0) := ⟨Tryz.underlying205, Tryz.t205, by kernel_rfl, rfl, rfl, rfl⟩
theorem B1N : TI PR 219 Tryz.t218.desc 2 16 (.agg #[.nilFunc, (.int .i64 0)]) := ⟨Tryz.underlying219, Tryz.t219, by kernel_rfl, rfl, rfl, rfl⟩
theorem C82 : TI PR 227 Tryz.t227.desc 1 8 .nilFunc := ⟨Tryz.underlying227, Tryz.t227, by kernel_rfl, rfl, rfl, rfl⟩
theorem C5F : TI PR 229 Tryz.t122.desc 1 8 (.int .u64 0) := ⟨Tryz.underlying229, Tryz.t229, by kernel_rfl, rfl, rfl, rfl⟩
theorem A5L : TI PR 23 Tryz.t22.desc 5 40 (.agg #[(.int .i64 0), (.int .i64 0), (.int .i64 0), (.int .i64 0), (.int .i64 0)]) := ⟨Tryz.underlying23, Tryz.t23, by kernel_rfl, rfl, rfl, rfl⟩
theorem A8n : TI PR 241 Tryz.t178.desc 2 16 (.agg #[(.int .u64 0), (.int .i64 0)]) := ⟨Tryz.underlying241, Tryz.t241, by kernel_rfl, rfl, rfl, rfl⟩
theorem G3 : TI PR 3 Tryz.t3.desc 1 8 (.int .i64 0) := ⟨Tryz.underlying3, Tryz.t3, by kernel_rfl, rfl, rfl, rfl⟩
theorem B0u : TI PR 42 Tryz.t3.desc 1 8 (.int .i64 0) := ⟨Tryz.underlying42, Tryz.t42, by kernel_rfl, rfl, rfl, rfl⟩
theorem A3y : TI PR 44 Tryz.t43.desc 4 32 (.agg #[(.int .i64 0), (.int .i64 0), (.bool false), (.int .i64 0)]) := ⟨Tryz.underlying44, Tryz.t44, by kernel_rfl, rfl, rfl, rfl⟩
theorem A7H : TI PR 46 Tryz.t45.desc 10 80 (.agg #[(.int .i64 0), (.int .i64 0), (.int .i64 0), (.int .i64 0), (.int .i64 0), (.int .i64 0), (.int .i64 0), (.int .i64 0), (.bool false), (.int .i64 0)]) := ⟨Tryz.underlying46, Tryz.t46, by kernel_rfl, rfl, rfl, rfl⟩
theorem A3C : TI PR 47 Tryz.t45.desc 10 80 (.agg #[(.int .i64 0), (.int .i64 0), (.int .i64 0), (.int .i64 0), (.int .i64 0), (.int .i64 0), (.int .i64 0), (.int .i64 0), (.bool false), (.int .i64 0)]) := ⟨Tryz.underlying47, Tryz.t47, by kernel_rfl, rfl, rfl, rfl⟩
theorem D2w : TI PR 57 Tryz.t57.desc 1 8 .nilFunc := ⟨Tryz.underlying57, Tryz.t57, by kernel_rfl, rfl, rfl, rfl⟩
theorem B4j : TI PR 68 Tryz.t67.desc 8 112 (.agg #[(.int .i64 0), (.int .i64 0), (.int .i64 0), (.int .i64 0), (.int .i64 0), (.slice none 0 0), (.slice none 0 0), (.slice none 0 0)]) := ⟨Tryz.underlying68, Tryz.t68, by kernel_rfl, rfl, rfl, rfl⟩
theorem B0c : TI PR 79 Tryz.t79.desc 1 24 (.slice none 0 0) := ⟨Tryz.underlying79, Tryz.t79, by kernel_rfl, rfl, rfl, rfl⟩
theorem D14 : TI PR 85 Tryz.t85.desc 1 8 .nilFunc := ⟨Tryz.underlying85, Tryz.t85, by kernel_rfl, rfl, rfl, rfl⟩
theorem B2q : TI PR 95 Tryz.t94.desc 4 40 (.agg #[(.string (ByteArray.mk #[])), (.int .i64 0), (.bool false), (.int .i64 0)]) := ⟨Tryz.underlying95, Tryz.t95, by kernel_rfl, rfl, rfl, rfl⟩
theorem B2y : TI PR 147 Tryz.t147.desc 1 24 (.slice none 0 0) := ⟨Tryz.underlying147, Tryz.t147, by kernel_rfl, rfl, rfl, rfl⟩
theorem A4V : TI PR 179 Tryz.t178.desc 2 16 (.agg #[(.int .u64 0), (.int .i64 0)]) := ⟨Tryz.underlying179, Tryz.t179, by kernel_rfl, rfl, rfl, rfl⟩
theorem C5a : TI PR 221 Tryz.t221.desc 1 24 (.slice none 0 0) := ⟨Tryz.underlying221, Tryz.t221, by kernel_rfl, rfl, rfl, rfl⟩
theorem p9 : TI PR 9 Tryz.t9.desc 1 16 (.string (ByteArray.mk #[])) := ⟨Tryz.underlying9, Tryz.t9, by kernel_rfl, rfl, rfl, rfl⟩
theorem B6Y : TI PR 239 Tryz.t239.desc 1 24 (.slice none 0 0) := ⟨Tryz.underlying239, Tryz.t239, by kernel_rfl, rfl, rfl, rfl⟩
theorem C01 : TI PR 32 Tryz.t32.desc 1 24 (.slice none 0 0) := ⟨Tryz.underlying32, Tryz.t32, by kernel_rfl, rfl, rfl, rfl⟩
theorem B4A : TI PR 35 Tryz.t35.desc 1 24 (.slice none 0 0) := ⟨Tryz.underlying35, Tryz.t35, by kernel_rfl, rfl, rfl, rfl⟩
theorem B0y : TI PR 50 Tryz.t50.desc 1 24 (.slice none 0 0) := ⟨Tryz.underlying50, Tryz.t50, by kernel_rfl, rfl, rfl, rfl⟩
theorem B63 : TI PR 66 Tryz.t66.desc 1 24 (.slice none 0 0) := ⟨Tryz.underlying66, Tryz.t66, by kernel_rfl, rfl, rfl, rfl⟩
@[simp] theorem D1F  (K : Value → WP) : A0 PR (Instr.build 108 #[]) K = K (.agg #[(.int .i64 0), (.string (ByteArray.mk #[])), (.string (ByteArray.mk #[])), (.int .i64 0), (.int .i64 0), (.int .i64 0)]) := F1 (pl := #[(0, 1), (1, 1), (2, 1), (3, 1), (4, 1), (5, 1)]) A2w (fun w => by kernel_rfl) rfl
@[simp] theorem C0U {v0 v1 v2 v3 v4 v5 : Value} (h0 : v0.cells.size = 1) (h1 : v1.cells.size = 1) (h2 : v2.cells.size = 1) (h3 : v3.cells.size = 1) (h4 : v4.cells.size = 1) (h5 : v5.cells.size = 1) (K : Value → WP) : A0 PR (Instr.build 108 #[(0, v0), (1, v1), (2, v2), (3, v3), (4, v4), (5, v5)]) K = K (.agg (D8 (D8 (D8 (D8 (D8 (D8 #[(.int .i64 0), (.string (ByteArray.mk #[])), (.string (ByteArray.mk #[])), (.int .i64 0), (.int .i64 0), (.int .i64 0)] 0 v0.cells.toList) 1 v1.cells.toList) 2 v2.cells.toList) 3 v3.cells.toList) 4 v4.cells.toList) 5 v5.cells.toList)) := F1 (pl := #[(0, 1), (1, 1), (2, 1), (3, 1), (4, 1), (5, 1)]) A2w (fun w => by kernel_rfl) (by rw [B5 rfl h0 (by simp [B9]), B5 rfl h1 (by simp [B9]), B5 rfl h2 (by simp [B9]), B5 rfl h3 (by simp [B9]), B5 rfl h4 (by simp [B9]), B5 rfl h5 (by simp [B9])]; rfl)
@[simp] theorem C31 {v0 v1 v2 v3 : Value} (h0 : v0.cells.size = 1) (h1 : v1.cells.size = 1) (h2 : v2.cells.size = 1) (h3 : v3.cells.size = 1) (K : Value → WP) : A0 PR (Instr.build 108 #[(0, v0), (1, v1), (2, v2), (5, v3)]) K = K (.agg (D8 (D8 (D8 (D8 #[(.int .i64 0), (.string (ByteArray.mk #[])), (.string (ByteArray.mk #[])), (.int .i64 0), (.int .i64 0), (.int .i64 0)] 0 v0.cells.toList) 1 v1.cells.toList) 2 v2.cells.toList) 5 v3.cells.toList)) := F1 (pl := #[(0, 1), (1, 1), (2, 1), (3, 1), (4, 1), (5, 1)]) A2w (fun w => by kernel_rfl) (by rw [B5 rfl h0 (by simp [B9]), B5 rfl h1 (by simp [B9]), B5 rfl h2 (by simp [B9]), B5 rfl h3 (by simp [B9])]; rfl)
@[simp] theorem D1Q  (K : Value → WP) : A0 PR (Instr.build 110 #[]) K = K (.agg #[(.int .i64 0), (.string (ByteArray.mk #[])), (.string (ByteArray.mk #[])), (.int .i64 0), (.int .i64 0), (.int .i64 0), (.int .i64 0)]) := F1 (pl := #[(0, 6), (6, 1)]) B2w (fun w => by kernel_rfl) rfl
@[simp] theorem C75 {v0 v1 : Value} (h0 : v0.cells.size = 6) (h1 : v1.cells.size = 1) (K : Value → WP) : A0 PR (Instr.build 110 #[(0, v0), (1, v1)]) K = K (.agg (D8 (D8 #[(.int .i64 0), (.string (ByteArray.mk #[])), (.string (ByteArray.mk #[])), (.int .i64 0), (.int .i64 0), (.int .i64 0), (.int .i64 0)] 0 v0.cells.toList) 6 v1.cells.toList)) := F1 (pl := #[(0, 6), (6, 1)]) B2w (fun w => by kernel_rfl) (by rw [B5 rfl h0 (by simp [B9]), B5 rfl h1 (by simp [B9])]; rfl)
@[simp] theorem C33 {v0 v1 v2 v3 : Value} (h0 : v0.cells.size = 1) (h1 : v1.cells.size = 1) (h2 : v2.cells.size = 1) (h3 : v3.cells.size = 1) (K : Value → WP) : A0 PR (Instr.build 119 #[(0, v0), (1, v1), (2, v2), (3, v3)]) K = K (.agg (D8 (D8 (D8 (D8 #[(.int .i64 0), (.string (ByteArray.mk #[])), (.int .i64 0), (.int .i64 0)] 0 v0.cells.toList) 1 v1.cells.toList) 2 v2.cells.toList) 3 v3.cells.toList)) := F1 (pl := #[(0, 1), (1, 1), (2, 1), (3, 1)]) A2c (fun w => by kernel_rfl) (by rw [B5 rfl h0 (by simp [B9]), B5 rfl h1 (by simp [B9]), B5 rfl h2 (by simp [B9]), B5 rfl h3 (by simp [B9])]; rfl)
@[simp] theorem C8V {v0 : Value} (h0 : v0.cells.size = 1) (K : Value → WP) : A0 PR (Instr.build 119 #[(0, v0)]) K = K (.agg (D8 #[(.int .i64 0), (.string (ByteArray.mk #[])), (.int .i64 0), (.int .i64 0)] 0 v0.cells.toList)) := F1 (pl := #[(0, 1), (1, 1), (2, 1), (3, 1)]) A2c (fun w => by kernel_rfl) (by rw [B5 rfl h0 (by simp [B9])]; rfl)
@[simp] theorem C18 {v0 v1 v2 v3 v4 : Value} (h0 : v0.cells.size = 1) (h1 : v1.cells.size = 1) (h2 : v2.cells.size = 1) (h3 : v3.cells.size = 1) (h4 : v4.cells.size = 1) (K : Value → WP) : A0 PR (Instr.build 137 #[(0, v0), (1, v1), (2, v2), (3, v3), (4, v4)]) K = K (.agg (D8 (D8 (D8 (D8 (D8 #[(.string (ByteArray.mk #[])), (.string (ByteArray.mk #[])), (.string (ByteArray.mk #[])), (.int .i64 0), (.int .i64 0)] 0 v0.cells.toList) 1 v1.cells.toList) 2 v2.cells.toList) 3 v3.cells.toList) 4 v4.cells.toList)) := F1 (pl := #[(0, 1), (1, 1), (2, 1), (3, 1), (4, 1)]) A6C (fun w => by kernel_rfl) (by rw [B5 rfl h0 (by simp [B9]), B5 rfl h1 (by simp [B9]), B5 rfl h2 (by simp [B9]), B5 rfl h3 (by simp [B9]), B5 rfl h4 (by simp [B9])]; rfl)
@[simp] theorem C92 {v0 : Value} (h0 : v0.cells.size = 1) (K : Value → WP) : A0 PR (Instr.build 137 #[(4, v0)]) K = K (.agg (D8 #[(.string (ByteArray.mk #[])), (.string (ByteArray.mk #[])), (.string (ByteArray.mk #[])), (.int .i64 0), (.int .i64 0)] 4 v0.cells.toList)) := F1 (pl := #[(0, 1), (1, 1), (2, 1), (3, 1), (4, 1)]) A6C (fun w => by kernel_rfl) (by rw [B5 rfl h0 (by simp [B9])]; rfl)
@[simp] theorem D00  (K : Value → WP) : A0 PR (Instr.build 140 #[]) K = K (.agg #[(.int .i64 0), (.int .i64 0), (.int .i64 0)]) := F1 (pl := #[(0, 1), (1, 1), (2, 1)]) B09 (fun w => by kernel_rfl) rfl
@[simp] theorem C7G {v0 v1 : Value} (h0 : v0.cells.size = 1) (h1 : v1.cells.size = 1) (K : Value → WP) : A0 PR (Instr.build 140 #[(0, v0), (1, v1)]) K = K (.agg (D8 (D8 #[(.int .i64 0), (.int .i64 0), (.int .i64 0)] 0 v0.cells.toList) 1 v1.cells.toList)) := F1 (pl := #[(0, 1), (1, 1), (2, 1)]) B09 (fun w => by kernel_rfl) (by rw [B5 rfl h0 (by simp [B9]), B5 rfl h1 (by simp [B9])]; rfl)
@[simp] theorem D1s  (K : Value → WP) : A0 PR (Instr.build 153 #[]) K = K (.agg #[(.int .i64 0), (.int .i64 0), (.int .i64 0)]) := F1 (pl := #[(0, 1), (1, 1), (2, 1)]) A85 (fun w => by kernel_rfl) rfl
@[simp] theorem C61 {v0 v1 : Value} (h0 : v0.cells.size = 1) (h1 : v1.cells.size = 1) (K : Value → WP) : A0 PR (Instr.build 153 #[(0, v0), (1, v1)]) K = K (.agg (D8 (D8 #[(.int .i64 0), (.int .i64 0), (.int .i64 0)] 0 v0.cells.toList) 1 v1.cells.toList)) := F1 (pl := #[(0, 1), (1, 1), (2, 1)]) A85 (fun w => by kernel_rfl) (by rw [B5 rfl h0 (by simp [B9]), B5 rfl h1 (by simp [B9])]; rfl)
@[simp] theorem C6k {v0 v1 v2 : Value} (h0 : v0.cells.size = 1) (h1 : v1.cells.size = 1) (h2 : v2.cells.size = 1) (K : Value → WP) : A0 PR (Instr.build 153 #[(0, v0), (1, v1), (2, v2)]) K = K (.agg (D8 (D8 (D8 #[(.int .i64 0), (.int .i64 0), (.int .i64 0)] 0 v0.cells.toList) 1 v1.cells.toList) 2 v2.cells.toList)) := F1 (pl := #[(0, 1), (1, 1), (2, 1)]) A85 (fun w => by kernel_rfl) (by rw [B5 rfl h0 (by simp [B9]), B5 rfl h1 (by simp [B9]), B5 rfl h2 (by simp [B9])]; rfl)
theorem B33 : TI PR 164 Tryz.t164.desc 2 16 (.agg #[(.int .i64 0), (.int .i64 0)]) := ⟨Tryz.underlying164, Tryz.t164, by kernel_rfl, rfl, rfl, rfl⟩
@[simp] theorem D1d  (K : Value → WP) : A0 PR (Instr.build 172 #[]) K = K (.agg #[(.string (ByteArray.mk #[])), (.string (ByteArray.mk #[])), (.int .i64 0)]) := F1 (pl := #[(0, 1), (1, 1), (2, 1)]) B05 (fun w => by kernel_rfl) rfl
@[simp] theorem C6r {v0 v1 v2 : Value} (h0 : v0.cells.size = 1) (h1 : v1.cells.size = 1) (h2 : v2.cells.size = 1) (K : Value → WP) : A0 PR (Instr.build 172 #[(0, v0), (1, v1), (2, v2)]) K = K (.agg (D8 (D8 (D8 #[(.string (ByteArray.mk #[])), (.string (ByteArray.mk #[])), (.int .i64 0)] 0 v0.cells.toList) 1 v1.cells.toList) 2 v2.cells.toList)) := F1 (pl := #[(0, 1), (1, 1), (2, 1)]) B05 (fun w => by kernel_rfl) (by rw [B5 rfl h0 (by simp [B9]), B5 rfl h1 (by simp [B9]), B5 rfl h2 (by simp [B9])]; rfl)
@[simp] theorem D1J  (K : Value → WP) : A0 PR (Instr.build 175 #[]) K = K (.agg #[(.string (ByteArray.mk #[])), (.string (ByteArray.mk #[])), (.int .i64 0)]) := F1 (pl := #[(0, 1), (1, 1), (2, 1)]) B1P (fun w => by kernel_rfl) rfl
@[simp] theorem C57 {v0 v1 v2 : Value} (h0 : v0.cells.size = 1) (h1 : v1.cells.size = 1) (h2 : v2.cells.size = 1) (K : Value → WP) : A0 PR (Instr.build 175 #[(0, v0), (1, v1), (2, v2)]) K = K (.agg (D8 (D8 (D8 #[(.string (ByteArray.mk #[])), (.string (ByteArray.mk #[])), (.int .i64 0)] 0 v0.cells.toList) 1 v1.cells.toList) 2 v2.cells.toList)) := F1 (pl := #[(0, 1), (1, 1), (2, 1)]) B1P (fun w => by kernel_rfl) (by rw [B5 rfl h0 (by simp [B9]), B5 rfl h1 (by simp [B9]), B5 rfl h2 (by simp [B9])]; rfl)
@[simp] theorem C77 {v0 v1 : Value} (h0 : v0.cells.size = 1) (h1 : v1.cells.size = 1) (K : Value → WP) : A0 PR (Instr.build 179 #[(0, v0), (1, v1)]) K = K (.agg (D8 (D8 #[(.int .u64 0), (.int .i64 0)] 0 v0.cells.toList) 1 v1.cells.toList)) := F1 (pl := #[(0, 1), (1, 1)]) A4V (fun w => by kernel_rfl) (by rw [B5 rfl h0 (by simp [B9]), B5 rfl h1 (by simp [B9])]; rfl)
@[simp] theorem D01  (K : Value → WP) : A0 PR (Instr.build 184 #[]) K = K (.agg #[(.string (ByteArray.mk #[])), (.string (ByteArray.mk #[])), (.int .i64 0)]) := F1 (pl := #[(0, 1), (1, 1), (2, 1)]) B1L (fun w => by kernel_rfl) rfl
@[simp] theorem C6d {v0 v1 v2 : Value} (h0 : v0.cells.size = 1) (h1 : v1.cells.size = 1) (h2 : v2.cells.size = 1) (K : Value → WP) : A0 PR (Instr.build 184 #[(0, v0), (1, v1), (2, v2)]) K = K (.agg (D8 (D8 (D8 #[(.string (ByteArray.mk #[])), (.string (ByteArray.mk #[])), (.int .i64 0)] 0 v0.cells.toList) 1 v1.cells.toList) 2 v2.cells.toList)) := F1 (pl := #[(0, 1), (1, 1), (2, 1)]) B1L (fun w => by kernel_rfl) (by rw [B5 rfl h0 (by simp [B9]), B5 rfl h1 (by simp [B9]), B5 rfl h2 (by simp [B9])]; rfl)
@[simp] theorem D07  (K : Value → WP) : A0 PR (Instr.build 188 #[]) K = K (.agg #[(.string (ByteArray.mk #[])), (.string (ByteArray.mk #[])), (.int .i64 0)]) := F1 (pl := #[(0, 1), (1, 1), (2, 1)]) B04 (fun w => by kernel_rfl) rfl
@[simp] theorem C6N {v0 v1 v2 : Value} (h0 : v0.cells.size = 1) (h1 : v1.cells.size = 1) (h2 : v2.cells.size = 1) (K : Value → WP) : A0 PR (Instr.build 188 #[(0, v0), (1, v1), (2, v2)]) K = K (.agg (D8 (D8 (D8 #[(.string (ByteArray.mk #[])), (.string (ByteArray.mk #[])), (.int .i64 0)] 0 v0.cells.toList) 1 v1.cells.toList) 2 v2.cells.toList)) := F1 (pl := #[(0, 1), (1, 1), (2, 1)]) B04 (fun w => by kernel_rfl) (by rw [B5 rfl h0 (by simp [B9]), B5 rfl h1 (by simp [B9]), B5 rfl h2 (by simp [B9])]; rfl)
@[simp] theorem C7z {v0 v1 : Value} (h0 : v0.cells.size = 1) (h1 : v1.cells.size = 1) (K : Value → WP) : A0 PR (Instr.build 219 #[(0, v0), (1, v1)]) K = K (.agg (D8 (D8 #[.nilFunc, (.int .i64 0)] 0 v0.cells.toList) 1 v1.cells.toList)) := F1 (pl := #[(0, 1), (1, 1)]) B1N (fun w => by kernel_rfl) (by rw [B5 rfl h0 (by simp [B9]), B5 rfl h1 (by simp [B9])]; rfl)
theorem C5Y : TI PR 224 Tryz.t223.desc 0 0 (.agg #[]) := ⟨Tryz.underlying224, Tryz.t224, by kernel_rfl, rfl, rfl, rfl⟩
@[simp] theorem D1T  (K : Value → WP) : A0 PR (Instr.build 224 #[]) K = K (.agg #[]) := F1 (pl := #[]) C5Y (fun w => by kernel_rfl) rfl
theorem C5S : TI PR 225 Tryz.t223.desc 0 0 (.agg #[]) := ⟨Tryz.underlying225, Tryz.t225, by kernel_rfl, rfl, rfl, rfl⟩
@[simp] theorem D1k  (K : Value → WP) : A0 PR (Instr.build 225 #[]) K = K (.agg #[]) := F1 (pl := #[]) C5S (fun w => by kernel_rfl) rfl
@[simp] theorem C3J {v0 v1 v2 v3 v4 : Value} (h0 : v0.cells.size = 1) (h1 : v1.cells.size = 1) (h2 : v2.cells.size = 1) (h3 : v3.cells.size = 1) (h4 : v4.cells.size = 1) (K : Value → WP) : A0 PR (Instr.build 23 #[(0, v0), (1, v1), (2, v2), (3, v3), (4, v4)]) K = K (.agg (D8 (D8 (D8 (D8 (D8 #[(.int .i64 0), (.int .i64 0), (.int .i64 0), (.int .i64 0), (.int .i64 0)] 0 v0.cells.toList) 1 v1.cells.toList) 2 v2.cells.toList) 3 v3.cells.toList) 4 v4.cells.toList)) := F1 (pl := #[(0, 1), (1, 1), (2, 1), (3, 1), (4, 1)]) A5L (fun w => by kernel_rfl) (by rw [B5 rfl h0 (by simp [B9]), B5 rfl h1 (by simp [B9]), B5 rfl h2 (by simp [B9]), B5 rfl h3 (by simp [B9]), B5 rfl h4 (by simp [B9])]; rfl)
@[simp] theorem C76 {v0 v1 : Value} (h0 : v0.cells.size = 1) (h1 : v1.cells.size = 1) (K : Value → WP) : A0 PR (Instr.build 241 #[(0, v0), (1, v1)]) K = K (.agg (D8 (D8 #[(.int .u64 0), (.int .i64 0)] 0 v0.cells.toList) 1 v1.cells.toList)) := F1 (pl := #[(0, 1), (1, 1)]) A8n (fun w => by kernel_rfl) (by rw [B5 rfl h0 (by simp [B9]), B5 rfl h1 (by simp [B9])]; rfl)
@[simp] theorem D2J  (K : Value → WP) : A0 PR (Instr.build 44 #[]) K = K (.agg #[(.int .i64 0), (.int .i64 0), (.bool false), (.int .i64 0)]) := F1 (pl := #[(0, 1), (1, 1), (2, 1), (3, 1)]) A3y (fun w => by kernel_rfl) rfl
@[simp] theorem D0J {v0 : Value} (h0 : v0.cells.size = 1) (K : Value → WP) : A0 PR (Instr.build 44 #[(0, v0)]) K = K (.agg (D8 #[(.int .i64 0), (.int .i64 0), (.bool false), (.int .i64 0)] 0 v0.cells.toList)) := F1 (pl := #[(0, 1), (1, 1), (2, 1), (3, 1)]) A3y (fun w => by kernel_rfl) (by rw [B5 rfl h0 (by simp [B9])]; rfl)
@[simp] theorem C8C {v0 v1 : Value} (h0 : v0.cells.size = 1) (h1 : v1.cells.size = 1) (K : Value → WP) : A0 PR (Instr.build 44 #[(1, v0), (2, v1)]) K = K (.agg (D8 (D8 #[(.int .i64 0), (.int .i64 0), (.bool false), (.int .i64 0)] 1 v0.cells.toList) 2 v1.cells.toList)) := F1 (pl := #[(0, 1), (1, 1), (2, 1), (3, 1)]) A3y (fun w => by kernel_rfl) (by rw [B5 rfl h0 (by simp [B9]), B5 rfl h1 (by simp [B9])]; rfl)
@[simp] theorem D08 {v0 : Value} (h0 : v0.cells.size = 1) (K : Value → WP) : A0 PR (Instr.build 44 #[(1, v0)]) K = K (.agg (D8 #[(.int .i64 0), (.int .i64 0), (.bool false), (.int .i64 0)] 1 v0.cells.toList)) := F1 (pl := #[(0, 1), (1, 1), (2, 1), (3, 1)]) A3y (fun w => by kernel_rfl) (by rw [B5 rfl h0 (by simp [B9])]; rfl)
@[simp] theorem D1N {v0 : Value} (h0 : v0.cells.size = 1) (K : Value → WP) : A0 PR (Instr.build 44 #[(3, v0)]) K = K (.agg (D8 #[(.int .i64 0), (.int .i64 0), (.bool false), (.int .i64 0)] 3 v0.cells.toList)) := F1 (pl := #[(0, 1), (1, 1), (2, 1), (3, 1)]) A3y (fun w => by kernel_rfl) (by rw [B5 rfl h0 (by simp [B9])]; rfl)
@[simp] theorem C6w {v0 v1 v2 : Value} (h0 : v0.cells.size = 1) (h1 : v1.cells.size = 1) (h2 : v2.cells.size = 1) (K : Value → WP) : A0 PR (Instr.build 47 #[(2, v0), (3, v1), (4, v2)]) K = K (.agg (D8 (D8 (D8 #[(.int .i64 0), (.int .i64 0), (.int .i64 0), (.int .i64 0), (.int .i64 0), (.int .i64 0), (.int .i64 0), (.int .i64 0), (.bool false), (.int .i64 0)] 2 v0.cells.toList) 3 v1.cells.toList) 4 v2.cells.toList)) := F1 (pl := #[(0, 1), (1, 1), (2, 1), (3, 1), (4, 1), (5, 1), (6, 4)]) A3C (fun w => by kernel_rfl) (by rw [B5 rfl h0 (by simp [B9]), B5 rfl h1 (by simp [B9]), B5 rfl h2 (by simp [B9])]; rfl)
@[simp] theorem C5J {v0 v1 v2 v3 : Value} (h0 : v0.cells.size = 1) (h1 : v1.cells.size = 1) (h2 : v2.cells.size = 1) (h3 : v3.cells.size = 4) (K : Value → WP) : A0 PR (Instr.build 47 #[(2, v0), (3, v1), (4, v2), (6, v3)]) K = K (.agg (D8 (D8 (D8 (D8 #[(.int .i64 0), (.int .i64 0), (.int .i64 0), (.int .i64 0), (.int .i64 0), (.int .i64 0), (.int .i64 0), (.int .i64 0), (.bool false), (.int .i64 0)] 2 v0.cells.toList) 3 v1.cells.toList) 4 v2.cells.toList) 6 v3.cells.toList)) := F1 (pl := #[(0, 1), (1, 1), (2, 1), (3, 1), (4, 1), (5, 1), (6, 4)]) A3C (fun w => by kernel_rfl) (by rw [B5 rfl h0 (by simp [B9]), B5 rfl h1 (by simp [B9]), B5 rfl h2 (by simp [B9]), B5 rfl h3 (by simp [B9])]; rfl)
@[simp] theorem C79 {v0 v1 : Value} (h0 : v0.cells.size = 1) (h1 : v1.cells.size = 1) (K : Value → WP) : A0 PR (Instr.build 47 #[(3, v0), (4, v1)]) K = K (.agg (D8 (D8 #[(.int .i64 0), (.int .i64 0), (.int .i64 0), (.int .i64 0), (.int .i64 0), (.int .i64 0), (.int .i64 0), (.int .i64 0), (.bool false), (.int .i64 0)] 3 v0.cells.toList) 4 v1.cells.toList)) := F1 (pl := #[(0, 1), (1, 1), (2, 1), (3, 1), (4, 1), (5, 1), (6, 4)]) A3C (fun w => by kernel_rfl) (by rw [B5 rfl h0 (by simp [B9]), B5 rfl h1 (by simp [B9])]; rfl)
theorem A88 : TI PR 52 Tryz.t51.desc 4 56 (.agg #[(.int .i64 0), (.string (ByteArray.mk #[])), (.slice none 0 0), (.int .i64 0)]) := ⟨Tryz.underlying52, Tryz.t52, by kernel_rfl, rfl, rfl, rfl⟩
@[simp] theorem D0V {v0 : Value} (h0 : v0.cells.size = 1) (K : Value → WP) : A0 PR (Instr.build 52 #[(0, v0)]) K = K (.agg (D8 #[(.int .i64 0), (.string (ByteArray.mk #[])), (.slice none 0 0), (.int .i64 0)] 0 v0.cells.toList)) := F1 (pl := #[(0, 1), (1, 1), (2, 1), (3, 1)]) A88 (fun w => by kernel_rfl) (by rw [B5 rfl h0 (by simp [B9])]; rfl)
@[simp] theorem C8J {v0 v1 : Value} (h0 : v0.cells.size = 5) (h1 : v1.cells.size = 1) (K : Value → WP) : A0 PR (Instr.build 68 #[(0, v0), (3, v1)]) K = K (.agg (D8 (D8 #[(.int .i64 0), (.int .i64 0), (.int .i64 0), (.int .i64 0), (.int .i64 0), (.slice none 0 0), (.slice none 0 0), (.slice none 0 0)] 0 v0.cells.toList) 7 v1.cells.toList)) := F1 (pl := #[(0, 5), (5, 1), (6, 1), (7, 1)]) B4j (fun w => by kernel_rfl) (by rw [B5 rfl h0 (by simp [B9]), B5 rfl h1 (by simp [B9])]; rfl)
theorem C0Z : TI PR 78 Tryz.t77.desc 7 88 (.agg #[(.int .i64 0), (.int .i64 0), (.int .i64 0), (.int .i64 0), (.int .i64 0), (.slice none 0 0), (.slice none 0 0)]) := ⟨Tryz.underlying78, Tryz.t78, by kernel_rfl, rfl, rfl, rfl⟩
@[simp] theorem C8H {v0 v1 : Value} (h0 : v0.cells.size = 5) (h1 : v1.cells.size = 1) (K : Value → WP) : A0 PR (Instr.build 78 #[(0, v0), (2, v1)]) K = K (.agg (D8 (D8 #[(.int .i64 0), (.int .i64 0), (.int .i64 0), (.int .i64 0), (.int .i64 0), (.slice none 0 0), (.slice none 0 0)] 0 v0.cells.toList) 6 v1.cells.toList)) := F1 (pl := #[(0, 5), (5, 1), (6, 1)]) C0Z (fun w => by kernel_rfl) (by rw [B5 rfl h0 (by simp [B9]), B5 rfl h1 (by simp [B9])]; rfl)
@[simp] theorem C6x {v0 v1 v2 : Value} (h0 : v0.cells.size = 1) (h1 : v1.cells.size = 1) (h2 : v2.cells.size = 1) (K : Value → WP) : A0 PR (Instr.build 95 #[(0, v0), (1, v1), (2, v2)]) K = K (.agg (D8 (D8 (D8 #[(.string (ByteArray.mk #[])), (.int .i64 0), (.bool false), (.int .i64 0)] 0 v0.cells.toList) 1 v1.cells.toList) 2 v2.cells.toList)) := F1 (pl := #[(0, 1), (1, 1), (2, 1), (3, 1)]) B2q (fun w => by kernel_rfl) (by rw [B5 rfl h0 (by simp [B9]), B5 rfl h1 (by simp [B9]), B5 rfl h2 (by simp [B9])]; rfl)
@[simp] theorem D03 {v0 : Value} (h0 : v0.cells.size = 1) (K : Value → WP) : A0 PR (Instr.build 95 #[(3, v0)]) K = K (.agg (D8 #[(.string (ByteArray.mk #[])), (.int .i64 0), (.bool false), (.int .i64 0)] 3 v0.cells.toList)) := F1 (pl := #[(0, 1), (1, 1), (2, 1), (3, 1)]) B2q (fun w => by kernel_rfl) (by rw [B5 rfl h0 (by simp [B9])]; rfl)
theorem ty5 : TI PR 5 Tryz.t5.desc 1 1 (.int .u8 0) := ⟨Tryz.underlying5, Tryz.t5, by kernel_rfl, rfl, rfl, rfl⟩
theorem C0p : TI PR 207 Tryz.t207.desc 1 24 (.slice none 0 0) := ⟨Tryz.underlying207, Tryz.t207, by kernel_rfl, rfl, rfl, rfl⟩
theorem B74 : TI PR 24 Tryz.t24.desc 1 24 (.slice none 0 0) := ⟨Tryz.underlying24, Tryz.t24, by kernel_rfl, rfl, rfl, rfl⟩
theorem B4L : TI PR 53 Tryz.t53.desc 1 24 (.slice none 0 0) := ⟨Tryz.underlying53, Tryz.t53, by kernel_rfl, rfl, rfl, rfl⟩
theorem C0g : TI PR 251 Tryz.t251.desc 1 24 (.slice none 0 0) := ⟨Tryz.underlying251, Tryz.t251, by kernel_rfl, rfl, rfl, rfl⟩
theorem C5K : TI PR 104 Tryz.t104.desc 1 8 (.int .u64 0) := ⟨Tryz.underlying104, Tryz.t104, by kernel_rfl, rfl, rfl, rfl⟩
@[simp] theorem C8L {k : IntKind} (a : Int) (K : Value → WP) : A0 PR (convert 104 3 (.int k a)) K = K (.int .i64 (IntKind.i64.wrap a)) := A3a G3 C5K
@[simp] theorem C8W {k : IntKind} (a : Int) (K : Value → WP) : A0 PR (convert 122 3 (.int k a)) K = K (.int .i64 (IntKind.i64.wrap a)) := A3a G3 A6Q
@[simp] theorem C93 {k : IntKind} (a : Int) (K : Value → WP) : A0 PR (convert 122 5 (.int k a)) K = K (.int .u8 (IntKind.u8.wrap a)) := A3a ty5 A6Q
theorem B11 {K : Value → WP} {w : World} {b o cap : Nat} {ns : List Int} (hr : L6 w b o (ns.map (Value.int .u8))) : A6 PR (convert 160 9 (.slice (some ⟨b, o, none⟩) ns.length cap)) K w = K (.string (S7 ns)) w := C8P B1D ty5 p9 hr
@[simp] theorem C8u {k : IntKind} (a : Int) (K : Value → WP) : A0 PR (convert 3 104 (.int k a)) K = K (.int .u64 (IntKind.u64.wrap a)) := A3a C5K G3
@[simp] theorem C9c {k : IntKind} (a : Int) (K : Value → WP) : A0 PR (convert 3 122 (.int k a)) K = K (.int .u64 (IntKind.u64.wrap a)) := A3a A6Q G3
@[simp] theorem C8s {k : IntKind} (a : Int) (K : Value → WP) : A0 PR (convert 5 122 (.int k a)) K = K (.int .u64 (IntKind.u64.wrap a)) := A3a A6Q ty5
@[simp] theorem C9D {k : IntKind} (a : Int) (K : Value → WP) : A0 PR (convert 5 229 (.int k a)) K = K (.int .u64 (IntKind.u64.wrap a)) := A3a C5F ty5
@[simp] theorem D2H {k : IntKind} (a : Int) (K : Value → WP) : A0 PR (convert 5 3 (.int k a)) K = K (.int .i64 (IntKind.i64.wrap a)) := A3a G3 ty5
theorem ty4 : TI PR 4 Tryz.t4.desc 1 1 (.bool false) := ⟨Tryz.underlying4, Tryz.t4, by kernel_rfl, rfl, rfl, rfl⟩
@[simp] theorem C4Z (a0 b0 : Int) (a1 b1 : Int) (a2 b2 : Bool) (a3 b3 : Int) (x y : Operand) (K : Value → WP) (w : World) : A6 PR (n8 .eql 44 x y (.agg #[.int .i64 a0, .int .i64 a1, .bool a2, .int .i64 a3]) (.agg #[.int .i64 b0, .int .i64 b1, .bool b2, .int .i64 b3])) K w = K (.bool (decide (a0 = b0) && (decide (a1 = b1) && ((a2 == b2) && (decide (a3 = b3) && true))))) w := C8f (by kernel_rfl) (B3U (e := 9999) A3y (by kernel_rfl) (A0P rfl B0u rfl rfl rfl (A4a (e := 9998) B0u) (A0P rfl G3 rfl rfl rfl (A4a (e := 9998) G3) (A0P rfl ty4 rfl rfl rfl (B2F (e := 9998) ty4) (A0P rfl G3 rfl rfl rfl (A4a (e := 9998) G3) (B9T))))))
@[simp] theorem C36 (a0 b0 : Int) (a1 b1 : Int) (a2 b2 : Bool) (a3 b3 : Int) (x y : Operand) (K : Value → WP) (w : World) : A6 PR (n8 .neq 44 x y (.agg #[.int .i64 a0, .int .i64 a1, .bool a2, .int .i64 a3]) (.agg #[.int .i64 b0, .int .i64 b1, .bool b2, .int .i64 b3])) K w = K (.bool !(decide (a0 = b0) && (decide (a1 = b1) && ((a2 == b2) && (decide (a3 = b3) && true))))) w := C9p (by kernel_rfl) (B3U (e := 9999) A3y (by kernel_rfl) (A0P rfl B0u rfl rfl rfl (A4a (e := 9998) B0u) (A0P rfl G3 rfl rfl rfl (A4a (e := 9998) G3) (A0P rfl ty4 rfl rfl rfl (B2F (e := 9998) ty4) (A0P rfl G3 rfl rfl rfl (A4a (e := 9998) G3) (B9T))))))
@[simp] theorem C87 (b o : Nat) (K : Value → WP) : A0 PR (Instr.fieldAt 108 (.pointer (some ⟨b, o, none⟩)) 0) K = K (.pointer (some ⟨b, o, none⟩)) := B4 (i := 0) A2w rfl ⟨_, _, _, _, G3⟩ b o
@[simp] theorem C8M (b o : Nat) (K : Value → WP) : A0 PR (Instr.fieldAt 108 (.pointer (some ⟨b, o, none⟩)) 1) K = K (.pointer (some ⟨b, o + 1, none⟩)) := B4 (i := 1) A2w rfl ⟨_, _, _, _, p9⟩ b o
@[simp] theorem C9U (b o : Nat) (K : Value → WP) : A0 PR (Instr.fieldAt 108 (.pointer (some ⟨b, o, none⟩)) 2) K = K (.pointer (some ⟨b, o + 2, none⟩)) := B4 (i := 2) A2w rfl ⟨_, _, _, _, p9⟩ b o
@[simp] theorem C88 (b o : Nat) (K : Value → WP) : A0 PR (Instr.fieldAt 108 (.pointer (some ⟨b, o, none⟩)) 3) K = K (.pointer (some ⟨b, o + 3, none⟩)) := B4 (i := 3) A2w rfl ⟨_, _, _, _, G3⟩ b o
@[simp] theorem C8Q (b o : Nat) (K : Value → WP) : A0 PR (Instr.fieldAt 108 (.pointer (some ⟨b, o, none⟩)) 4) K = K (.pointer (some ⟨b, o + 4, none⟩)) := B4 (i := 4) A2w rfl ⟨_, _, _, _, G3⟩ b o
@[simp] theorem C8j (b o : Nat) (K : Value → WP) : A0 PR (Instr.fieldAt 108 (.pointer (some ⟨b, o, none⟩)) 5) K = K (.pointer (some ⟨b, o + 5, none⟩)) := B4 (i := 5) A2w rfl ⟨_, _, _, _, G3⟩ b o
@[simp] theorem C9H (b o : Nat) (K : Value → WP) : A0 PR (Instr.fieldAt 110 (.pointer (some ⟨b, o, none⟩)) 0) K = K (.pointer (some ⟨b, o, none⟩)) := B4 (i := 0) B2w rfl ⟨_, _, _, _, A2w⟩ b o
@[simp] theorem C8b (b o : Nat) (K : Value → WP) : A0 PR (Instr.fieldAt 110 (.pointer (some ⟨b, o, none⟩)) 1) K = K (.pointer (some ⟨b, o + 6, none⟩)) := B4 (i := 1) B2w rfl ⟨_, _, _, _, G3⟩ b o
@[simp] theorem C86 (b o : Nat) (K : Value → WP) : A0 PR (Instr.fieldAt 119 (.pointer (some ⟨b, o, none⟩)) 0) K = K (.pointer (some ⟨b, o, none⟩)) := B4 (i := 0) A2c rfl ⟨_, _, _, _, G3⟩ b o
@[simp] theorem C9b (b o : Nat) (K : Value → WP) : A0 PR (Instr.fieldAt 119 (.pointer (some ⟨b, o, none⟩)) 1) K = K (.pointer (some ⟨b, o + 1, none⟩)) := B4 (i := 1) A2c rfl ⟨_, _, _, _, p9⟩ b o
@[simp] theorem C9j (b o : Nat) (K : Value → WP) : A0 PR (Instr.fieldAt 119 (.pointer (some ⟨b, o, none⟩)) 2) K = K (.pointer (some ⟨b, o + 2, none⟩)) := B4 (i := 2) A2c rfl ⟨_, _, _, _, G3⟩ b o
@[simp] theorem C98 (b o : Nat) (K : Value → WP) : A0 PR (Instr.fieldAt 119 (.pointer (some ⟨b, o, none⟩)) 3) K = K (.pointer (some ⟨b, o + 3, none⟩)) := B4 (i := 3) A2c rfl ⟨_, _, _, _, G3⟩ b o
@[simp] theorem C9G (b o : Nat) (K : Value → WP) : A0 PR (Instr.fieldAt 129 (.pointer (some ⟨b, o, none⟩)) 0) K = K (.pointer (some ⟨b, o, none⟩)) := B4 (i := 0) B1A rfl ⟨_, _, _, _, G3⟩ b o
@[simp] theorem C9M (b o : Nat) (K : Value → WP) : A0 PR (Instr.fieldAt 129 (.pointer (some ⟨b, o, none⟩)) 1) K = K (.pointer (some ⟨b, o + 1, none⟩)) := B4 (i := 1) B1A rfl ⟨_, _, _, _, G3⟩ b o
@[simp] theorem C8g (b o : Nat) (K : Value → WP) : A0 PR (Instr.fieldAt 137 (.pointer (some ⟨b, o, none⟩)) 0) K = K (.pointer (some ⟨b, o, none⟩)) := B4 (i := 0) A6C rfl ⟨_, _, _, _, p9⟩ b o
@[simp] theorem C89 (b o : Nat) (K : Value → WP) : A0 PR (Instr.fieldAt 137 (.pointer (some ⟨b, o, none⟩)) 1) K = K (.pointer (some ⟨b, o + 1, none⟩)) := B4 (i := 1) A6C rfl ⟨_, _, _, _, p9⟩ b o
@[simp] theorem C9B (b o : Nat) (K : Value → WP) : A0 PR (Instr.fieldAt 137 (.pointer (some ⟨b, o, none⟩)) 2) K = K (.pointer (some ⟨b, o + 2, none⟩)) := B4 (i := 2) A6C rfl ⟨_, _, _, _, p9⟩ b o
@[simp] theorem C8a (b o : Nat) (K : Value → WP) : A0 PR (Instr.fieldAt 137 (.pointer (some ⟨b, o, none⟩)) 3) K = K (.pointer (some ⟨b, o + 3, none⟩)) := B4 (i := 3) A6C rfl ⟨_, _, _, _, G3⟩ b o
@[simp] theorem C9q (b o : Nat) (K : Value → WP) : A0 PR (Instr.fieldAt 137 (.pointer (some ⟨b, o, none⟩)) 4) K = K (.pointer (some ⟨b, o + 4, none⟩)) := B4 (i := 4) A6C rfl ⟨_, _, _, _, B0u⟩ b o
@[simp] theorem C9n (b o : Nat) (K : Value → WP) : A0 PR (Instr.fieldAt 140 (.pointer (some ⟨b, o, none⟩)) 0) K = K (.pointer (some ⟨b, o, none⟩)) := B4 (i := 0) B09 rfl ⟨_, _, _, _, G3⟩ b o
@[simp] theorem C8Z (b o : Nat) (K : Value → WP) : A0 PR (Instr.fieldAt 140 (.pointer (some ⟨b, o, none⟩)) 1) K = K (.pointer (some ⟨b, o + 1, none⟩)) := B4 (i := 1) B09 rfl ⟨_, _, _, _, G3⟩ b o
@[simp] theorem C8v (b o : Nat) (K : Value → WP) : A0 PR (Instr.fieldAt 140 (.pointer (some ⟨b, o, none⟩)) 2) K = K (.pointer (some ⟨b, o + 2, none⟩)) := B4 (i := 2) B09 rfl ⟨_, _, _, _, G3⟩ b o
@[simp] theorem C9A (b o : Nat) (K : Value → WP) : A0 PR (Instr.fieldAt 153 (.pointer (some ⟨b, o, none⟩)) 0) K = K (.pointer (some ⟨b, o, none⟩)) := B4 (i := 0) A85 rfl ⟨_, _, _, _, G3⟩ b o
@[simp] theorem C9E (b o : Nat) (K : Value → WP) : A0 PR (Instr.fieldAt 153 (.pointer (some ⟨b, o, none⟩)) 1) K = K (.pointer (some ⟨b, o + 1, none⟩)) := B4 (i := 1) A85 rfl ⟨_, _, _, _, G3⟩ b o
@[simp] theorem C81 (b o : Nat) (K : Value → WP) : A0 PR (Instr.fieldAt 153 (.pointer (some ⟨b, o, none⟩)) 2) K = K (.pointer (some ⟨b, o + 2, none⟩)) := B4 (i := 2) A85 rfl ⟨_, _, _, _, G3⟩ b o
@[simp] theorem C8l (b o : Nat) (K : Value → WP) : A0 PR (Instr.fieldAt 172 (.pointer (some ⟨b, o, none⟩)) 0) K = K (.pointer (some ⟨b, o, none⟩)) := B4 (i := 0) B05 rfl ⟨_, _, _, _, p9⟩ b o
@[simp] theorem C80 (b o : Nat) (K : Value → WP) : A0 PR (Instr.fieldAt 172 (.pointer (some ⟨b, o, none⟩)) 1) K = K (.pointer (some ⟨b, o + 1, none⟩)) := B4 (i := 1) B05 rfl ⟨_, _, _, _, p9⟩ b o
@[simp] theorem C9T (b o : Nat) (K : Value → WP) : A0 PR (Instr.fieldAt 172 (.pointer (some ⟨b, o, none⟩)) 2) K = K (.pointer (some ⟨b, o + 2, none⟩)) := B4 (i := 2) B05 rfl ⟨_, _, _, _, G3⟩ b o
@[simp] theorem C8q (b o : Nat) (K : Value → WP) : A0 PR (Instr.fieldAt 175 (.pointer (some ⟨b, o, none⟩)) 0) K = K (.pointer (some ⟨b, o, none⟩)) := B4 (i := 0) B1P rfl ⟨_, _, _, _, p9⟩ b o
@[simp] theorem C91 (b o : Nat) (K : Value → WP) : A0 PR (Instr.fieldAt 175 (.pointer (some ⟨b, o, none⟩)) 1) K = K (.pointer (some ⟨b, o + 1, none⟩)) := B4 (i := 1) B1P rfl ⟨_, _, _, _, p9⟩ b o
@[simp] theorem C9x (b o : Nat) (K : Value → WP) : A0 PR (Instr.fieldAt 175 (.pointer (some ⟨b, o, none⟩)) 2) K = K (.pointer (some ⟨b, o + 2, none⟩)) := B4 (i := 2) B1P rfl ⟨_, _, _, _, G3⟩ b o
@[simp] theorem C8c (b o : Nat) (K : Value → WP) : A0 PR (Instr.fieldAt 179 (.pointer (some ⟨b, o, none⟩)) 0) K = K (.pointer (some ⟨b, o, none⟩)) := B4 (i := 0) A4V rfl ⟨_, _, _, _, A6Q⟩ b o
@[simp] theorem C8y (b o : Nat) (K : Value → WP) : A0 PR (Instr.fieldAt 179 (.pointer (some ⟨b, o, none⟩)) 1) K = K (.pointer (some ⟨b, o + 1, none⟩)) := B4 (i := 1) A4V rfl ⟨_, _, _, _, G3⟩ b o
@[simp] theorem C8U (b o : Nat) (K : Value → WP) : A0 PR (Instr.fieldAt 184 (.pointer (some ⟨b, o, none⟩)) 0) K = K (.pointer (some ⟨b, o, none⟩)) := B4 (i := 0) B1L rfl ⟨_, _, _, _, p9⟩ b o
@[simp] theorem C8r (b o : Nat) (K : Value → WP) : A0 PR (Instr.fieldAt 184 (.pointer (some ⟨b, o, none⟩)) 1) K = K (.pointer (some ⟨b, o + 1, none⟩)) := B4 (i := 1) B1L rfl ⟨_, _, _, _, p9⟩ b o
@[simp] theorem C9K (b o : Nat) (K : Value → WP) : A0 PR (Instr.fieldAt 184 (.pointer (some ⟨b, o, none⟩)) 2) K = K (.pointer (some ⟨b, o + 2, none⟩)) := B4 (i := 2) B1L rfl ⟨_, _, _, _, G3⟩ b o
@[simp] theorem C9S (b o : Nat) (K : Value → WP) : A0 PR (Instr.fieldAt 188 (.pointer (some ⟨b, o, none⟩)) 0) K = K (.pointer (some ⟨b, o, none⟩)) := B4 (i := 0) B04 rfl ⟨_, _, _, _, p9⟩ b o
@[simp] theorem C9Q (b o : Nat) (K : Value → WP) : A0 PR (Instr.fieldAt 188 (.pointer (some ⟨b, o, none⟩)) 1) K = K (.pointer (some ⟨b, o + 1, none⟩)) := B4 (i := 1) B04 rfl ⟨_, _, _, _, p9⟩ b o
@[simp] theorem C9d (b o : Nat) (K : Value → WP) : A0 PR (Instr.fieldAt 188 (.pointer (some ⟨b, o, none⟩)) 2) K = K (.pointer (some ⟨b, o + 2, none⟩)) := B4 (i := 2) B04 rfl ⟨_, _, _, _, G3⟩ b o
theorem C7v : TI PR 29 Tryz.t29.desc 1 8 .nilFunc := ⟨Tryz.underlying29, Tryz.t29, by kernel_rfl, rfl, rfl, rfl⟩
@[simp] theorem C9a (b o : Nat) (K : Value → WP) : A0 PR (Instr.fieldAt 219 (.pointer (some ⟨b, o, none⟩)) 0) K = K (.pointer (some ⟨b, o, none⟩)) := B4 (i := 0) B1N rfl ⟨_, _, _, _, C7v⟩ b o
@[simp] theorem C9L (b o : Nat) (K : Value → WP) : A0 PR (Instr.fieldAt 219 (.pointer (some ⟨b, o, none⟩)) 1) K = K (.pointer (some ⟨b, o + 1, none⟩)) := B4 (i := 1) B1N rfl ⟨_, _, _, _, B0u⟩ b o
@[simp] theorem D1Z (b o : Nat) (K : Value → WP) : A0 PR (Instr.fieldAt 23 (.pointer (some ⟨b, o, none⟩)) 0) K = K (.pointer (some ⟨b, o, none⟩)) := B4 (i := 0) A5L rfl ⟨_, _, _, _, G3⟩ b o
@[simp] theorem D0r (b o : Nat) (K : Value → WP) : A0 PR (Instr.fieldAt 23 (.pointer (some ⟨b, o, none⟩)) 1) K = K (.pointer (some ⟨b, o + 1, none⟩)) := B4 (i := 1) A5L rfl ⟨_, _, _, _, G3⟩ b o
@[simp] theorem D1A (b o : Nat) (K : Value → WP) : A0 PR (Instr.fieldAt 23 (.pointer (some ⟨b, o, none⟩)) 2) K = K (.pointer (some ⟨b, o + 2, none⟩)) := B4 (i := 2) A5L rfl ⟨_, _, _, _, G3⟩ b o
@[simp] theorem D1r (b o : Nat) (K : Value → WP) : A0 PR (Instr.fieldAt 23 (.pointer (some ⟨b, o, none⟩)) 3) K = K (.pointer (some ⟨b, o + 3, none⟩)) := B4 (i := 3) A5L rfl ⟨_, _, _, _, G3⟩ b o
@[simp] theorem D1B (b o : Nat) (K : Value → WP) : A0 PR (Instr.fieldAt 23 (.pointer (some ⟨b, o, none⟩)) 4) K = K (.pointer (some ⟨b, o + 4, none⟩)) := B4 (i := 4) A5L rfl ⟨_, _, _, _, G3⟩ b o
@[simp] theorem C96 (b o : Nat) (K : Value → WP) : A0 PR (Instr.fieldAt 241 (.pointer (some ⟨b, o, none⟩)) 0) K = K (.pointer (some ⟨b, o, none⟩)) := B4 (i := 0) A8n rfl ⟨_, _, _, _, A6Q⟩ b o
@[simp] theorem C8w (b o : Nat) (K : Value → WP) : A0 PR (Instr.fieldAt 241 (.pointer (some ⟨b, o, none⟩)) 1) K = K (.pointer (some ⟨b, o + 1, none⟩)) := B4 (i := 1) A8n rfl ⟨_, _, _, _, G3⟩ b o
theorem B4m : TI PR 27 Tryz.t26.desc 7 88 (.agg #[(.int .i64 0), (.int .i64 0), (.int .i64 0), (.int .i64 0), (.int .i64 0), (.slice none 0 0), (.slice none 0 0)]) := ⟨Tryz.underlying27, Tryz.t27, by kernel_rfl, rfl, rfl, rfl⟩
@[simp] theorem D0x (b o : Nat) (K : Value → WP) : A0 PR (Instr.fieldAt 27 (.pointer (some ⟨b, o, none⟩)) 0) K = K (.pointer (some ⟨b, o, none⟩)) := B4 (i := 0) B4m rfl ⟨_, _, _, _, A5L⟩ b o
@[simp] theorem D1C (b o : Nat) (K : Value → WP) : A0 PR (Instr.fieldAt 27 (.pointer (some ⟨b, o, none⟩)) 1) K = K (.pointer (some ⟨b, o + 5, none⟩)) := B4 (i := 1) B4m rfl ⟨_, _, _, _, B74⟩ b o
theorem C3s : TI PR 25 Tryz.t25.desc 1 24 (.slice none 0 0) := ⟨Tryz.underlying25, Tryz.t25, by kernel_rfl, rfl, rfl, rfl⟩
@[simp] theorem D1m (b o : Nat) (K : Value → WP) : A0 PR (Instr.fieldAt 27 (.pointer (some ⟨b, o, none⟩)) 2) K = K (.pointer (some ⟨b, o + 6, none⟩)) := B4 (i := 2) B4m rfl ⟨_, _, _, _, C3s⟩ b o
@[simp] theorem D0N (b o : Nat) (K : Value → WP) : A0 PR (Instr.fieldAt 44 (.pointer (some ⟨b, o, none⟩)) 3) K = K (.pointer (some ⟨b, o + 3, none⟩)) := B4 (i := 3) A3y rfl ⟨_, _, _, _, G3⟩ b o
@[simp] theorem D0l (b o : Nat) (K : Value → WP) : A0 PR (Instr.fieldAt 46 (.pointer (some ⟨b, o, none⟩)) 0) K = K (.pointer (some ⟨b, o, none⟩)) := B4 (i := 0) A7H rfl ⟨_, _, _, _, G3⟩ b o
@[simp] theorem D1l (b o : Nat) (K : Value → WP) : A0 PR (Instr.fieldAt 46 (.pointer (some ⟨b, o, none⟩)) 1) K = K (.pointer (some ⟨b, o + 1, none⟩)) := B4 (i := 1) A7H rfl ⟨_, _, _, _, G3⟩ b o
@[simp] theorem D0g (b o : Nat) (K : Value → WP) : A0 PR (Instr.fieldAt 46 (.pointer (some ⟨b, o, none⟩)) 2) K = K (.pointer (some ⟨b, o + 2, none⟩)) := B4 (i := 2) A7H rfl ⟨_, _, _, _, G3⟩ b o
@[simp] theorem D0P (b o : Nat) (K : Value → WP) : A0 PR (Instr.fieldAt 46 (.pointer (some ⟨b, o, none⟩)) 3) K = K (.pointer (some ⟨b, o + 3, none⟩)) := B4 (i := 3) A7H rfl ⟨_, _, _, _, G3⟩ b o
@[simp] theorem D1S (b o : Nat) (K : Value → WP) : A0 PR (Instr.fieldAt 46 (.pointer (some ⟨b, o, none⟩)) 4) K = K (.pointer (some ⟨b, o + 4, none⟩)) := B4 (i := 4) A7H rfl ⟨_, _, _, _, G3⟩ b o
@[simp] theorem D0p (b o : Nat) (K : Value → WP) : A0 PR (Instr.fieldAt 46 (.pointer (some ⟨b, o, none⟩)) 5) K = K (.pointer (some ⟨b, o + 5, none⟩)) := B4 (i := 5) A7H rfl ⟨_, _, _, _, G3⟩ b o
@[simp] theorem D1x (b o : Nat) (K : Value → WP) : A0 PR (Instr.fieldAt 46 (.pointer (some ⟨b, o, none⟩)) 6) K = K (.pointer (some ⟨b, o + 6, none⟩)) := B4 (i := 6) A7H rfl ⟨_, _, _, _, A3y⟩ b o
@[simp] theorem D0Z (b o : Nat) (K : Value → WP) : A0 PR (Instr.fieldAt 47 (.pointer (some ⟨b, o, none⟩)) 0) K = K (.pointer (some ⟨b, o, none⟩)) := B4 (i := 0) A3C rfl ⟨_, _, _, _, G3⟩ b o
@[simp] theorem D0Y (b o : Nat) (K : Value → WP) : A0 PR (Instr.fieldAt 47 (.pointer (some ⟨b, o, none⟩)) 1) K = K (.pointer (some ⟨b, o + 1, none⟩)) := B4 (i := 1) A3C rfl ⟨_, _, _, _, G3⟩ b o
@[simp] theorem D0W (b o : Nat) (K : Value → WP) : A0 PR (Instr.fieldAt 47 (.pointer (some ⟨b, o, none⟩)) 2) K = K (.pointer (some ⟨b, o + 2, none⟩)) := B4 (i := 2) A3C rfl ⟨_, _, _, _, G3⟩ b o
@[simp] theorem D0G (b o : Nat) (K : Value → WP) : A0 PR (Instr.fieldAt 47 (.pointer (some ⟨b, o, none⟩)) 3) K = K (.pointer (some ⟨b, o + 3, none⟩)) := B4 (i := 3) A3C rfl ⟨_, _, _, _, G3⟩ b o
@[simp] theorem D0T (b o : Nat) (K : Value → WP) : A0 PR (Instr.fieldAt 47 (.pointer (some ⟨b, o, none⟩)) 4) K = K (.pointer (some ⟨b, o + 4, none⟩)) := B4 (i := 4) A3C rfl ⟨_, _, _, _, G3⟩ b o
@[simp] theorem D1Y (b o : Nat) (K : Value → WP) : A0 PR (Instr.fieldAt 47 (.pointer (some ⟨b, o, none⟩)) 5) K = K (.pointer (some ⟨b, o + 5, none⟩)) := B4 (i := 5) A3C rfl ⟨_, _, _, _, G3⟩ b o
@[simp] theorem D02 (b o : Nat) (K : Value → WP) : A0 PR (Instr.fieldAt 47 (.pointer (some ⟨b, o, none⟩)) 6) K = K (.pointer (some ⟨b, o + 6, none⟩)) := B4 (i := 6) A3C rfl ⟨_, _, _, _, A3y⟩ b o
@[simp] theorem D0y (b o : Nat) (K : Value → WP) : A0 PR (Instr.fieldAt 52 (.pointer (some ⟨b, o, none⟩)) 0) K = K (.pointer (some ⟨b, o, none⟩)) := B4 (i := 0) A88 rfl ⟨_, _, _, _, G3⟩ b o
@[simp] theorem D0j (b o : Nat) (K : Value → WP) : A0 PR (Instr.fieldAt 52 (.pointer (some ⟨b, o, none⟩)) 1) K = K (.pointer (some ⟨b, o + 1, none⟩)) := B4 (i := 1) A88 rfl ⟨_, _, _, _, p9⟩ b o
@[simp] theorem D05 (b o : Nat) (K : Value → WP) : A0 PR (Instr.fieldAt 52 (.pointer (some ⟨b, o, none⟩)) 2) K = K (.pointer (some ⟨b, o + 2, none⟩)) := B4 (i := 2) A88 rfl ⟨_, _, _, _, B0y⟩ b o
@[simp] theorem D1p (b o : Nat) (K : Value → WP) : A0 PR (Instr.fieldAt 52 (.pointer (some ⟨b, o, none⟩)) 3) K = K (.pointer (some ⟨b, o + 3, none⟩)) := B4 (i := 3) A88 rfl ⟨_, _, _, _, G3⟩ b o
@[simp] theorem D1u (b o : Nat) (K : Value → WP) : A0 PR (Instr.fieldAt 68 (.pointer (some ⟨b, o, none⟩)) 0) K = K (.pointer (some ⟨b, o, none⟩)) := B4 (i := 0) B4j rfl ⟨_, _, _, _, A5L⟩ b o
@[simp] theorem D0n (b o : Nat) (K : Value → WP) : A0 PR (Instr.fieldAt 68 (.pointer (some ⟨b, o, none⟩)) 1) K = K (.pointer (some ⟨b, o + 5, none⟩)) := B4 (i := 1) B4j rfl ⟨_, _, _, _, B0y⟩ b o
@[simp] theorem D04 (b o : Nat) (K : Value → WP) : A0 PR (Instr.fieldAt 68 (.pointer (some ⟨b, o, none⟩)) 2) K = K (.pointer (some ⟨b, o + 6, none⟩)) := B4 (i := 2) B4j rfl ⟨_, _, _, _, B63⟩ b o
@[simp] theorem D09 (b o : Nat) (K : Value → WP) : A0 PR (Instr.fieldAt 68 (.pointer (some ⟨b, o, none⟩)) 3) K = K (.pointer (some ⟨b, o + 7, none⟩)) := B4 (i := 3) B4j rfl ⟨_, _, _, _, B4A⟩ b o
@[simp] theorem D0C (b o : Nat) (K : Value → WP) : A0 PR (Instr.fieldAt 78 (.pointer (some ⟨b, o, none⟩)) 0) K = K (.pointer (some ⟨b, o, none⟩)) := B4 (i := 0) C0Z rfl ⟨_, _, _, _, A5L⟩ b o
@[simp] theorem D0u (b o : Nat) (K : Value → WP) : A0 PR (Instr.fieldAt 78 (.pointer (some ⟨b, o, none⟩)) 1) K = K (.pointer (some ⟨b, o + 5, none⟩)) := B4 (i := 1) C0Z rfl ⟨_, _, _, _, B0y⟩ b o
theorem B7q : TI PR 76 Tryz.t76.desc 1 24 (.slice none 0 0) := ⟨Tryz.underlying76, Tryz.t76, by kernel_rfl, rfl, rfl, rfl⟩
@[simp] theorem D0b (b o : Nat) (K : Value → WP) : A0 PR (Instr.fieldAt 78 (.pointer (some ⟨b, o, none⟩)) 2) K = K (.pointer (some ⟨b, o + 6, none⟩)) := B4 (i := 2) C0Z rfl ⟨_, _, _, _, B7q⟩ b o
theorem C7Q : TI PR 82 Tryz.t81.desc 1 24 (.agg #[(.slice none 0 0)]) := ⟨Tryz.underlying82, Tryz.t82, by kernel_rfl, rfl, rfl, rfl⟩
@[simp] theorem D1M (b o : Nat) (K : Value → WP) : A0 PR (Instr.fieldAt 82 (.pointer (some ⟨b, o, none⟩)) 0) K = K (.pointer (some ⟨b, o, none⟩)) := B4 (i := 0) C7Q rfl ⟨_, _, _, _, B0c⟩ b o
theorem C0m : TI PR 84 Tryz.t83.desc 2 32 (.agg #[(.slice none 0 0), (.int .i64 0)]) := ⟨Tryz.underlying84, Tryz.t84, by kernel_rfl, rfl, rfl, rfl⟩
@[simp] theorem D0k (b o : Nat) (K : Value → WP) : A0 PR (Instr.fieldAt 84 (.pointer (some ⟨b, o, none⟩)) 0) K = K (.pointer (some ⟨b, o, none⟩)) := B4 (i := 0) C0m rfl ⟨_, _, _, _, C7Q⟩ b o
@[simp] theorem D1L (b o : Nat) (K : Value → WP) : A0 PR (Instr.fieldAt 84 (.pointer (some ⟨b, o, none⟩)) 1) K = K (.pointer (some ⟨b, o + 1, none⟩)) := B4 (i := 1) C0m rfl ⟨_, _, _, _, G3⟩ b o
@[simp] theorem D1q (b o : Nat) (K : Value → WP) : A0 PR (Instr.fieldAt 95 (.pointer (some ⟨b, o, none⟩)) 0) K = K (.pointer (some ⟨b, o, none⟩)) := B4 (i := 0) B2q rfl ⟨_, _, _, _, p9⟩ b o
@[simp] theorem D0f (b o : Nat) (K : Value → WP) : A0 PR (Instr.fieldAt 95 (.pointer (some ⟨b, o, none⟩)) 1) K = K (.pointer (some ⟨b, o + 1, none⟩)) := B4 (i := 1) B2q rfl ⟨_, _, _, _, G3⟩ b o
@[simp] theorem D0s (b o : Nat) (K : Value → WP) : A0 PR (Instr.fieldAt 95 (.pointer (some ⟨b, o, none⟩)) 2) K = K (.pointer (some ⟨b, o + 2, none⟩)) := B4 (i := 2) B2q rfl ⟨_, _, _, _, ty4⟩ b o
@[simp] theorem D1V (b o : Nat) (K : Value → WP) : A0 PR (Instr.fieldAt 95 (.pointer (some ⟨b, o, none⟩)) 3) K = K (.pointer (some ⟨b, o + 3, none⟩)) := B4 (i := 3) B2q rfl ⟨_, _, _, _, B0u⟩ b o
theorem Z0 {k1 : IntKind} {i : Int} {s : ByteArray} {b : UInt8} (h0 : 0 ≤ i) (h1 : s[i.toNat]? = some b) (K : Value → WP) : A0 PR (Instr.index 9 (.string s) (.int k1 i)) K = K (.int .u8 b.toNat) := C4g p9 h0 h1
theorem C0d : TI PR 105 Tryz.t105.desc 1 8 .nilFunc := ⟨Tryz.underlying105, Tryz.t105, by kernel_rfl, rfl, rfl, rfl⟩
@[simp] theorem D2q {k : IntKind} {i : Int} (h0 : 0 ≤ i) (h1 : i < (4 : Nat)) (b o : Nat) (K : Value → WP) : A0 PR (Instr.indexAt 106 (.pointer (some ⟨b, o, none⟩)) (.int k i)) K = K (.pointer (some ⟨b, o + i.toNat, none⟩)) := (by simpa using B32 (K := K) C0F C0d h0 h1 b o)
@[simp] theorem D11 {k : IntKind} {i : Int} {len cap : Nat} (h0 : 0 ≤ i) (h1 : i < len) (b o : Nat) (K : Value → WP) : A0 PR (Instr.indexAt 147 (.slice (some ⟨b, o, none⟩) len cap) (.int k i)) K = K (.pointer (some ⟨b, o + i.toNat * 2, none⟩)) := (M6 (K := K) B2y A4V h0 h1 b o)
@[simp] theorem D2U {k : IntKind} {i : Int} {len cap : Nat} (h0 : 0 ≤ i) (h1 : i < len) (b o : Nat) (K : Value → WP) : A0 PR (Instr.indexAt 160 (.slice (some ⟨b, o, none⟩) len cap) (.int k i)) K = K (.pointer (some ⟨b, o + i.toNat, none⟩)) := (by simpa using M6 (K := K) B1D ty5 h0 h1 b o)
@[simp] theorem D2A {k : IntKind} {i : Int} (h0 : 0 ≤ i) (h1 : i < (2 : Nat)) (b o : Nat) (K : Value → WP) : A0 PR (Instr.indexAt 164 (.pointer (some ⟨b, o, none⟩)) (.int k i)) K = K (.pointer (some ⟨b, o + i.toNat, none⟩)) := (by simpa using B32 (K := K) B33 G3 h0 h1 b o)
@[simp] theorem D2Z {k : IntKind} {i : Int} {len cap : Nat} (h0 : 0 ≤ i) (h1 : i < len) (b o : Nat) (K : Value → WP) : A0 PR (Instr.indexAt 205 (.slice (some ⟨b, o, none⟩) len cap) (.int k i)) K = K (.pointer (some ⟨b, o + i.toNat * 4, none⟩)) := (M6 (K := K) B91 A2c h0 h1 b o)
@[simp] theorem D2j {k : IntKind} {i : Int} {len cap : Nat} (h0 : 0 ≤ i) (h1 : i < len) (b o : Nat) (K : Value → WP) : A0 PR (Instr.indexAt 207 (.slice (some ⟨b, o, none⟩) len cap) (.int k i)) K = K (.pointer (some ⟨b, o + i.toNat * 2, none⟩)) := (M6 (K := K) C0p B33 h0 h1 b o)
@[simp] theorem D2C {k : IntKind} {i : Int} {len cap : Nat} (h0 : 0 ≤ i) (h1 : i < len) (b o : Nat) (K : Value → WP) : A0 PR (Instr.indexAt 221 (.slice (some ⟨b, o, none⟩) len cap) (.int k i)) K = K (.pointer (some ⟨b, o + i.toNat, none⟩)) := (by simpa using M6 (K := K) C5a p9 h0 h1 b o)
theorem C0k : TI PR 237 Tryz.t147.desc 1 24 (.slice none 0 0) := ⟨Tryz.underlying237, Tryz.t237, by kernel_rfl, rfl, rfl, rfl⟩
@[simp] theorem D2B {k : IntKind} {i : Int} {len cap : Nat} (h0 : 0 ≤ i) (h1 : i < len) (b o : Nat) (K : Value → WP) : A0 PR (Instr.indexAt 237 (.slice (some ⟨b, o, none⟩) len cap) (.int k i)) K = K (.pointer (some ⟨b, o + i.toNat * 2, none⟩)) := (M6 (K := K) C0k A4V h0 h1 b o)
@[simp] theorem D2s {k : IntKind} {i : Int} {len cap : Nat} (h0 : 0 ≤ i) (h1 : i < len) (b o : Nat) (K : Value → WP) : A0 PR (Instr.indexAt 239 (.slice (some ⟨b, o, none⟩) len cap) (.int k i)) K = K (.pointer (some ⟨b, o + i.toNat * 2, none⟩)) := (M6 (K := K) B6Y A8n h0 h1 b o)
@[simp] theorem D21 {k : IntKind} {i : Int} {len cap : Nat} (h0 : 0 ≤ i) (h1 : i < len) (b o : Nat) (K : Value → WP) : A0 PR (Instr.indexAt 24 (.slice (some ⟨b, o, none⟩) len cap) (.int k i)) K = K (.pointer (some ⟨b, o + i.toNat, none⟩)) := (by simpa using M6 (K := K) B74 B4L h0 h1 b o)
@[simp] theorem D2L {k : IntKind} {i : Int} {len cap : Nat} (h0 : 0 ≤ i) (h1 : i < len) (b o : Nat) (K : Value → WP) : A0 PR (Instr.indexAt 251 (.slice (some ⟨b, o, none⟩) len cap) (.int k i)) K = K (.pointer (some ⟨b, o + i.toNat * 2, none⟩)) := (M6 (K := K) C0g B1N h0 h1 b o)
theorem C7q : TI PR 28 Tryz.t28.desc 1 24 (.slice none 0 0) := ⟨Tryz.underlying28, Tryz.t28, by kernel_rfl, rfl, rfl, rfl⟩
@[simp] theorem D25 {k : IntKind} {i : Int} {len cap : Nat} (h0 : 0 ≤ i) (h1 : i < len) (b o : Nat) (K : Value → WP) : A0 PR (Instr.indexAt 28 (.slice (some ⟨b, o, none⟩) len cap) (.int k i)) K = K (.pointer (some ⟨b, o + i.toNat * 10, none⟩)) := (M6 (K := K) C7q A7H h0 h1 b o)
@[simp] theorem D3B {k : IntKind} {i : Int} {len cap : Nat} (h0 : 0 ≤ i) (h1 : i < len) (b o : Nat) (K : Value → WP) : A0 PR (Instr.indexAt 32 (.slice (some ⟨b, o, none⟩) len cap) (.int k i)) K = K (.pointer (some ⟨b, o + i.toNat * 10, none⟩)) := (M6 (K := K) C01 A3C h0 h1 b o)
@[simp] theorem D3G {k : IntKind} {i : Int} {len cap : Nat} (h0 : 0 ≤ i) (h1 : i < len) (b o : Nat) (K : Value → WP) : A0 PR (Instr.indexAt 35 (.slice (some ⟨b, o, none⟩) len cap) (.int k i)) K = K (.pointer (some ⟨b, o + i.toNat, none⟩)) := (by simpa using M6 (K := K) B4A G3 h0 h1 b o)
@[simp] theorem D2z {k : IntKind} {i : Int} {len cap : Nat} (h0 : 0 ≤ i) (h1 : i < len) (b o : Nat) (K : Value → WP) : A0 PR (Instr.indexAt 50 (.slice (some ⟨b, o, none⟩) len cap) (.int k i)) K = K (.pointer (some ⟨b, o + i.toNat * 2, none⟩)) := (M6 (K := K) B0y B1A h0 h1 b o)
@[simp] theorem D24 {k : IntKind} {i : Int} {len cap : Nat} (h0 : 0 ≤ i) (h1 : i < len) (b o : Nat) (K : Value → WP) : A0 PR (Instr.indexAt 53 (.slice (some ⟨b, o, none⟩) len cap) (.int k i)) K = K (.pointer (some ⟨b, o + i.toNat * 4, none⟩)) := (M6 (K := K) B4L A88 h0 h1 b o)
@[simp] theorem D26 {k : IntKind} {i : Int} {len cap : Nat} (h0 : 0 ≤ i) (h1 : i < len) (b o : Nat) (K : Value → WP) : A0 PR (Instr.indexAt 66 (.slice (some ⟨b, o, none⟩) len cap) (.int k i)) K = K (.pointer (some ⟨b, o + i.toNat, none⟩)) := (by simpa using M6 (K := K) B63 B0c h0 h1 b o)
@[simp] theorem D3E {k : IntKind} {i : Int} {len cap : Nat} (h0 : 0 ≤ i) (h1 : i < len) (b o : Nat) (K : Value → WP) : A0 PR (Instr.indexAt 76 (.slice (some ⟨b, o, none⟩) len cap) (.int k i)) K = K (.pointer (some ⟨b, o + i.toNat * 2, none⟩)) := (M6 (K := K) B7q C0m h0 h1 b o)
@[simp] theorem C5b {k : IntKind} {i : Int} {len cap : Nat} (h0 : 0 ≤ i) (h1 : i < len) (b o : Nat) (K : Value → WP) : A0 PR (Instr.indexAt 79 (.slice (some ⟨b, o, none⟩) len cap) (.int k i)) K = K (.pointer (some ⟨b, o + i.toNat * 4, none⟩)) := (M6 (K := K) B0c A2c h0 h1 b o)
@[simp] theorem D0v (a : Option Addr) (n c : Nat) (K : Value → WP) : A0 PR (A7 .len #[147] 0 [.slice a n c]) K = K (.int .i64 n) := l8 B2y a n c
@[simp] theorem D0L (a : Option Addr) (n c : Nat) (K : Value → WP) : A0 PR (A7 .len #[205] 0 [.slice a n c]) K = K (.int .i64 n) := l8 B91 a n c
@[simp] theorem D0z (a : Option Addr) (n c : Nat) (K : Value → WP) : A0 PR (A7 .len #[207] 0 [.slice a n c]) K = K (.int .i64 n) := l8 C0p a n c
@[simp] theorem D0e (a : Option Addr) (n c : Nat) (K : Value → WP) : A0 PR (A7 .len #[237] 0 [.slice a n c]) K = K (.int .i64 n) := l8 C0k a n c
@[simp] theorem D1H (a : Option Addr) (n c : Nat) (K : Value → WP) : A0 PR (A7 .len #[239] 0 [.slice a n c]) K = K (.int .i64 n) := l8 B6Y a n c
@[simp] theorem D2d (a : Option Addr) (n c : Nat) (K : Value → WP) : A0 PR (A7 .len #[24] 0 [.slice a n c]) K = K (.int .i64 n) := l8 B74 a n c
@[simp] theorem D1y (a : Option Addr) (n c : Nat) (K : Value → WP) : A0 PR (A7 .len #[25] 0 [.slice a n c]) K = K (.int .i64 n) := l8 C3s a n c
@[simp] theorem D1E (a : Option Addr) (n c : Nat) (K : Value → WP) : A0 PR (A7 .len #[251] 0 [.slice a n c]) K = K (.int .i64 n) := l8 C0g a n c
@[simp] theorem D2b (a : Option Addr) (n c : Nat) (K : Value → WP) : A0 PR (A7 .len #[28] 0 [.slice a n c]) K = K (.int .i64 n) := l8 C7q a n c
@[simp] theorem D2S (a : Option Addr) (n c : Nat) (K : Value → WP) : A0 PR (A7 .len #[32] 0 [.slice a n c]) K = K (.int .i64 n) := l8 C01 a n c
@[simp] theorem D2g (a : Option Addr) (n c : Nat) (K : Value → WP) : A0 PR (A7 .len #[35] 0 [.slice a n c]) K = K (.int .i64 n) := l8 B4A a n c
@[simp] theorem D2v (a : Option Addr) (n c : Nat) (K : Value → WP) : A0 PR (A7 .len #[50] 0 [.slice a n c]) K = K (.int .i64 n) := l8 B0y a n c
@[simp] theorem D2Q (a : Option Addr) (n c : Nat) (K : Value → WP) : A0 PR (A7 .len #[53] 0 [.slice a n c]) K = K (.int .i64 n) := l8 B4L a n c
@[simp] theorem D2f (a : Option Addr) (n c : Nat) (K : Value → WP) : A0 PR (A7 .len #[66] 0 [.slice a n c]) K = K (.int .i64 n) := l8 B63 a n c
@[simp] theorem D2k (a : Option Addr) (n c : Nat) (K : Value → WP) : A0 PR (A7 .len #[76] 0 [.slice a n c]) K = K (.int .i64 n) := l8 B7q a n c
@[simp] theorem D2x (a : Option Addr) (n c : Nat) (K : Value → WP) : A0 PR (A7 .len #[79] 0 [.slice a n c]) K = K (.int .i64 n) := l8 B0c a n c
@[simp] theorem D3D (s : ByteArray) (K : Value → WP) : A0 PR (A7 .len #[9] 0 [.string s]) K = K (.int .i64 s.size) := C7f p9 s
@[simp] theorem D2e (b o : Nat) (K : Value → WP) (w : World) : A6 PR (Instr.loadAt 119 (.pointer (some ⟨b, o, none⟩))) K w = rdl (g4 w b o 4) K (far PR 119 ⟨b, o, none⟩ K) w := B6V A2c rfl b o
@[simp] theorem D2y (a : Addr) (K : Value → WP) (w : World) : A6 PR (Instr.loadAt 122 (.pointer (some a))) K w = rdc (w.cell? a) K (far PR 122 a K) w := B8F A6Q rfl a
@[simp] theorem D3U (a : Addr) (K : Value → WP) (w : World) : A6 PR (Instr.loadAt 3 (.pointer (some a))) K w = rdc (w.cell? a) K (far PR 3 a K) w := B8F G3 rfl a
theorem D18 : TI PR 60 Tryz.t60.desc 1 8 (.pointer none) := ⟨Tryz.underlying60, Tryz.t60, by kernel_rfl, rfl, rfl, rfl⟩
@[simp] theorem D2u (v : Value) (K : Value → WP) : A0 PR (Instr.makeInterface 224 v) K = K (.iface 224 v) := B5k C5Y (by intro ms h; cases h) v
@[simp] theorem D2W (v : Value) (K : Value → WP) : A0 PR (Instr.makeInterface 225 v) K = K (.iface 225 v) := B5k C5S (by intro ms h; cases h) v
@[simp] theorem D1U {k1 : IntKind} {hi : Int} {len cap : Nat} (a : Option Addr) (h0 : 0 ≤ hi) (h1 : hi ≤ cap) (K : Value → WP) : A0 PR (Instr.sliceAt 147 (.slice a len cap) none (some (.int k1 hi)) none) K = K (slc a 0 hi.toNat cap 2) := C4U B2y A4V a h0 h1
@[simp] theorem D1g {k1 : IntKind} {lo : Int} {len cap : Nat} (a : Option Addr) (h0 : 0 ≤ lo) (h1 : lo ≤ len) (K : Value → WP) : A0 PR (Instr.sliceAt 147 (.slice a len cap) (some (.int k1 lo)) none none) K = K (slc a lo.toNat len cap 2) := C46 B2y A4V a h0 h1
@[simp] theorem C9z (b o : Nat) (K : Value → WP) : A0 PR (Instr.sliceAt 159 (.pointer (some ⟨b, o, none⟩)) none none none) K = K (.slice (some ⟨b, o, none⟩) 38 38) := C24 C00 ty5 b o
@[simp] theorem D3H {k1 : IntKind} {hi : Int} {s : ByteArray} (h0 : 0 ≤ hi) (h1 : hi ≤ s.size) (K : Value → WP) : A0 PR (Instr.sliceAt 9 (.string s) none (some (.int k1 hi)) none) K = K (.string (s.extract 0 hi.toNat)) := C3B p9 h0 h1
@[simp] theorem D29 {k1 : IntKind} {lo : Int} {s : ByteArray} (h0 : 0 ≤ lo) (h1 : lo ≤ s.size) (K : Value → WP) : A0 PR (Instr.sliceAt 9 (.string s) (some (.int k1 lo)) none none) K = K (.string (s.extract lo.toNat s.size)) := C2V p9 h0 h1
@[simp] theorem D3a {k1 k2 : IntKind} {lo hi : Int} {s : ByteArray} (h0 : 0 ≤ lo) (h1 : lo ≤ hi) (h2 : hi ≤ s.size) (K : Value → WP) : A0 PR (Instr.sliceAt 9 (.string s) (some (.int k1 lo)) (some (.int k2 hi)) none) K = K (.string (s.extract lo.toNat hi.toNat)) := C3g p9 h0 h1 h2
theorem B9x : TI PR 59 Tryz.t59.desc 1 8 (.map none) := ⟨Tryz.underlying59, Tryz.t59, by kernel_rfl, rfl, rfl, rfl⟩
theorem B6e : TI PR 192 Tryz.t191.desc 1 16 .nilIface := ⟨Tryz.underlying192, Tryz.t192, by kernel_rfl, rfl, rfl, rfl⟩
theorem B6b : TI PR 193 Tryz.t193.desc 1 8 (.map none) := ⟨Tryz.underlying193, Tryz.t193, by kernel_rfl, rfl, rfl, rfl⟩
end Go.Proofs.YtlplkjgcfjdinaaGreat
namespace Go.Proofs.YtlplkjgcfjdinaaGreat
open Go
@[simp] theorem C1g (a b : ByteArray) : (a == b) = decide (a = b) := by
 obtain ⟨x⟩ := a; obtain ⟨y⟩ := b
 have h : ((⟨x⟩ : ByteArray) == ⟨y⟩) = (x == y) := rfl
 rw [h]
 by_cases e : x = y
 ·subst e; simp
 ·simp [e]
@[simp] theorem C9V (a : Array UInt8) : (ByteArray.mk a).size = a.size := rfl
theorem A2n (ns : List Int) : (S7 ns).data.toList = ns.map fun n => UInt8.ofNat n.toNat := by
 have : ∀ (l : List Int) (r : ByteArray), (l.foldl (fun r n => r.push (UInt8.ofNat n.toNat)) r).data.toList = r.data.toList ++ l.map fun n => UInt8.ofNat n.toNat := by
  intro l
  induction l with
  | nil => intro r; simp
  | cons x l ih => intro r; rw [List.foldl_cons, ih]; simp [ByteArray.push]
 have h := this ns ByteArray.empty
 rw [show ByteArray.empty.data.toList = [] from rfl, List.nil_append] at h
 exact h
@[simp] theorem A96 (ns : List Int) : (S7 ns).size = ns.length := by
 have := congrArg List.length (A2n ns)
 rw [List.length_map] at this
 exact this
class TS (t : TypeId) (z : outParam Value) : Prop where
 ti : ∃ d m, TI PR t d 1 m z ∧ S6 d = false
class TG (t : TypeId) (n : outParam Nat) (z : outParam Value) : Prop where
 ti : ∃ d m, TI PR t d n m z ∧ S6 d = true
class TA (t : TypeId) (n : outParam Nat) (z : outParam Value) : Prop where
 ti : ∃ d m, TI PR t d n m z
class SL (t : TypeId) (e : outParam TypeId) (k by' : outParam Nat) (z : outParam Value) : Prop where
 ti : (∃ n m z', TI PR t (.slice e) n m z') ∧ (∃ d, TI PR e d k by' z) ∧ z.cells.size = k
instance TS.ta {t : TypeId} {z : Value} [h : TS t z] : TA t 1 z := ⟨let ⟨d, m, h, _⟩ := h.ti; ⟨d, m, h⟩⟩
instance TG.ta {t : TypeId} {n : Nat} {z : Value} [h : TG t n z] : TA t n z := ⟨let ⟨d, m, h, _⟩ := h.ti; ⟨d, m, h⟩⟩
def rdq (x : Option (List Value)) (G : List Value → WP) (F : WP) : WP := match x with | some l => G l | none => F
@[simp] theorem A5G (l : List Value) (G : List Value → WP) (F : WP) : rdq (some l) G F = G l := id rfl
@[congr] theorem D1D {x x' : Option (List Value)} {G : List Value → WP} {F : WP} (h : x = x') {q : Nat} (hq : Z3 = q) : rdq x G F = rdq x' G F := by rw [h]
@[simp] theorem D2E (xs : List Value) : Q0 xs 0 0 = some [] := by simp [Q0]
@[simp] theorem C9k (x : Value) (xs : List Value) (n : Nat) : Q0 (x :: xs) 0 (n + 1) = (Q0 xs 0 n).map (x :: ·) := by
 simp only [Q0, Nat.zero_add, List.length_cons, List.drop_zero, List.take_succ_cons]
 by_cases h : n ≤ xs.length
 ·rw [if_pos h, if_pos (by omega)]; rfl
 ·rw [if_neg h, if_neg (by omega)]; rfl
@[simp] theorem C9m (x : Value) (xs : List Value) (o n : Nat) : Q0 (x :: xs) (o + 1) n = Q0 xs o n := by
 simp only [Q0, List.length_cons, List.drop_succ_cons]
 by_cases h : o + n ≤ xs.length
 ·rw [if_pos h, if_pos (by omega)]
 ·rw [if_neg h, if_neg (by omega)]
theorem B5e {α : Type} {l : List α} {f : α → List Value} {k i : Nat} {x : α} (hk : ∀ x, (f x).length = k) (hx : l[i]? = some x) : Q0 (l.flatMap f) (i * k) k = some (f x) := by
 obtain ⟨hlt, hx'⟩ := List.getElem?_eq_some_iff.1 hx
 have h1 : (i + 1) * k ≤ l.length * k := Nat.mul_le_mul_right k hlt
 rw [Nat.add_mul] at h1
 rw [Q0, if_pos (by rw [L5 hk]; omega), B02 hk, List.drop_eq_getElem_cons hlt, List.flatMap_cons, hx']
 rw [List.take_left' (hk x)]
inductive Sel (r : Res) : List Res → List Res → Prop where
 | here {H : List Res} : Sel r (r :: H) H
 | there {x : Res} {H H' : List Res} : Sel r H H' → Sel r (x :: H) (x :: H')
theorem Sel.perm {r : Res} {H Hr : List Res} (h : Sel r H Hr) : H.Perm (r :: Hr) := by
 induction h with
 | here => exact .refl _
 | there _ ih => exact (ih.cons _).trans (.swap ..)
theorem Sel.sub {r : Res} {H Hr : List Res} (h : Sel r H Hr) : Hr.Sublist H := by
 induction h with
 | here => exact List.sublist_cons_self ..
 | there _ ih => exact ih.cons_cons _
theorem A1 {r : Res} {H : List Res} : r ∈ r :: H := List.mem_cons_self ..
theorem uH {r r' : Res} {H : List Res} : Up r r' (r :: H) (r' :: H) := Up.here
theorem uT {r r' x : Res} {H H' : List Res} (h : Up r r' H H') : Up r r' (x :: H) (x :: H') := Up.there h
theorem A2 {r x : Res} {H : List Res} (h : r ∈ H) : r ∈ x :: H := List.mem_cons_of_mem _ h
inductive Sels : List Res → List Res → Prop where
 | nil {H : List Res} : Sels [] H
 | cons {r : Res} {rs H Hr : List Res} : Sel r H Hr → Sels rs Hr → Sels (r :: rs) H
theorem Sels.sub {rs H : List Res} (h : Sels rs H) : ∃ H', H.Perm H' ∧ rs.Sublist H' := by
 induction h with
 | nil => exact ⟨_, .refl _, List.nil_sublist _⟩
 | cons h1 _ ih => obtain ⟨H', h2, h3⟩ := ih; exact ⟨_ :: H', h1.perm.trans (h2.cons _), h3.cons_cons _⟩
theorem Sels.lw {κ : Bool} {S : List Nat} {w0 w : World} {rs H : List Res} (h : Sels rs H) (hw : LW κ S w0 H w) : LW κ S w0 rs w := let ⟨_, h1, h2⟩ := h.sub; (hw.perm h1).sub h2
theorem Sels.tw {κ : Bool} {S : List Nat} {w0 : World} {rs H : List Res} {K : WP} (h : Sels rs H) (hk : TW κ S w0 rs K) : TW κ S w0 H K := fun w hw => hk w (h.lw hw)
inductive Part : List Res → List Res → List Res → Prop where
 | nil {H : List Res} : Part [] H H
 | cons {r : Res} {rs H H1 Hk : List Res} : Sel r H H1 → Part rs H1 Hk → Part (r :: rs) H Hk
theorem Part.perm {Hc H Hk : List Res} (h : Part Hc H Hk) : H.Perm (Hc ++ Hk) := by
 induction h with
 | nil => exact .refl _
 | cons h1 _ ih => exact h1.perm.trans (ih.cons _)
theorem F9 {κ : Bool} {X : Nat → Prop} {S : List Nat} {w0 : World} {H Hk Hc : List Res} {K : Value → WP} {f : FuncId} {args : List Value} {α : Type} {φ : α → Value → Prop} {Hn : α → List Res} (he : B0 PR f)
  (hf : ∀ w, LW κ S w0 (Hc ++ Hk) w → LW false (C3 Hc) w Hc w → Fn PR B7 f args.toArray w (Rn (C3 Hc) w φ Hn)) (hp : Part Hc H Hk) (hK : ∀ a v, φ a v → TW κ S w0 (Hn a ++ Hk) (K v)) : TW κ S w0 H (B2 PR X f args K) :=
 C2M he hp.perm (fun w hw => let h := hw.perm hp.perm; hf w h (h.sub (List.sublist_append_left _ _)).self) hK
theorem C0 {κ : Bool} {S : List Nat} {w0 : World} {H : List Res} {α : Type} {φ : α → Value → Prop} {Hn : α → List Res} {v : Value} (a : α) (h : φ a v) (hs : Sels (Hn a) H) : TW κ S w0 H (Rn S w0 φ Hn v) := fun w hw => ⟨a, h, hs.lw hw.low⟩
theorem C5Z {κ : Bool} {S : List Nat} {w0 : World} {H : List Res} {F : Value → WP} {A : (Value → WP) → WP} {α : Type} (φ : α → Prop) (Hh : α → List Res) (v1 : α → Value) (hF : ∀ x, φ x → TW κ S w0 (Hh x) (F (v1 x)))
  (hA : ∀ J : Value → WP, (∀ x, φ x → TW κ S w0 (Hh x) (J (v1 x))) → TW κ S w0 H (A J)) : TW κ S w0 H (kt (n := 1) F A) := hA F hF
theorem B3s {κ : Bool} {S : List Nat} {w0 : World} {H : List Res} {F : Value → Value → WP} {A : (Value → Value → WP) → WP} {α : Type} (φ : α → Prop) (Hh : α → List Res) (v1 v2 : α → Value) (hF : ∀ x, φ x → TW κ S w0 (Hh x) (F (v1 x) (v2 x)))
  (hA : ∀ J : Value → Value → WP, (∀ x, φ x → TW κ S w0 (Hh x) (J (v1 x) (v2 x))) → TW κ S w0 H (A J)) : TW κ S w0 H (kt (n := 2) F A) := hA F hF
theorem D4.form {w : World} {v : Value} {n : Nat} {xs : List Value} (h : D4 w v n xs) : ∃ a c, v = .slice a n c ∧ (0 < n → ∃ b o, a = some ⟨b, o, none⟩ ∧ L6 w b o xs) := by
 rcases h with ⟨rfl, rfl, a, c, rfl⟩ | ⟨b, o, c, rfl, hr⟩
 ·exact ⟨a, c, rfl, fun h => absurd h (by omega)⟩
 ·exact ⟨_, c, rfl, fun _ => ⟨b, o, rfl, hr⟩⟩
theorem L6.at {w : World} {b o k : Nat} {α : Type} {l : List α} {f : α → List Value} (h : L6 w b o (l.flatMap f)) (hk : ∀ x, (f x).length = k) {i : Nat} {x : α} (hx : l[i]? = some x) : g4 w b (o + i * k) k = some (f x) := by
 have h1 : L6 w b (o + i * k) (f x) := fun j hj => by
  rw [hk] at hj
  have h2 := Y4 hk l i j hj
  rw [hx] at h2
  have h3 : (l.flatMap f)[i * k + j]? = some ((f x)[j]'(by rw [hk]; exact hj)) := by rw [h2]; simp [List.getElem?_eq_getElem, hk, hj]
  rw [Nat.add_assoc, h.get h3]; simp [List.getElem?_eq_getElem, hk, hj]
 have := A71 h1
 rwa [hk] at this
theorem L6.cellAt {w : World} {b o k : Nat} {α : Type} {l : List α} {f : α → List Value} (h : L6 w b o (l.flatMap f)) (hk : ∀ x, (f x).length = k) {i j : Nat} {x : α} {u : Value} (hx : l[i]? = some x) (hu : (f x)[j]? = some u) : w.cell? ⟨b, o + i * k + j, none⟩ = some u := by
 have hj : j < k := by rw [← hk x]; exact (List.getElem?_eq_some_iff.1 hu).1
 have h2 := Y4 hk l i j hj
 rw [hx] at h2
 rw [Nat.add_assoc]
 exact h.get (by rw [h2]; exact hu)
theorem L6.one {w : World} {b o : Nat} {α : Type} {l : List α} {f : α → Value} (h : L6 w b o (l.map f)) {i : Nat} {x : α} (hx : l[i]? = some x) : w.cell? ⟨b, o + i, none⟩ = some (f x) := h.get (by simp [hx])
section
variable {κ : Bool} {X : Nat → Prop} {S : List Nat} {w0 : World} {H H' Hr : List Res} {K : Value → WP} {K0 : WP} {t e : TypeId} {n k by' : Nat} {z : Value}
theorem C9w {s : Sem Value} {v : Value} (h : ∀ w, LW κ S w0 H w → A6 PR s K w = K v w) : TW κ S w0 H (A6 PR s K) = TW κ S w0 H (K v) := TW.congr h
theorem C1B {s : Sem Value} {v : Value} (hK : TW κ S w0 H (K v)) (h : ∀ w, LW κ S w0 H w → A6 PR s K w = K v w) : TW κ S w0 H (A6 PR s K) := fun w hw => by rw [h w hw]; exact hK w hw
theorem C2u {r : Res} (hs : Sel r H Hr) (h : TW κ S w0 Hr K0) : TW κ S w0 H K0 := h.sub hs.sub
theorem A1n {v : Value} {q : Nat} {xs : List Value} (hm : Res.own e k v q xs ∈ H) (hq : 0 < q) (h : ∀ g c, v = .slice (some ⟨g, 0, none⟩) q c → TW κ S w0 H K0) : TW κ S w0 H K0 := fun w hw => by
 rcases (hw.hold _ hm).2 with ⟨_, rfl⟩ | ⟨g, c, _, rfl, _⟩
 ·omega
 ·exact h g c rfl w hw
@[simp] theorem D3A [h : TS t z] {b o : Nat} {c : Array Value} {T : TypeId} {f : Nat × Nat} (hm : Res.pt b (.cells c T f) ∈ H) :
  TW κ S w0 H (A6 PR (Instr.loadAt t (.pointer (some ⟨b, o, none⟩))) K) = TW κ S w0 H (rdc c[o]? K (far PR t ⟨b, o, none⟩ K)) := let ⟨_, _, h, hd⟩ := h.ti; C6g h hd hm
@[simp] theorem D2K [h : TS t z] {g o : Nat} {k q c : Nat} {xs : List Value} (hm : Res.own e k (.slice (some ⟨g, 0, none⟩) q c) q xs ∈ H) :
  TW κ S w0 H (A6 PR (Instr.loadAt t (.pointer (some ⟨g, o, none⟩))) K) = TW κ S w0 H (rdc xs[o]? K (A6 PR (Instr.loadAt t (.pointer (some ⟨g, o, none⟩))) K)) := by
 cases hv : xs[o]? with
 | none => rfl
 | some v => exact let ⟨_, _, h, hd⟩ := h.ti; C40 h hd hm hv
@[simp] theorem D19 [h : TS t z] {b o : Nat} {v : Value} (hc : w0.cell? ⟨b, o, none⟩ = some v) (hS : b ∉ S) :
  TW κ S w0 H (A6 PR (Instr.loadAt t (.pointer (some ⟨b, o, none⟩))) K) = TW κ S w0 H (K v) := let ⟨_, _, h, hd⟩ := h.ti; C3j h hd hc hS
@[simp] theorem D2F [h : TG t n z] {b o : Nat} {c : Array Value} {T : TypeId} {f : Nat × Nat} (hm : Res.pt b (.cells c T f) ∈ H) :
  TW κ S w0 H (A6 PR (Instr.loadAt t (.pointer (some ⟨b, o, none⟩))) K) = TW κ S w0 H (rdq (Q0 c.toList o n) (fun l => K (.agg l.toArray)) (A6 PR (Instr.loadAt t (.pointer (some ⟨b, o, none⟩))) K)) := by
 cases hl : Q0 c.toList o n with
 | none => rfl
 | some l => exact let ⟨_, _, h, hd⟩ := h.ti; C3k h hd hm hl
@[simp] theorem D1G [h : TG t n z] {g o : Nat} {k q c : Nat} {xs : List Value} (hm : Res.own e k (.slice (some ⟨g, 0, none⟩) q c) q xs ∈ H) :
  TW κ S w0 H (A6 PR (Instr.loadAt t (.pointer (some ⟨g, o, none⟩))) K) = TW κ S w0 H (rdq (Q0 xs o n) (fun l => K (.agg l.toArray)) (A6 PR (Instr.loadAt t (.pointer (some ⟨g, o, none⟩))) K)) := by
 cases hl : Q0 xs o n with
 | none => rfl
 | some l => exact let ⟨_, _, h, hd⟩ := h.ti; C1C h hd hm hl
@[simp] theorem D0F [h : TG t n z] {b o : Nat} {l : List Value} (hc : g4 w0 b o n = some l) (hS : b ∉ S) :
  TW κ S w0 H (A6 PR (Instr.loadAt t (.pointer (some ⟨b, o, none⟩))) K) = TW κ S w0 H (K (.agg l.toArray)) := let ⟨_, _, h, hd⟩ := h.ti; C2f h hd hc hS
@[simp] theorem C7g [h : TS t z] {b o : Nat} {c : Array Value} {T : TypeId} {f : Nat × Nat} (hm : Res.pt b (.cells c T f) ∈ H) {v : Value} (hv : c[o]? = some v) :
  TW κ S w0 H (A6 PR (D0 [.c t (.pointer (some ⟨b, o, none⟩))]) K) = TW κ S w0 H (K v) := let ⟨_, _, h, hd⟩ := h.ti; C7p h hd hm hv
@[simp] theorem D3S [h : TG t n z] {b o : Nat} {c : Array Value} {T : TypeId} {f : Nat × Nat} (hm : Res.pt b (.cells c T f) ∈ H) :
  TW κ S w0 H (A6 PR (D0 [.c t (.pointer (some ⟨b, o, none⟩))]) K) = TW κ S w0 H (rdq (Q0 c.toList o n) (fun l => K (.agg l.toArray)) (A6 PR (D0 [.c t (.pointer (some ⟨b, o, none⟩))]) K)) := by
 cases hl : Q0 c.toList o n with
 | none => rfl
 | some l => exact let ⟨_, _, h, hd⟩ := h.ti; C7L h hd hm hl
@[simp] theorem D22 [h : TG t n z] {b o : Nat} {c : Array Value} {T : TypeId} {f : Nat × Nat} {x : Value} (hm : Res.pt b (.cells c T f) ∈ H) :
  TW κ S w0 H (A6 PR (D0 [.c t (.pointer (some ⟨b, o, none⟩)), .v x]) K) = TW κ S w0 H (rdq (Q0 c.toList o n) (fun l => K (.tuple #[.agg l.toArray, x])) (A6 PR (D0 [.c t (.pointer (some ⟨b, o, none⟩)), .v x]) K)) := by
 cases hl : Q0 c.toList o n with
 | none => rfl
 | some l =>
   obtain ⟨_, _, h, hd⟩ := h.ti
   refine TW.congr fun w hw => ?_
   rw [A5G]
   have hr := v8 hl (L6.bl (hw.pt hm)); have h2 := Y7 hr
   refine d8 ?_ K
   have := Z6 h hd h2.1 h2.2
   simp only [Instr.loadAt, Instr.sureAddr, Sem.run_bind, Sem.run_pure, Result.andThen_ok] at this
   simp [D0, A3B, RV.sem, asAddr, this, one]
@[simp] theorem D3F [h : TG t n z] {b o : Nat} {c : Array Value} {T : TypeId} {f : Nat × Nat} {x y : Value} (hm : Res.pt b (.cells c T f) ∈ H) :
  TW κ S w0 H (A6 PR (D0 [.c t (.pointer (some ⟨b, o, none⟩)), .v x, .v y]) K) = TW κ S w0 H (rdq (Q0 c.toList o n) (fun l => K (.tuple #[.agg l.toArray, x, y])) (A6 PR (D0 [.c t (.pointer (some ⟨b, o, none⟩)), .v x, .v y]) K)) := by
 cases hl : Q0 c.toList o n with
 | none => rfl
 | some l =>
   obtain ⟨_, _, h, hd⟩ := h.ti
   refine TW.congr fun w hw => ?_
   rw [A5G]
   have hr := v8 hl (L6.bl (hw.pt hm)); have h2 := Y7 hr
   refine d8 ?_ K
   have := Z6 h hd h2.1 h2.2
   simp only [Instr.loadAt, Instr.sureAddr, Sem.run_bind, Sem.run_pure, Result.andThen_ok] at this
   simp [D0, A3B, RV.sem, asAddr, this, one]
@[simp] theorem C9Z [h : TS t z] {b o : Nat} {c : Array Value} {T : TypeId} {f : Nat × Nat} {v : Value} {l : List Rd} (hm : Res.pt b (.cells c T f) ∈ H) (hv : c[o]? = some v) :
  TW κ S w0 H (watch PR ((none, Instr.loadAt t (.pointer (some ⟨b, o, none⟩)), v) :: l) K0) = TW κ S w0 H (watch PR l K0) := let ⟨_, _, h, hd⟩ := h.ti; A8M fun w hw => A0N h hd (by rw [N2 (hw.pt hm)]; exact hv)
@[simp] theorem C8E [h : TS t z] {g o : Nat} {k q c : Nat} {xs : List Value} {v : Value} {l : List Rd} (hm : Res.own e k (.slice (some ⟨g, 0, none⟩) q c) q xs ∈ H) (hv : xs[o]? = some v) :
  TW κ S w0 H (watch PR ((none, Instr.loadAt t (.pointer (some ⟨g, o, none⟩)), v) :: l) K0) = TW κ S w0 H (watch PR l K0) := let ⟨_, _, h, hd⟩ := h.ti; A8M fun w hw => A0N h hd (by have := (hw.ownr hm).get hv; rwa [Nat.zero_add] at this)
@[simp] theorem C8K [h : TS t z] {b o : Nat} {v : Value} {l : List Rd} (hc : w0.cell? ⟨b, o, none⟩ = some v) (hS : b ∉ S) :
  TW κ S w0 H (watch PR ((none, Instr.loadAt t (.pointer (some ⟨b, o, none⟩)), v) :: l) K0) = TW κ S w0 H (watch PR l K0) := let ⟨_, _, h, hd⟩ := h.ti; A8M fun w hw => A0N h hd (hw.ks.cell hS hc)
@[simp] theorem D3z [h : TA t n z] {v : Value} {b o : Nat} {c : Array Value} {T : TypeId} (hv : v.cells.size = n)
  (hu : Up (.pt b (.cells c T (0, 0))) (.pt b (.cells (D8 c o v.cells.toList) T (0, 0))) H H') (hs : o + n ≤ c.size) (hp : v.cells.toList.all plain = true) :
  TW κ S w0 H (B6 PR X (Instr.storeAt t (.pointer (some ⟨b, o, none⟩)) v) K0) = TW κ S w0 H' K0 := let ⟨_, _, h⟩ := h.ti; D2G h hv hu hs hp
theorem d9 [h : TA t n z] {v : Value} {g o q c : Nat} {xs : List Value} (hu : Up (.own e k (.slice (some ⟨g, 0, none⟩) q c) q xs) (.own e k (.slice (some ⟨g, 0, none⟩) q c) q (A0H xs o v.cells.toList)) H H')
  (hv : v.cells.size = n) (hs : o + n ≤ xs.length) (hp : v.cells.toList.all plain = true) (hK : TW κ S w0 H' K0) :
  TW κ S w0 H (B6 PR X (Instr.storeAt t (.pointer (some ⟨g, o, none⟩)) v) K0) := let ⟨_, _, h⟩ := h.ti; C4v h hv hu hs hp hK
theorem A5 [h : TA t n z] (hK : ∀ b, TW κ S w0 (.pt b (.cells z.cells t) :: H) (K (.pointer (some ⟨b, 0, none⟩)))) : TW κ S w0 H (B1 PR X (Instr.alloc t true (.tuple #[])) K) := let ⟨_, _, h⟩ := h.ti; D2p h hK
theorem B4F {k1 k2 : IntKind} {l : Int} [h : SL t e k by' z] (h0 : 0 ≤ l) (hb : l * by' ≤ 140737488355328) (hc : l ≤ 9223372036854775807) (hk : 0 < k)
  (hK : ∀ b, TW κ S w0 (.own e k (.slice (some ⟨b, 0, none⟩) l.toNat l.toNat) l.toNat (Builtin.zeroCells z.cells l.toNat).toList :: H) (K (.slice (some ⟨b, 0, none⟩) l.toNat l.toNat))) :
  TW κ S w0 H (B1 PR X (Instr.makeSlice t (.int k1 l) (.int k2 l)) K) := let ⟨⟨_, _, _, h1⟩, ⟨_, h2⟩, h3⟩ := h.ti; D2M h1 h2 h3 hk h0 rfl hb hc hK
theorem E2 [h : SL t e k by' z] (hK : ∀ b, TW κ S w0 (.own e k (.slice (some ⟨b, 0, none⟩) 0 0) 0 [] :: H) (K (.slice (some ⟨b, 0, none⟩) 0 0))) : TW κ S w0 H (B1 PR X (Instr.buildSlice t 0 #[]) K) :=
 let ⟨⟨_, _, _, h1⟩, ⟨_, h2⟩, h3⟩ := h.ti; C9Y h1 h2 hK
theorem C4T {m n q : Nat} (hq : 0 < n) : ∀ (vs : List Value) (i : Nat) (cs : Array Value), (∀ v ∈ vs, v.cells.size = n) → (i + vs.length) * n ≤ cs.size →
  Instr.fill (fun i => some (i * n, n)) cs ((List.range' i vs.length).zip vs) = some (D8 cs (i * n) (vs.flatMap fun v => v.cells.toList)) := by
 intro vs
 induction vs with
 | nil => intro i cs _ _; simp [Instr.fill]
 | cons v vs ih =>
  intro i cs hv hs
  simp only [List.length_cons] at hs
  have hv0 : v.cells.size = n := hv v (by simp)
  have e1 : (i + (vs.length + 1)) * n = i * n + n + vs.length * n := by rw [Nat.add_mul, Nat.add_mul]; omega
  simp only [List.length_cons, List.range'_succ, List.zip_cons_cons]
  rw [B5 rfl hv0 (by omega), ih (i + 1) _ (fun u hu => hv u (by simp [hu])) (by rw [B9]; (have : (i + 1 + vs.length) * n = i * n + n + vs.length * n := by (rw [Nat.add_mul, Nat.add_mul]; omega)); omega)]
  have spl_spl : ∀ (l l' : List Value) (c : Array Value) (o : Nat), D8 (D8 c o l) (o + l.length) l' = D8 c o (l ++ l') := by
   intro l
   induction l with
   | nil => intro l' c o; simp
   | cons u l ih => intro l' c o; simp only [B7u, List.cons_append, List.length_cons]; rw [← ih]; congr 1; omega
  rw [List.flatMap_cons, ← spl_spl]
  congr 2
  have : v.cells.toList.length = n := by simp [hv0]
  rw [this, Nat.add_mul]; omega
theorem B6r {len : Nat} {parts : Array (Nat × Value)} (vs : List Value) [h : SL t e k by' z] (hk : 0 < k) (h0 : 0 < len) (hb : len * k ≤ 2 ^ 24) (hp : parts.toList = (List.range' 0 len).zip vs) (hl : vs.length = len) (hv : ∀ v ∈ vs, v.cells.size = k)
  (hK : ∀ b, TW κ S w0 (.own e k (.slice (some ⟨b, 0, none⟩) len len) len (vs.flatMap fun v => v.cells.toList) :: H) (K (.slice (some ⟨b, 0, none⟩) len len))) :
  TW κ S w0 H (B1 PR X (Instr.buildSlice t len parts) K) := by
 obtain ⟨⟨_, _, _, h1⟩, ⟨_, h2⟩, h3⟩ := h.ti
 have hlen : (vs.flatMap fun v => v.cells.toList).length = len * k := by
  rw [← hl]; clear hp hl hK hb h0
  induction vs with
  | nil => simp
  | cons v vs ih =>
   have := hv v (by simp)
   rw [List.flatMap_cons, List.length_append, ih fun u hu => hv u (by simp [hu])]
   simp only [Array.length_toList, List.length_cons, this]; rw [Nat.add_mul]; omega
 have hf := C4T (m := 0) (q := 0) hk vs 0 ((Array.range (len * k)).map (z.cells[· % z.cells.size]!)) hv (by simp [hl])
 rw [hl, ← hp] at hf
 have hz : D8 ((Array.range (len * k)).map (z.cells[· % z.cells.size]!)) (0 * k) (vs.flatMap fun v => v.cells.toList) = (vs.flatMap fun v => v.cells.toList).toArray := by
  apply Array.toList_inj.1
  rw [A4K _ _ _ (by simp [-List.length_flatMap, hlen])]
  simp only [Nat.zero_mul, List.take_zero, List.nil_append, hlen, Nat.zero_add]
  rw [List.drop_eq_nil_of_le (by simp)]; simp
 refine D15 h1 h2 hb (by have : 0 < len * k := Nat.mul_pos h0 hk; omega) (hf.trans (by rw [hz])) (by simp [-List.length_flatMap, hlen]) ?_
 simpa using hK
theorem E5 {v0 : Value} [h : SL t e k by' z] (hk : 0 < k := by decide) (hb : 1 * k ≤ 2 ^ 24 := by decide) (h0 : v0.cells.size = k := by simp) (hK : ∀ b, TW κ S w0 (.own e k (.slice (some ⟨b, 0, none⟩) 1 1) 1 (v0.cells.toList) :: H) (K (.slice (some ⟨b, 0, none⟩) 1 1))) :
  TW κ S w0 H (B1 PR X (Instr.buildSlice t 1 #[(0, v0)]) K) := B6r [v0] hk (by omega) hb rfl rfl (by intro v hv; simp only [List.mem_cons, List.not_mem_nil, or_false] at hv; subst hv; assumption) (by simpa using hK)
theorem E6 {v0 v1 : Value} [h : SL t e k by' z] (hk : 0 < k := by decide) (hb : 2 * k ≤ 2 ^ 24 := by decide) (h0 : v0.cells.size = k := by simp) (h1 : v1.cells.size = k := by simp) (hK : ∀ b, TW κ S w0 (.own e k (.slice (some ⟨b, 0, none⟩) 2 2) 2 (v0.cells.toList ++ v1.cells.toList) :: H) (K (.slice (some ⟨b, 0, none⟩) 2 2))) :
  TW κ S w0 H (B1 PR X (Instr.buildSlice t 2 #[(0, v0), (1, v1)]) K) := B6r [v0, v1] hk (by omega) hb rfl rfl (by intro v hv; simp only [List.mem_cons, List.not_mem_nil, or_false] at hv; rcases hv with rfl | rfl <;> assumption) (by simpa using hK)
theorem E3 {v0 v1 v2 : Value} [h : SL t e k by' z] (hk : 0 < k := by decide) (hb : 3 * k ≤ 2 ^ 24 := by decide) (h0 : v0.cells.size = k := by simp) (h1 : v1.cells.size = k := by simp) (h2 : v2.cells.size = k := by simp) (hK : ∀ b, TW κ S w0 (.own e k (.slice (some ⟨b, 0, none⟩) 3 3) 3 (v0.cells.toList ++ v1.cells.toList ++ v2.cells.toList) :: H) (K (.slice (some ⟨b, 0, none⟩) 3 3))) :
  TW κ S w0 H (B1 PR X (Instr.buildSlice t 3 #[(0, v0), (1, v1), (2, v2)]) K) := B6r [v0, v1, v2] hk (by omega) hb rfl rfl (by intro v hv; simp only [List.mem_cons, List.not_mem_nil, or_false] at hv; rcases hv with rfl | rfl | rfl <;> assumption) (by simpa using hK)
theorem E1 {v0 v1 v2 v3 v4 : Value} [h : SL t e k by' z] (hk : 0 < k := by decide) (hb : 5 * k ≤ 2 ^ 24 := by decide) (h0 : v0.cells.size = k := by simp) (h1 : v1.cells.size = k := by simp) (h2 : v2.cells.size = k := by simp) (h3 : v3.cells.size = k := by simp) (h4 : v4.cells.size = k := by simp) (hK : ∀ b, TW κ S w0 (.own e k (.slice (some ⟨b, 0, none⟩) 5 5) 5 (v0.cells.toList ++ v1.cells.toList ++ v2.cells.toList ++ v3.cells.toList ++ v4.cells.toList) :: H) (K (.slice (some ⟨b, 0, none⟩) 5 5))) :
  TW κ S w0 H (B1 PR X (Instr.buildSlice t 5 #[(0, v0), (1, v1), (2, v2), (3, v3), (4, v4)]) K) := B6r [v0, v1, v2, v3, v4] hk (by omega) hb rfl rfl (by intro v hv; simp only [List.mem_cons, List.not_mem_nil, or_false] at hv; rcases hv with rfl | rfl | rfl | rfl | rfl <;> assumption) (by simpa using hK)
theorem E4 {v0 v1 v2 v3 v4 v5 : Value} [h : SL t e k by' z] (hk : 0 < k := by decide) (hb : 6 * k ≤ 2 ^ 24 := by decide) (h0 : v0.cells.size = k := by simp) (h1 : v1.cells.size = k := by simp) (h2 : v2.cells.size = k := by simp) (h3 : v3.cells.size = k := by simp) (h4 : v4.cells.size = k := by simp) (h5 : v5.cells.size = k := by simp) (hK : ∀ b, TW κ S w0 (.own e k (.slice (some ⟨b, 0, none⟩) 6 6) 6 (v0.cells.toList ++ v1.cells.toList ++ v2.cells.toList ++ v3.cells.toList ++ v4.cells.toList ++ v5.cells.toList) :: H) (K (.slice (some ⟨b, 0, none⟩) 6 6))) :
  TW κ S w0 H (B1 PR X (Instr.buildSlice t 6 #[(0, v0), (1, v1), (2, v2), (3, v3), (4, v4), (5, v5)]) K) := B6r [v0, v1, v2, v3, v4, v5] hk (by omega) hb rfl rfl (by intro v hv; simp only [List.mem_cons, List.not_mem_nil, or_false] at hv; rcases hv with rfl | rfl | rfl | rfl | rfl | rfl <;> assumption) (by simpa using hK)
theorem V9.form {w : World} {e : TypeId} {k n : Nat} {v : Value} {xs : List Value} (h : V9 w e k v n xs) : ∃ a c, v = .slice a n c := by
 rcases h.2 with ⟨rfl, rfl⟩ | ⟨g, cap, cur, rfl, _⟩
 ·exact ⟨_, _, rfl⟩
 ·exact ⟨_, _, rfl⟩
theorem C7W {q : Nat} {xs : List Value} {A : Value → WP} (h : ∀ a c, TW κ S w0 (.own e k (.slice a q c) q xs :: H) (A (.slice a q c))) (v : Value) : TW κ S w0 (.own e k v q xs :: H) (A v) := fun w hw => by
 obtain ⟨a, c, rfl⟩ := V9.form (hw.hold _ A1)
 exact h a c w hw
theorem V6 {ty : TypeId} {v x : Value} {q r : Nat} {xs news : List Value} [h : SL t e k by' z] (hs : Sel (.own e k v q xs) H Hr) (hx : G0 κ S w0 H x r news) (hk : 0 < k) (hl : news.length = r * k) (hp : news.all plain = true)
  (h63 : q + r ≤ maxLen) (hby : (q + r) * by' ≤ 140737488355328) (hK : ∀ a c, TW κ S w0 (.own e k (.slice a (q + r) c) (q + r) (xs ++ news) :: Hr) (K (.slice a (q + r) c))) : TW κ S w0 H (B1 PR X (A7 .append #[t, t] ty [v, x]) K) := by
 obtain ⟨⟨_, _, _, h1⟩, ⟨_, h2⟩, h3⟩ := h.ti
 refine TW.perm ?_ hs.perm
 exact C9s (H'' := fun v' => .own e k v' (q + r) (xs ++ news) :: Hr) h1 h2 h3 hk (fun v' => .here) (fun w hw => hx w (hw.perm hs.perm.symm)) hl hp h63 hby (C7W hK)
end
end Go.Proofs.YtlplkjgcfjdinaaGreat
namespace Go.Proofs.YtlplkjgcfjdinaaGreat
open Go
instance : TS 3 (.int .i64 0) := ⟨_, _, G3, rfl⟩
instance : TS 4 (.bool false) := ⟨_, _, ty4, rfl⟩
instance : TS 5 (.int .u8 0) := ⟨_, _, ty5, rfl⟩
instance : TS 9 (.string (ByteArray.mk #[])) := ⟨_, _, p9, rfl⟩
instance : TG 23 5 (.agg #[(.int .i64 0), (.int .i64 0), (.int .i64 0), (.int .i64 0), (.int .i64 0)]) := ⟨_, _, A5L, rfl⟩
instance : TS 24 (.slice none 0 0) := ⟨_, _, B74, rfl⟩
instance : SL 24 53 1 24 (.slice none 0 0) := ⟨⟨_, _, _, B74⟩, ⟨_, B4L⟩, rfl⟩
instance : TS 25 (.slice none 0 0) := ⟨_, _, C3s, rfl⟩
instance : TG 27 7 (.agg #[(.int .i64 0), (.int .i64 0), (.int .i64 0), (.int .i64 0), (.int .i64 0), (.slice none 0 0), (.slice none 0 0)]) := ⟨_, _, B4m, rfl⟩
instance : TS 29 .nilFunc := ⟨_, _, C7v, rfl⟩
instance : TS 32 (.slice none 0 0) := ⟨_, _, C01, rfl⟩
instance : SL 32 47 10 80 (.agg #[(.int .i64 0), (.int .i64 0), (.int .i64 0), (.int .i64 0), (.int .i64 0), (.int .i64 0), (.int .i64 0), (.int .i64 0), (.bool false), (.int .i64 0)]) := ⟨⟨_, _, _, C01⟩, ⟨_, A3C⟩, rfl⟩
instance : TS 35 (.slice none 0 0) := ⟨_, _, B4A, rfl⟩
instance : SL 35 3 1 8 (.int .i64 0) := ⟨⟨_, _, _, B4A⟩, ⟨_, G3⟩, rfl⟩
instance : TS 42 (.int .i64 0) := ⟨_, _, B0u, rfl⟩
instance : TG 44 4 (.agg #[(.int .i64 0), (.int .i64 0), (.bool false), (.int .i64 0)]) := ⟨_, _, A3y, rfl⟩
instance : TG 46 10 (.agg #[(.int .i64 0), (.int .i64 0), (.int .i64 0), (.int .i64 0), (.int .i64 0), (.int .i64 0), (.int .i64 0), (.int .i64 0), (.bool false), (.int .i64 0)]) := ⟨_, _, A7H, rfl⟩
instance : TG 47 10 (.agg #[(.int .i64 0), (.int .i64 0), (.int .i64 0), (.int .i64 0), (.int .i64 0), (.int .i64 0), (.int .i64 0), (.int .i64 0), (.bool false), (.int .i64 0)]) := ⟨_, _, A3C, rfl⟩
instance : TS 50 (.slice none 0 0) := ⟨_, _, B0y, rfl⟩
instance : SL 50 129 2 16 (.agg #[(.int .i64 0), (.int .i64 0)]) := ⟨⟨_, _, _, B0y⟩, ⟨_, B1A⟩, rfl⟩
instance : TG 52 4 (.agg #[(.int .i64 0), (.string (ByteArray.mk #[])), (.slice none 0 0), (.int .i64 0)]) := ⟨_, _, A88, rfl⟩
instance : TS 53 (.slice none 0 0) := ⟨_, _, B4L, rfl⟩
instance : SL 53 52 4 56 (.agg #[(.int .i64 0), (.string (ByteArray.mk #[])), (.slice none 0 0), (.int .i64 0)]) := ⟨⟨_, _, _, B4L⟩, ⟨_, A88⟩, rfl⟩
instance : TS 57 .nilFunc := ⟨_, _, D2w, rfl⟩
instance : TS 60 (.pointer none) := ⟨_, _, D18, rfl⟩
instance : TS 66 (.slice none 0 0) := ⟨_, _, B63, rfl⟩
instance : SL 66 79 1 24 (.slice none 0 0) := ⟨⟨_, _, _, B63⟩, ⟨_, B0c⟩, rfl⟩
instance : TG 68 8 (.agg #[(.int .i64 0), (.int .i64 0), (.int .i64 0), (.int .i64 0), (.int .i64 0), (.slice none 0 0), (.slice none 0 0), (.slice none 0 0)]) := ⟨_, _, B4j, rfl⟩
instance : TS 76 (.slice none 0 0) := ⟨_, _, B7q, rfl⟩
instance : SL 76 84 2 32 (.agg #[(.slice none 0 0), (.int .i64 0)]) := ⟨⟨_, _, _, B7q⟩, ⟨_, C0m⟩, rfl⟩
instance : TS 79 (.slice none 0 0) := ⟨_, _, B0c, rfl⟩
instance : SL 79 119 4 40 (.agg #[(.int .i64 0), (.string (ByteArray.mk #[])), (.int .i64 0), (.int .i64 0)]) := ⟨⟨_, _, _, B0c⟩, ⟨_, A2c⟩, rfl⟩
instance : TS 85 .nilFunc := ⟨_, _, D14, rfl⟩
instance : TG 95 4 (.agg #[(.string (ByteArray.mk #[])), (.int .i64 0), (.bool false), (.int .i64 0)]) := ⟨_, _, B2q, rfl⟩
instance : TS 105 .nilFunc := ⟨_, _, C0d, rfl⟩
instance : TG 106 4 (.agg #[.nilFunc, .nilFunc, .nilFunc, .nilFunc]) := ⟨_, _, C0F, rfl⟩
instance : TG 108 6 (.agg #[(.int .i64 0), (.string (ByteArray.mk #[])), (.string (ByteArray.mk #[])), (.int .i64 0), (.int .i64 0), (.int .i64 0)]) := ⟨_, _, A2w, rfl⟩
instance : TG 110 7 (.agg #[(.int .i64 0), (.string (ByteArray.mk #[])), (.string (ByteArray.mk #[])), (.int .i64 0), (.int .i64 0), (.int .i64 0), (.int .i64 0)]) := ⟨_, _, B2w, rfl⟩
instance : TG 119 4 (.agg #[(.int .i64 0), (.string (ByteArray.mk #[])), (.int .i64 0), (.int .i64 0)]) := ⟨_, _, A2c, rfl⟩
instance : TS 122 (.int .u64 0) := ⟨_, _, A6Q, rfl⟩
instance : TG 129 2 (.agg #[(.int .i64 0), (.int .i64 0)]) := ⟨_, _, B1A, rfl⟩
instance : TG 137 5 (.agg #[(.string (ByteArray.mk #[])), (.string (ByteArray.mk #[])), (.string (ByteArray.mk #[])), (.int .i64 0), (.int .i64 0)]) := ⟨_, _, A6C, rfl⟩
instance : TG 140 3 (.agg #[(.int .i64 0), (.int .i64 0), (.int .i64 0)]) := ⟨_, _, B09, rfl⟩
instance : SL 147 179 2 16 (.agg #[(.int .u64 0), (.int .i64 0)]) := ⟨⟨_, _, _, B2y⟩, ⟨_, A4V⟩, rfl⟩
instance : TG 153 3 (.agg #[(.int .i64 0), (.int .i64 0), (.int .i64 0)]) := ⟨_, _, A85, rfl⟩
instance : TG 159 38 (.agg #[(.int .u8 0), (.int .u8 0), (.int .u8 0), (.int .u8 0), (.int .u8 0), (.int .u8 0), (.int .u8 0), (.int .u8 0), (.int .u8 0), (.int .u8 0), (.int .u8 0), (.int .u8 0), (.int .u8 0), (.int .u8 0), (.int .u8 0), (.int .u8 0), (.int .u8 0), (.int .u8 0), (.int .u8 0), (.int .u8 0), (.int .u8 0), (.int .u8 0), (.int .u8 0), (.int .u8 0), (.int .u8 0), (.int .u8 0), (.int .u8 0), (.int .u8 0), (.int .u8 0), (.int .u8 0), (.int .u8 0), (.int .u8 0), (.int .u8 0), (.int .u8 0), (.int .u8 0), (.int .u8 0), (.int .u8 0), (.int .u8 0)]) := ⟨_, _, C00, rfl⟩
instance : TS 160 (.slice none 0 0) := ⟨_, _, B1D, rfl⟩
instance : SL 160 5 1 1 (.int .u8 0) := ⟨⟨_, _, _, B1D⟩, ⟨_, ty5⟩, rfl⟩
instance : TG 164 2 (.agg #[(.int .i64 0), (.int .i64 0)]) := ⟨_, _, B33, rfl⟩
instance : TS 165 .nilFunc := ⟨_, _, C8N, rfl⟩
instance : TG 172 3 (.agg #[(.string (ByteArray.mk #[])), (.string (ByteArray.mk #[])), (.int .i64 0)]) := ⟨_, _, B05, rfl⟩
instance : TG 175 3 (.agg #[(.string (ByteArray.mk #[])), (.string (ByteArray.mk #[])), (.int .i64 0)]) := ⟨_, _, B1P, rfl⟩
instance : TG 179 2 (.agg #[(.int .u64 0), (.int .i64 0)]) := ⟨_, _, A4V, rfl⟩
instance : TG 184 3 (.agg #[(.string (ByteArray.mk #[])), (.string (ByteArray.mk #[])), (.int .i64 0)]) := ⟨_, _, B1L, rfl⟩
instance : TG 188 3 (.agg #[(.string (ByteArray.mk #[])), (.string (ByteArray.mk #[])), (.int .i64 0)]) := ⟨_, _, B04, rfl⟩
instance : TS 205 (.slice none 0 0) := ⟨_, _, B91, rfl⟩
instance : SL 207 164 2 16 (.agg #[(.int .i64 0), (.int .i64 0)]) := ⟨⟨_, _, _, C0p⟩, ⟨_, B33⟩, rfl⟩
instance : TG 219 2 (.agg #[.nilFunc, (.int .i64 0)]) := ⟨_, _, B1N, rfl⟩
instance : SL 221 9 1 16 (.string (ByteArray.mk #[])) := ⟨⟨_, _, _, C5a⟩, ⟨_, p9⟩, rfl⟩
instance : TS 227 .nilFunc := ⟨_, _, C82, rfl⟩
instance : TS 229 (.int .u64 0) := ⟨_, _, C5F, rfl⟩
instance : TS 237 (.slice none 0 0) := ⟨_, _, C0k, rfl⟩
instance : TS 239 (.slice none 0 0) := ⟨_, _, B6Y, rfl⟩
instance : SL 239 241 2 16 (.agg #[(.int .u64 0), (.int .i64 0)]) := ⟨⟨_, _, _, B6Y⟩, ⟨_, A8n⟩, rfl⟩
instance : TG 241 2 (.agg #[(.int .u64 0), (.int .i64 0)]) := ⟨_, _, A8n, rfl⟩
instance : SL 251 219 2 16 (.agg #[.nilFunc, (.int .i64 0)]) := ⟨⟨_, _, _, C0g⟩, ⟨_, B1N⟩, rfl⟩
@[simp] theorem D2n (a0 b0 : Int) (a1 b1 : Int) (a2 b2 : Bool) (a3 b3 : Int) (x y : Operand) (K : Value → WP) : A6 PR (n8 .eql 44 x y (.agg #[.int .i64 a0, .int .i64 a1, .bool a2, .int .i64 a3]) (.agg #[.int .i64 b0, .int .i64 b1, .bool b2, .int .i64 b3])) K = K (.bool (decide (a0 = b0) && (decide (a1 = b1) && ((a2 == b2) && (decide (a3 = b3) && true))))) := funext fun w => C4Z a0 b0 a1 b1 a2 b2 a3 b3 x y K w
@[simp] theorem D1z (a0 b0 : Int) (a1 b1 : Int) (a2 b2 : Bool) (a3 b3 : Int) (x y : Operand) (K : Value → WP) : A6 PR (n8 .neq 44 x y (.agg #[.int .i64 a0, .int .i64 a1, .bool a2, .int .i64 a3]) (.agg #[.int .i64 b0, .int .i64 b1, .bool b2, .int .i64 b3])) K = K (.bool !(decide (a0 = b0) && (decide (a1 = b1) && ((a2 == b2) && (decide (a3 = b3) && true))))) := funext fun w => C36 a0 b0 a1 b1 a2 b2 a3 b3 x y K w
end Go.Proofs.YtlplkjgcfjdinaaGreat
namespace Go.Proofs.YtlplkjgcfjdinaaGreat
open Go
def B4K (n i : Nat) : List Value := [.int .i64 (i : Int), .int .u64 (8 * ((n : Int) - 1 - i))]
abbrev C1l (b : Nat) : Value := .func (.func 150) #[] #[.pointer (some ⟨b, 0, none⟩)]
theorem B7C (w : World) (n : Int) : Fn PR B7 122 #[.int .i64 n] w (Rn [] w (fun b v => v = C1l b) fun b => [.pt b (.cells #[.int .i64 n] 3)]) := by
 refine B4g (TW.go (κ := false) (S := []) ?_)
 unfold A8S
 (have zz:=trivial;repeat((first|clear zz|with_reducible first|refine A3 ?_|refine A4 fun _=>?_|refine A5 fun _=>?_);try simp(disch:=first|omega|assumption|((repeat(first|exact A1|exact uH|apply A2|apply uT));first|done|fail)|(simp;first|done|omega|fail))[]))
 rename_i b
 exact A0K b rfl (by simp)
theorem B68 (b : Nat) {n : Nat} (hn : n ≤ 8) : A4U (C1l b) [.pt b (.cells #[.int .i64 (n : Int)] 3)] (fun _ _ => True) ((List.range n).map (B4K n)) := by
 refine ⟨_, _, _, rfl, fun l J E hJ hE stJ stE hy w0 h0 => ?_⟩
 refine B1Z (B1S (TW.at (κ := true) ?_ (hJ _ _ _ h0).1))
 unfold A4F
 (have zz:=trivial;repeat((first|clear zz|with_reducible first|refine A3 ?_|refine A4 fun _=>?_|refine A5 fun _=>?_);try simp(disch:=first|omega|assumption|((repeat(first|exact A1|exact uH|apply A2|apply uT));first|done|fail)|(simp;first|done|omega|fail))[]))
 refine A5B n (fun i => i) (fun _ => _) hJ stJ h0 fun i a hi hJi _ L hL => ?_
 by_cases hlt : i < n
 ·(have zz:=trivial;repeat((first|clear zz|with_reducible first|refine A3 ?_|refine A4 fun _=>?_|refine A5 fun _=>?_);try simp(disch:=first|omega|assumption|((repeat(first|exact A1|exact uH|apply A2|apply uT));first|done|fail)|(simp;first|done|omega|fail))[hlt]))
  refine A6n hJ hE stJ hy hJi (by simpa using hlt) (by simp [B4K]) (fun w3 h => ?_) (fun w3 h => ?_)
  ·(have zz:=trivial;repeat((first|clear zz|with_reducible first|refine A3 ?_|refine A4 fun _=>?_|refine A5 fun _=>?_);try simp(disch:=first|omega|assumption|((repeat(first|exact A1|exact uH|apply A2|apply uT));first|done|fail)|(simp;first|done|omega|fail))[]))
   exact fun w' hw' => hL hlt w' (stJ _ _ _ _ _ h hw')
  ·(have zz:=trivial;repeat((first|clear zz|with_reducible first|refine A3 ?_|refine A4 fun _=>?_|refine A5 fun _=>?_);try simp(disch:=first|omega|assumption|((repeat(first|exact A1|exact uH|apply A2|apply uT));first|done|fail)|(simp;first|done|omega|fail))[]))
   exact A3Y stE h
 ·obtain rfl : i = n := by omega
  (have zz:=trivial;repeat((first|clear zz|with_reducible first|refine A3 ?_|refine A4 fun _=>?_|refine A5 fun _=>?_);try simp(disch:=first|omega|assumption|((repeat(first|exact A1|exact uH|apply A2|apply uT));first|done|fail)|(simp;first|done|omega|fail))[]))
  exact A3q stJ (by simpa using hJi)
def C8 (s : ByteArray) (i : Nat) : Nat := (s.data.getD i 0).toNat
def W8 (s : ByteArray) (a : Nat) : Nat → Nat
 | 0 => 0
 | i + 1 => W8 s a i * 256 + C8 s (a + i)
theorem M5 (s : ByteArray) (i : Nat) : C8 s i < 256 := (s.data.getD i 0).toNat_lt
theorem A46 (s : ByteArray) (a i : Nat) : W8 s a i < 256 ^ i := by
 induction i with
 | zero => simp [W8]
 | succ i ih =>
  have := M5 s (a + i)
  simp only [W8, Nat.pow_succ]
  omega
theorem s6 {s : ByteArray} {i : Nat} (h : i < s.size) : ∃ b : UInt8, s[i]? = some b ∧ b.toNat = C8 s i := by
 refine ⟨s[i], by simp [h], ?_⟩
 have h' : i < s.data.size := h
 have e : s.data.getD i 0 = s[i] := by rw [Array.getD_eq_getD_getElem?, Array.getElem?_eq_getElem h']; rfl
 rw [C8, e]
def s8 (s : ByteArray) (a n : Int) : Bool := decide (1 ≤ n ∧ n ≤ 8 ∧ 0 ≤ a ∧ a ≤ s.size - n)
def A2Z (s : ByteArray) (a n : Int) : Int := if s8 s a n = true then (W8 s a.toNat n.toNat : Nat) else 0
theorem A3c (w : World) (s : ByteArray) (hs : s.size < 2 ^ 62) (a n : Int) :
  Fn PR B7 120 #[.string s, .int .i64 a, .int .i64 n] w (fun v w' => v = .tuple #[.int .u64 (A2Z s a n), .bool (s8 s a n)] ∧ C6 [] w w') := by
 refine Fn.pure (B7p (TW.go (κ := false) (S := []) ?_))
 unfold B0v
 by_cases hok : s8 s a n = true
 case neg =>
  have hv : A2Z s a n = 0 := if_neg hok
  have hok' : s8 s a n = false := by simpa using hok
  rw [hv, hok']
  have hc : n < 1 ∨ 8 < n ∨ a < 0 ∨ (s.size : Int) - n < a := by
   simp only [s8, decide_eq_true_eq] at hok; omega
  by_cases h1 : n < 1
  ·(have zz:=trivial;repeat((first|clear zz|with_reducible first|refine A3 ?_|refine A4 fun _=>?_|refine A5 fun _=>?_);try simp(disch:=first|omega|assumption|((repeat(first|exact A1|exact uH|apply A2|apply uT));first|done|fail)|(simp;first|done|omega|fail))[h1])); exact A9 rfl
  by_cases h2 : 8 < n
  ·(have zz:=trivial;repeat((first|clear zz|with_reducible first|refine A3 ?_|refine A4 fun _=>?_|refine A5 fun _=>?_);try simp(disch:=first|omega|assumption|((repeat(first|exact A1|exact uH|apply A2|apply uT));first|done|fail)|(simp;first|done|omega|fail))[h1, h2])); exact A9 rfl
  by_cases h3 : a < 0
  ·(have zz:=trivial;repeat((first|clear zz|with_reducible first|refine A3 ?_|refine A4 fun _=>?_|refine A5 fun _=>?_);try simp(disch:=first|omega|assumption|((repeat(first|exact A1|exact uH|apply A2|apply uT));first|done|fail)|(simp;first|done|omega|fail))[h1, h2, h3])); exact A9 rfl
  have h4 : (s.size : Int) - n < a := by omega
  (have zz:=trivial;repeat((first|clear zz|with_reducible first|refine A3 ?_|refine A4 fun _=>?_|refine A5 fun _=>?_);try simp(disch:=first|omega|assumption|((repeat(first|exact A1|exact uH|apply A2|apply uT));first|done|fail)|(simp;first|done|omega|fail))[h1, h2, h3, h4])); exact A9 rfl
 have hv : A2Z s a n = (W8 s a.toNat n.toNat : Nat) := if_pos hok
 rw [hv, hok]
 simp only [s8, decide_eq_true_eq] at hok
 obtain ⟨m, rfl⟩ : ∃ m : Nat, n = m := ⟨n.toNat, by omega⟩
 obtain ⟨k, rfl⟩ : ∃ k : Nat, a = k := ⟨a.toNat, by omega⟩
 have h1 : ¬ (m : Int) < 1 := by omega
 have h2 : ¬ 8 < (m : Int) := by omega
 have h4 : ¬ (s.size : Int) - m < k := by omega
 have h5 : ¬ (k : Int) < 0 := by omega
 (have zz:=trivial;repeat((first|clear zz|with_reducible first|refine A3 ?_|refine A4 fun _=>?_|refine A5 fun _=>?_);try simp(disch:=first|omega|assumption|((repeat(first|exact A1|exact uH|apply A2|apply uT));first|done|fail)|(simp;first|done|omega|fail))[h1, h2, h4, h5]))
 rename_i bs ba bv
 refine F3 A6A (fun w' _ => B7C w' m) ?_
 rintro b v rfl
 refine A3V (B68 b (n := m) (by omega)) (by simp [B4K]) (fun _ (_ : Unit) => True) (fun i _ => [.pt bv (.cells #[.int .u64 ((W8 s k i * 256 ^ (m - i) : Nat) : Int)] 122), .pt ba (.cells #[.int .i64 (k : Int)] 3), .pt bs (.cells #[.string s] 9)])
  (fun _ (_ : Unit) => False) (fun _ => []) () trivial ?_ ?_ ?_ ?_ (by simp [W8])
 ·intros; trivial
 ·rintro i hi _ F _ K' hK _
  have hi' : i < m := by simpa using hi
  obtain ⟨by0, hb0, hb1⟩ := s6 (s := s) (i := k + i) (by omega)
  have hidx : ((k : Int) + i).toNat = k + i := by omega
  have hbl := M5 s (k + i)
  rw [← hidx] at hb0
  have hsh : (0 : Int) ≤ 8 * ((m : Int) - 1 - i) := by omega
  simp only [List.getElem_map, List.getElem_range, B4K, VF.app]
  (have zz:=trivial;repeat((first|clear zz|with_reducible first|refine A3 ?_|refine A4 fun _=>?_|refine A5 fun _=>?_);try simp(disch:=first|omega|assumption|((repeat(first|exact A1|exact uH|apply A2|apply uT));first|done|fail)|(simp;first|done|omega|fail))[Z0]))
  refine TW.eqH ?_ (hK () trivial)
  have hlt : (W8 s k i * 256 + C8 s (k + i)) * 256 ^ (m - 1 - i) < 2 ^ 64 := by
   have hA : W8 s k (i + 1) < 256 ^ (i + 1) := A46 s k (i + 1)
   have h8 : 256 ^ (i + 1) * 256 ^ (m - 1 - i) ≤ 2 ^ 64 := by
    rw [← Nat.pow_add, show (2 : Nat) ^ 64 = 256 ^ 8 from rfl]
    exact Nat.pow_le_pow_right (by omega) (by omega)
   exact Nat.lt_of_lt_of_le (Nat.mul_lt_mul_of_pos_right hA (Nat.pow_pos (by omega))) h8
  have hval := C5e hbl hlt (by omega)
  rw [show m - (i + 1) = m - 1 - i from by omega]
  simp [W8, ← hval]
  rw [hb1, show (8 * ((m : Int) - 1 - i)).toNat = 8 * (m - 1 - i) from by omega, show m - i = m - 1 - i + 1 from by omega]
 ·rintro _ _
  (have zz:=trivial;repeat((first|clear zz|with_reducible first|refine A3 ?_|refine A4 fun _=>?_|refine A5 fun _=>?_);try simp(disch:=first|omega|assumption|((repeat(first|exact A1|exact uH|apply A2|apply uT));first|done|fail)|(simp;first|done|omega|fail))[]))
  exact A9 (by simp)
 ·rintro _ _ h; exact h.elim
def A6W (v : Int) (n i : Nat) : Int := IntKind.u8.wrap (v.fdiv (2 ^ min (8 * ((n : Int) - 1 - i)).toNat IntKind.u64.bits))
def w8 (v : Int) (n i : Nat) : List Int := (List.range n).map fun j => if j < i then A6W v n j else 0
def F7 (v n : Int) : ByteArray := if 1 ≤ n ∧ n ≤ 8 then S7 (w8 v n.toNat n.toNat) else ByteArray.mk #[]
theorem C4K (v : Int) {n i : Nat} (h : i < n) : (w8 v n i).set i (A6W v n i) = w8 v n (i + 1) := by
 apply List.ext_getElem (by simp [w8])
 intro j h1 h2
 simp only [w8, List.length_set, List.length_map, List.length_range] at h1
 rw [List.getElem_set]
 simp only [w8, List.getElem_map, List.getElem_range]
 by_cases hij : i = j
 ·subst hij; simp
 ·by_cases hj : j < i
  ·simp [hij, hj, Nat.lt_succ_of_lt hj]
  ·have : ¬ j < i + 1 := by omega
   simp [hij, hj, this]
def A62 (v : Int) (n i : Nat) : Array Value := ((w8 v n i).map (Value.int .u8)).toArray
theorem C14 (v : Int) {m : Nat} (h : m ≤ 8) : Builtin.zeroCells (Value.int .u8 0).cells m = A62 v m 0 := by
 have : m = 0 ∨ m = 1 ∨ m = 2 ∨ m = 3 ∨ m = 4 ∨ m = 5 ∨ m = 6 ∨ m = 7 ∨ m = 8 := by omega
 rcases this with rfl | rfl | rfl | rfl | rfl | rfl | rfl | rfl | rfl <;>
  (apply Array.ext'; simp [Builtin.zeroCells, A62, w8, List.range, List.range.loop])
@[simp] theorem D1v {v n : Int} (h1 : 1 ≤ n) (h2 : n ≤ 8) : (F7 v n).size = n.toNat := by simp [F7, h1, h2, w8]
theorem A0J (w : World) (v n : Int) :
  Fn PR B7 95 #[.int .u64 v, .int .i64 n] w (fun u w' => u = .string (F7 v n) ∧ C6 [] w w') := by
 refine Fn.pure (B7e (TW.go (κ := false) (S := []) ?_))
 unfold B0m
 by_cases hok : 1 ≤ n ∧ n ≤ 8
 case neg =>
  have hv : F7 v n = ByteArray.mk #[] := if_neg hok
  rw [hv]
  by_cases h1 : n < 1
  ·(have zz:=trivial;repeat((first|clear zz|with_reducible first|refine A3 ?_|refine A4 fun _=>?_|refine A5 fun _=>?_);try simp(disch:=first|omega|assumption|((repeat(first|exact A1|exact uH|apply A2|apply uT));first|done|fail)|(simp;first|done|omega|fail))[h1])); exact A9 rfl
  ·have h2 : 8 < n := by omega
   (have zz:=trivial;repeat((first|clear zz|with_reducible first|refine A3 ?_|refine A4 fun _=>?_|refine A5 fun _=>?_);try simp(disch:=first|omega|assumption|((repeat(first|exact A1|exact uH|apply A2|apply uT));first|done|fail)|(simp;first|done|omega|fail))[h1, h2])); exact A9 rfl
 have hv : F7 v n = S7 (w8 v n.toNat n.toNat) := if_pos hok
 rw [hv]
 obtain ⟨m, rfl⟩ : ∃ m : Nat, n = m := ⟨n.toNat, by omega⟩
 have h1 : ¬ (m : Int) < 1 := by omega
 have h2 : ¬ 8 < (m : Int) := by omega
 (have zz:=trivial;repeat((first|clear zz|with_reducible first|refine A3 ?_|refine A4 fun _=>?_|refine A5 fun _=>?_);try simp(disch:=first|omega|assumption|((repeat(first|exact A1|exact uH|apply A2|apply uT));first|done|fail)|(simp;first|done|omega|fail))[h1, h2]))
 refine B4F (by omega) (by omega) (by omega) (by omega) fun bs => ?_
 rw [Int.toNat_natCast, C14 v (by omega)]
 (have zz:=trivial;repeat((first|clear zz|with_reducible first|refine A3 ?_|refine A4 fun _=>?_|refine A5 fun _=>?_);try simp(disch:=first|omega|assumption|((repeat(first|exact A1|exact uH|apply A2|apply uT));first|done|fail)|(simp;first|done|omega|fail))[h1, h2]))
 rename_i bv bb
 refine F3 A6A (fun w' _ => B7C w' m) ?_
 rintro b v rfl
 refine A3V (B68 b (n := m) (by omega)) (by simp [B4K]) (fun _ (_ : Unit) => True) (fun i _ => [.pt bb (.cells #[.slice (some ⟨bs, 0, none⟩) m m] 160),
   .own 5 1 (.slice (some ⟨bs, 0, none⟩) m m) m (A62 v m i).toList, .pt bv (.cells #[.int .u64 v] 122)])
  (fun _ (_ : Unit) => False) (fun _ => []) () trivial ?_ ?_ ?_ ?_ (by simp)
 ·intros; trivial
 ·rintro i hi _ F _ K' hK _
  have hi' : i < m := by simpa using hi
  have hsh : (0 : Int) ≤ 8 * ((m : Int) - 1 - i) := by omega
  simp only [List.getElem_map, List.getElem_range, B4K, VF.app]
  (have zz:=trivial;repeat((first|clear zz|with_reducible first|refine A3 ?_|refine A4 fun _=>?_|refine A5 fun _=>?_);try simp(disch:=first|omega|assumption|((repeat(first|exact A1|exact uH|apply A2|apply uT));first|done|fail)|(simp;first|done|omega|fail))[]))
  refine d9 (by (repeat constructor)) (by simp) (by simp [A62, w8]; omega) (by simp) ?_
  refine TW.eqH ?_ (hK () trivial)
  have e : A0H (A62 v m i).toList i [.int .u8 (A6W v m i)] = (A62 v m (i + 1)).toList := by
   rw [B2L (by simp [A62, w8]; omega)]; simp [A62, ← C4K v hi', List.map_set]
  rw [← e]; simp [A6W]
 ·rintro _ _
  (have zz:=trivial;repeat((first|clear zz|with_reducible first|refine A3 ?_|refine A4 fun _=>?_|refine A5 fun _=>?_);try simp(disch:=first|omega|assumption|((repeat(first|exact A1|exact uH|apply A2|apply uT));first|done|fail)|(simp;first|done|omega|fail))[]))
  have hlen : (w8 v m m).length = m := by simp [w8]
  have := fun w' K (hr : L6 w' bs 0 ((w8 v m m).map (Value.int .u8))) => @B11 K w' bs 0 m _ hr
  rw [hlen] at this
  rw [C9w fun w' hw' => this w' _ (by simpa [A62] using hw'.ownr (e := 5) (k := 1) (q := m) (c := m) (xs := (A62 v m m).toList) (by (repeat constructor)))]
  simp only [C8S]
  exact A9 rfl
 ·rintro _ _ h; exact h.elim
end Go.Proofs.YtlplkjgcfjdinaaGreat
