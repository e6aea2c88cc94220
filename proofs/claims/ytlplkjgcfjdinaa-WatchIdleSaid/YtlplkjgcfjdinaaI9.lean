/- The proof of a given statement, a part of it (ShStd ShOctet Ins Tc Tn Oct). No condition but what each lemma says. -/
import Derived.Test.YtlplkjgcfjdinaaI8
set_option linter.unusedVariables false
set_option linter.unusedSimpArgs false
namespace Go.Proofs.Ytlplkjgcfjdinaa
open Go
def G6 (X : Nat → Prop) (t0 t1 : Value) (R : Value → WP) : WP :=
 A0 PR (A7 .len #[37] 0 [t0]) fun t6 =>
 C6 PR X 39 [t0, t6, t1] fun t8 =>
 R (.tuple #[])
theorem N4 : B0 PR 21 := A9 Try.func21 (by kernel_rfl) rfl
theorem N8 {X : Nat → Prop} {t0 t1 : Value} {R : Value → WP} {w : World} (h : G6 X t0 t1 R w) : Fn PR X 21 #[t0, t1] w R := D3 (args := [t0, t1]) mixed Try.func21 (by kernel_rfl) h
def p6 (X : Nat → Prop) (t0 t1 : Value) (R : Value → WP) : WP :=
 C6 PR X 40 [t0] fun t8 =>
 C6 PR X 40 [t1] fun t10 =>
 jn (n := 1) (fun t4 =>
 jn (n := 1) (fun t4_1 =>
 jn (n := 1) (fun t4_2 =>
 jn (n := 1) (fun t4_3 =>
 R (.int .i64 0)) fun J1 =>
 A0 PR (binOp .gtr 3 t0 t1) fun t19 =>
 C9 t19 (
 R (.int .i64 1)) (
 J1 t4_2)) fun J2 =>
 A0 PR (binOp .lss 3 t0 t1) fun t16 =>
 C9 t16 (
 R (.int .i64 (-1))) (
 J2 t4_1)) fun J3 =>
 C9 t10 (
 R (.int .i64 1)) (
 J3 t4)) fun J4 =>
 C9 t8 (
 jn (n := 1) (fun t4_4 =>
 R (.int .i64 (-1))) fun J5 =>
 C9 t10 (
 R (.int .i64 0)) (
 J5 (.int .i64 0))) (
 J4 (.int .i64 0))
theorem A2H : B0 PR 23 := A9 Try.func23 (by kernel_rfl) rfl
theorem A2v {X : Nat → Prop} {t0 t1 : Value} {R : Value → WP} {w : World} (h : p6 X t0 t1 R w) : Fn PR X 23 #[t0, t1] w R := D3 (args := [t0, t1]) mixed Try.func23 (by kernel_rfl) h
def L5 (X : Nat → Prop) (t0 t1 t2 : Value) (R : Value → WP) : WP :=
 jn (n := 2) (fun t7 t8 =>
 C6 PR X 54 [t0, t7, t1, t2] fun t27 =>
 lp (n := 3) (fun L1 t7_1 t8_1 t6 =>
 jn (n := 0) (
 A0 PR (binOp .mul 3 (.int .i64 2) t6) fun t32 =>
 jn (n := 2) (fun t7_2 t8_2 =>
 jn (n := 0) (
 A0 PR (binOp .mul 3 t6 (.int .i64 2)) fun t62 =>
 L1 t7_2 t8_2 t62) fun J2 =>
 A0 PR (binOp .add 3 t7_2 t6) fun t51 =>
 A0 PR (binOp .lss 3 t51 t1) fun t54 =>
 C9 t54 (
 C6 PR X 55 [t0, t7_2, t51, t1, t2] fun t60 =>
 J2) (
 J2)) fun J3 =>
 lp (n := 2) (fun L4 t7_3 t8_3 =>
 jn (n := 0) (
 A0 PR (binOp .add 3 t7_3 t6) fun t40 =>
 C6 PR X 55 [t0, t7_3, t40, t8_3, t2] fun t43 =>
 A0 PR (binOp .mul 3 (.int .i64 2) t6) fun t47 =>
 A0 PR (binOp .add 3 t8_3 t47) fun t48 =>
 L4 t8_3 t48) fun J5 =>
 A0 PR (binOp .leq 3 t8_3 t1) fun t35 =>
 C9 t35 (
 J5) (
 J3 t7_3 t8_3)) (.int .i64 0) t32) fun J6 =>
 A0 PR (binOp .lss 3 t6 t1) fun t30 =>
 C9 t30 (
 J6) (
 R (.tuple #[]))) t7 t8 (.int .i64 20)) fun J7 =>
 lp (n := 2) (fun L8 t7_4 t8_4 =>
 jn (n := 0) (
 C6 PR X 54 [t0, t7_4, t8_4, t2] fun t18 =>
 A0 PR (binOp .add 3 t8_4 (.int .i64 20)) fun t22 =>
 L8 t8_4 t22) fun J9 =>
 A0 PR (binOp .leq 3 t8_4 t1) fun t13 =>
 C9 t13 (
 J9) (
 J7 t7_4 t8_4)) (.int .i64 0) (.int .i64 20)
theorem T4 : B0 PR 39 := A9 Try.func39 (by kernel_rfl) rfl
theorem T7 {X : Nat → Prop} {t0 t1 t2 : Value} {R : Value → WP} {w : World} (h : L5 X t0 t1 t2 R w) : Fn PR X 39 #[t0, t1, t2] w R := D3 (args := [t0, t1, t2]) mixed Try.func39 (by kernel_rfl) h
def x5 (X : Nat → Prop) (t0 : Value) (R : Value → WP) : WP :=
 A0 PR (binOp .neq 3 t0 t0) fun t5 =>
 R t5
theorem A3L : B0 PR 40 := A9 Try.func40 (by kernel_rfl) rfl
theorem A3p {X : Nat → Prop} {t0 : Value} {R : Value → WP} {w : World} (h : x5 X t0 R w) : Fn PR X 40 #[t0] w R := D3 (args := [t0]) mixed Try.func40 (by kernel_rfl) h
theorem A0Y {X : Nat → Prop} {t0 : Value} {K : Value → WP} {w : World} (h : Fn PR X 40 #[t0] w K) : C6 PR X 40 [t0] K w := Or.inl ⟨A3L, h⟩
def Q3 (X : Nat → Prop) (t0 t1 : Value) (R : Value → WP) : WP :=
 C6 PR X 56 [t0] fun t7 =>
 A0 PR (r5 t0) fun t10 =>
 A0 PR (Instr.fieldAt 101 t10 1) fun t11 =>
 A6 PR (Instr.loadAt 99 t11) fun t12 =>
 B1 PR X (A7 .append #[99, 9] 99 [t12, t1]) fun t14 =>
 A0 PR (r5 t0) fun t15 =>
 A0 PR (Instr.fieldAt 101 t15 1) fun t16 =>
 C8 PR X (Instr.storeAt 99 t16 t14) <|
 A0 PR (A7 .len #[9] 0 [t1]) fun t18 =>
 R (.tuple #[t18, .nilIface])
theorem E8 : B0 PR 44 := A9 Try.func44 (by kernel_rfl) rfl
theorem j3 {X : Nat → Prop} {t0 t1 : Value} {R : Value → WP} {w : World} (h : Q3 X t0 t1 R w) : Fn PR X 44 #[t0, t1] w R := D3 (args := [t0, t1]) mixed Try.func44 (by kernel_rfl) h
def V4 (X : Nat → Prop) (t0 : Value) (R : Value → WP) : WP :=
 drw <|
 A0 PR (r5 t0) fun t4 =>
 A0 PR (Instr.fieldAt 101 t4 1) fun t5 =>
 A6 PR (Instr.loadAt 99 t5) fun t6 =>
 A0 PR (r5 t0) fun t9 =>
 A0 PR (Instr.fieldAt 101 t9 1) fun t10 =>
 A6 PR (Instr.loadAt 99 t10) fun t11 =>
 A0 PR (A7 .len #[99] 0 [t11]) fun t12 =>
 B1 PR X (A7 .unsafeSliceData #[99] 133 [t6]) fun t7 =>
 watch PR [(none, (Instr.loadAt 99 t10), t11)] <|
 B1 PR X (A7 .unsafeString #[133, 3] 9 [t7, t12]) fun t13 =>
 R t13
theorem r4 : B0 PR 45 := A9 Try.func45 (by kernel_rfl) rfl
theorem u9 {X : Nat → Prop} {t0 : Value} {R : Value → WP} {w : World} (h : V4 X t0 R w) : Fn PR X 45 #[t0] w R := D3 (args := [t0]) mixed Try.func45 (by kernel_rfl) h
def G5 (X : Nat → Prop) (t0 t1 : Value) (R : Value → WP) : WP :=
 jn (n := 2) (fun t4 t8 =>
 R (.int .i64 (-1))) fun J1 =>
 A0 PR (A7 .len #[51] 0 [t0]) fun t7 =>
 lp (n := 2) (fun L2 t4_1 t8_1 =>
 A0 PR (binOp .lss 3 t8_1 t7) fun t9 =>
 jn (n := 0) (
 jn (n := 1) (fun t4_2 =>
 A0 PR (binOp .add 3 t8_1 (.int .i64 1)) fun t18 =>
 L2 t4_2 t18) fun J3 =>
 A0 PR (Instr.indexAt 51 t0 t8_1) fun t14 =>
 A6 PR (Instr.loadAt 124 t14) fun t15 =>
 F3 PR X t1 [t15] fun t16 =>
 C9 t16 (
 R t8_1) (
 J3 t4_1)) fun J4 =>
 C9 t9 (
 J4) (
 J1 t4_1 t8_1)) (.int .i64 0) (.int .i64 0)
theorem Q9 : B0 PR 52 := A9 Try.func52 (by kernel_rfl) rfl
theorem S1 {X : Nat → Prop} {t0 t1 : Value} {R : Value → WP} {w : World} (h : G5 X t0 t1 R w) : Fn PR X 52 #[t0, t1] w R := D3 (args := [t0, t1]) mixed Try.func52 (by kernel_rfl) h
def G0 (X : Nat → Prop) (t0 t1 t2 t3 : Value) (R : Value → WP) : WP :=
 A0 PR (binOp .add 3 t1 (.int .i64 1)) fun t11 =>
 lp (n := 1) (fun L1 t8 =>
 jn (n := 0) (
 jn (n := 1) (fun t9 =>
 A0 PR (binOp .add 3 t8 (.int .i64 1)) fun t16 =>
 L1 t16) fun J2 =>
 lp (n := 1) (fun L3 t9_1 =>
 jn (n := 0) (
 jn (n := 0) (
 A0 PR (binOp .sub 3 t9_1 (.int .i64 1)) fun t36 =>
 L3 t36) fun J4 =>
 drw <|
 A0 PR (binOp .sub 3 t9_1 (.int .i64 1)) fun t41 =>
 A0 PR (binOp .sub 3 t9_1 (.int .i64 1)) fun t44 =>
 A0 PR (Instr.indexAt 37 t0 t44) fun t45 =>
 A6 PR (Instr.loadAt 3 t45) fun t46 =>
 A0 PR (Instr.indexAt 37 t0 t9_1) fun t49 =>
 A6 PR (Instr.loadAt 3 t49) fun t50 =>
 A0 PR (Instr.indexAt 37 t0 t9_1) fun t51 =>
 C8 PR X (Instr.storeAt 3 t51 t46) <|
 A0 PR (Instr.indexAt 37 t0 t41) fun t52 =>
 C8 PR X (Instr.storeAt 3 t52 t50) <|
 J4) fun J5 =>
 drw <|
 A0 PR (binOp .gtr 3 t9_1 t1) fun t20 =>
 gj t20 true (fun J => J t3) fun t22 =>
 gj t20 true (fun J => J t0) fun t23 =>
 gj t20 true (fun J => J t9_1) fun t24 =>
 gj t20 true (fun J => A0 PR (Instr.indexAt 37 t23 t24) J) fun t25 =>
 gj t20 true (fun J => A6 PR (Instr.loadAt 3 t25) J) fun t26 =>
 gj t20 true (fun J => J t0) fun t27 =>
 gj t20 true (fun J => J t9_1) fun t28 =>
 gj t20 true (fun J => A0 PR (binOp .sub 3 t28 (.int .i64 1)) J) fun t29 =>
 gj t20 true (fun J => A0 PR (Instr.indexAt 37 t27 t29) J) fun t30 =>
 gj t20 true (fun J => A6 PR (Instr.loadAt 3 t30) J) fun t31 =>
 gj t20 true (fun J => F3 PR X t22 [t26, t31] J) fun t32 =>
 gj t20 true (fun J => A0 PR (binOp .lss 3 t32 (.int .i64 0)) J) fun t33 =>
 A0 PR (do pure (if ← asBool t20 then t33 else (.bool false))) fun t34 =>
 C9 t34 (
 J5) (
 J2 t9_1)) t8) fun J6 =>
 A0 PR (binOp .lss 3 t8 t2) fun t14 =>
 C9 t14 (
 J6) (
 R (.tuple #[]))) t11
theorem F5 : B0 PR 54 := A9 Try.func54 (by kernel_rfl) rfl
theorem M7 {X : Nat → Prop} {t0 t1 t2 t3 : Value} {R : Value → WP} {w : World} (h : G0 X t0 t1 t2 t3 R w) : Fn PR X 54 #[t0, t1, t2, t3] w R := D3 (args := [t0, t1, t2, t3]) mixed Try.func54 (by kernel_rfl) h
def K3 (X : Nat → Prop) (t0 t1 t2 t3 t4 : Value) (R : Value → WP) : WP :=
 jn (n := 0) (
 jn (n := 0) (
 A0 PR (binOp .add 3 t1 t3) fun t131 =>
 A0 PR (convert 3 119 t131) fun t132 =>
 A0 PR (binOp .shr 119 t132 (.int .u64 1)) fun t133 =>
 A0 PR (convert 119 3 t133) fun t134 =>
 A0 PR (binOp .add 3 t134 t2) fun t137 =>
 jn (n := 2) (fun t20 t21 =>
 A0 PR (binOp .sub 3 t137 (.int .i64 1)) fun t148 =>
 jn (n := 2) (fun t20_1 t21_1 =>
 A0 PR (binOp .sub 3 t137 t20_1) fun t177 =>
 jn (n := 0) (
 jn (n := 0) (
 A0 PR (binOp .lss 3 t134 t177) fun t208 =>
 gj t208 true (fun J => J t177) fun t210 =>
 gj t208 true (fun J => J t3) fun t211 =>
 gj t208 true (fun J => A0 PR (binOp .lss 3 t210 t211) J) fun t212 =>
 A0 PR (do pure (if ← asBool t208 then t212 else (.bool false))) fun t213 =>
 C9 t213 (
 C6 PR X 55 [t0, t134, t177, t3, t4] fun t219 =>
 R (.tuple #[])) (
 R (.tuple #[]))) fun J1 =>
 A0 PR (binOp .lss 3 t1 t20_1) fun t194 =>
 gj t194 true (fun J => J t20_1) fun t196 =>
 gj t194 true (fun J => J t134) fun t197 =>
 gj t194 true (fun J => A0 PR (binOp .lss 3 t196 t197) J) fun t198 =>
 A0 PR (do pure (if ← asBool t194 then t198 else (.bool false))) fun t199 =>
 C9 t199 (
 C6 PR X 55 [t0, t1, t20_1, t134, t4] fun t205 =>
 J1) (
 J1)) fun J2 =>
 A0 PR (binOp .lss 3 t20_1 t2) fun t180 =>
 gj t180 true (fun J => J t2) fun t182 =>
 gj t180 true (fun J => J t177) fun t183 =>
 gj t180 true (fun J => A0 PR (binOp .lss 3 t182 t183) J) fun t184 =>
 A0 PR (do pure (if ← asBool t180 then t184 else (.bool false))) fun t185 =>
 C9 t185 (
 C6 PR X 62 [t0, t20_1, t2, t177, t4] fun t191 =>
 J2) (
 J2)) fun J3 =>
 lp (n := 2) (fun L4 t20_2 t21_2 =>
 jn (n := 0) (
 A0 PR (binOp .add 3 t20_2 t21_2) fun t154 =>
 A0 PR (convert 3 119 t154) fun t155 =>
 A0 PR (binOp .shr 119 t155 (.int .u64 1)) fun t156 =>
 A0 PR (convert 119 3 t156) fun t157 =>
 drw <|
 A0 PR (binOp .sub 3 t148 t157) fun t162 =>
 A0 PR (Instr.indexAt 37 t0 t162) fun t163 =>
 A6 PR (Instr.loadAt 3 t163) fun t164 =>
 A0 PR (Instr.indexAt 37 t0 t157) fun t167 =>
 A6 PR (Instr.loadAt 3 t167) fun t168 =>
 F3 PR X t4 [t164, t168] fun t169 =>
 A0 PR (binOp .lss 3 t169 (.int .i64 0)) fun t170 =>
 A0 PR (Op.unary .not t170) fun t171 =>
 C9 t171 (
 A0 PR (binOp .add 3 t157 (.int .i64 1)) fun t173 =>
 L4 t173 t21_2) (
 L4 t20_2 t157)) fun J5 =>
 A0 PR (binOp .lss 3 t20_2 t21_2) fun t151 =>
 C9 t151 (
 J5) (
 J3 t20_2 t21_2)) t20 t21) fun J6 =>
 A0 PR (binOp .gtr 3 t2 t134) fun t140 =>
 C9 t140 (
 A0 PR (binOp .sub 3 t137 t3) fun t143 =>
 J6 t143 t134) (
 J6 t1 t2)) fun J7 =>
 A0 PR (binOp .sub 3 t3 t2) fun t79 =>
 A0 PR (binOp .eql 3 t79 (.int .i64 1)) fun t80 =>
 C9 t80 (
 jn (n := 2) (fun t14 t15 =>
 jn (n := 1) (fun t17 =>
 R (.tuple #[])) fun J8 =>
 lp (n := 1) (fun L9 t17_1 =>
 jn (n := 0) (
 jn (n := 0) (
 A0 PR (binOp .sub 3 t17_1 (.int .i64 1)) fun t112 =>
 L9 t112) fun J10 =>
 drw <|
 A0 PR (binOp .sub 3 t17_1 (.int .i64 1)) fun t117 =>
 A0 PR (binOp .sub 3 t17_1 (.int .i64 1)) fun t120 =>
 A0 PR (Instr.indexAt 37 t0 t120) fun t121 =>
 A6 PR (Instr.loadAt 3 t121) fun t122 =>
 A0 PR (Instr.indexAt 37 t0 t17_1) fun t125 =>
 A6 PR (Instr.loadAt 3 t125) fun t126 =>
 A0 PR (Instr.indexAt 37 t0 t17_1) fun t127 =>
 C8 PR X (Instr.storeAt 3 t127 t122) <|
 A0 PR (Instr.indexAt 37 t0 t117) fun t128 =>
 C8 PR X (Instr.storeAt 3 t128 t126) <|
 J10) fun J11 =>
 A0 PR (binOp .gtr 3 t17_1 t14) fun t110 =>
 C9 t110 (
 J11) (
 J8 t17_1)) t2) fun J12 =>
 lp (n := 2) (fun L13 t14_1 t15_1 =>
 jn (n := 0) (
 A0 PR (binOp .add 3 t14_1 t15_1) fun t88 =>
 A0 PR (convert 3 119 t88) fun t89 =>
 A0 PR (binOp .shr 119 t89 (.int .u64 1)) fun t90 =>
 A0 PR (convert 119 3 t90) fun t91 =>
 drw <|
 A0 PR (Instr.indexAt 37 t0 t2) fun t95 =>
 A6 PR (Instr.loadAt 3 t95) fun t96 =>
 A0 PR (Instr.indexAt 37 t0 t91) fun t99 =>
 A6 PR (Instr.loadAt 3 t99) fun t100 =>
 F3 PR X t4 [t96, t100] fun t101 =>
 A0 PR (binOp .lss 3 t101 (.int .i64 0)) fun t102 =>
 A0 PR (Op.unary .not t102) fun t103 =>
 C9 t103 (
 A0 PR (binOp .add 3 t91 (.int .i64 1)) fun t105 =>
 L13 t105 t15_1) (
 L13 t14_1 t91)) fun J14 =>
 A0 PR (binOp .lss 3 t14_1 t15_1) fun t85 =>
 C9 t85 (
 J14) (
 J12 t14_1 t15_1)) t1 t2) (
 J7)) fun J15 =>
 A0 PR (binOp .sub 3 t2 t1) fun t27 =>
 A0 PR (binOp .eql 3 t27 (.int .i64 1)) fun t28 =>
 C9 t28 (
 jn (n := 2) (fun t10 t11 =>
 jn (n := 1) (fun t13 =>
 R (.tuple #[])) fun J16 =>
 lp (n := 1) (fun L17 t13_1 =>
 jn (n := 0) (
 jn (n := 0) (
 A0 PR (binOp .add 3 t13_1 (.int .i64 1)) fun t60 =>
 L17 t60) fun J18 =>
 drw <|
 A0 PR (binOp .add 3 t13_1 (.int .i64 1)) fun t65 =>
 A0 PR (binOp .add 3 t13_1 (.int .i64 1)) fun t68 =>
 A0 PR (Instr.indexAt 37 t0 t68) fun t69 =>
 A6 PR (Instr.loadAt 3 t69) fun t70 =>
 A0 PR (Instr.indexAt 37 t0 t13_1) fun t73 =>
 A6 PR (Instr.loadAt 3 t73) fun t74 =>
 A0 PR (Instr.indexAt 37 t0 t13_1) fun t75 =>
 C8 PR X (Instr.storeAt 3 t75 t70) <|
 A0 PR (Instr.indexAt 37 t0 t65) fun t76 =>
 C8 PR X (Instr.storeAt 3 t76 t74) <|
 J18) fun J19 =>
 A0 PR (binOp .sub 3 t10 (.int .i64 1)) fun t57 =>
 A0 PR (binOp .lss 3 t13_1 t57) fun t58 =>
 C9 t58 (
 J19) (
 J16 t13_1)) t1) fun J20 =>
 lp (n := 2) (fun L21 t10_1 t11_1 =>
 jn (n := 0) (
 A0 PR (binOp .add 3 t10_1 t11_1) fun t36 =>
 A0 PR (convert 3 119 t36) fun t37 =>
 A0 PR (binOp .shr 119 t37 (.int .u64 1)) fun t38 =>
 A0 PR (convert 119 3 t38) fun t39 =>
 drw <|
 A0 PR (Instr.indexAt 37 t0 t39) fun t43 =>
 A6 PR (Instr.loadAt 3 t43) fun t44 =>
 A0 PR (Instr.indexAt 37 t0 t1) fun t47 =>
 A6 PR (Instr.loadAt 3 t47) fun t48 =>
 F3 PR X t4 [t44, t48] fun t49 =>
 A0 PR (binOp .lss 3 t49 (.int .i64 0)) fun t50 =>
 C9 t50 (
 A0 PR (binOp .add 3 t39 (.int .i64 1)) fun t52 =>
 L21 t52 t11_1) (
 L21 t10_1 t39)) fun J22 =>
 A0 PR (binOp .lss 3 t10_1 t11_1) fun t33 =>
 C9 t33 (
 J22) (
 J20 t10_1 t11_1)) t2 t3) (
 J15)
theorem H7 : B0 PR 55 := A9 Try.func55 (by kernel_rfl) rfl
theorem S0 {X : Nat → Prop} {t0 t1 t2 t3 t4 : Value} {R : Value → WP} {w : World} (h : K3 X t0 t1 t2 t3 t4 R w) : Fn PR X 55 #[t0, t1, t2, t3, t4] w R := D3 (args := [t0, t1, t2, t3, t4]) mixed Try.func55 (by kernel_rfl) h
def T2 (X : Nat → Prop) (t0 : Value) (R : Value → WP) : WP :=
 A0 PR (r5 t0) fun t3 =>
 A0 PR (Instr.fieldAt 101 t3 0) fun t4 =>
 A6 PR (Instr.loadAt 98 t4) fun t5 =>
 A6 PR (Z1 .eql 98 (.tmp 5) (.const (.pointer none)) t5 (.pointer none)) fun t6 =>
 C9 t6 (
 A6 PR (convert 98 141 t0) fun t9 =>
 C6 PR X 63 [t9] fun t10 =>
 A6 PR (convert 141 98 t10) fun t11 =>
 A0 PR (r5 t0) fun t12 =>
 A0 PR (Instr.fieldAt 101 t12 0) fun t13 =>
 C8 PR X (Instr.storeAt 98 t13 t11) <|
 R (.tuple #[])) (
 A0 PR (r5 t0) fun t15 =>
 A0 PR (Instr.fieldAt 101 t15 0) fun t16 =>
 A6 PR (Instr.loadAt 98 t16) fun t17 =>
 A6 PR (Z1 .neq 98 (.tmp 17) (.tmp 18) t17 t0) fun t19 =>
 C9 t19 (
 D9) (
 R (.tuple #[])))
theorem k7 : B0 PR 56 := A9 Try.func56 (by kernel_rfl) rfl
theorem m9 {X : Nat → Prop} {t0 : Value} {R : Value → WP} {w : World} (h : T2 X t0 R w) : Fn PR X 56 #[t0] w R := D3 (args := [t0]) mixed Try.func56 (by kernel_rfl) h
def T9 (X : Nat → Prop) (t0 t1 t2 t3 t4 : Value) (R : Value → WP) : WP :=
 A0 PR (binOp .sub 3 t2 t1) fun t14 =>
 A0 PR (binOp .sub 3 t3 t2) fun t17 =>
 jn (n := 2) (fun t10 t11 =>
 A0 PR (binOp .sub 3 t2 t10) fun t53 =>
 C6 PR X 73 [t0, t53, t2, t10, t4] fun t57 =>
 R (.tuple #[])) fun J1 =>
 lp (n := 2) (fun L2 t10_1 t11_1 =>
 jn (n := 0) (
 A0 PR (binOp .gtr 3 t10_1 t11_1) fun t23 =>
 C9 t23 (
 A0 PR (binOp .sub 3 t2 t10_1) fun t27 =>
 C6 PR X 73 [t0, t27, t2, t11_1, t4] fun t31 =>
 A0 PR (binOp .sub 3 t10_1 t11_1) fun t34 =>
 L2 t34 t11_1) (
 A0 PR (binOp .sub 3 t2 t10_1) fun t38 =>
 A0 PR (binOp .add 3 t2 t11_1) fun t41 =>
 A0 PR (binOp .sub 3 t41 t10_1) fun t43 =>
 C6 PR X 73 [t0, t38, t43, t10_1, t4] fun t46 =>
 A0 PR (binOp .sub 3 t11_1 t10_1) fun t49 =>
 L2 t10_1 t49)) fun J3 =>
 A0 PR (binOp .neq 3 t10_1 t11_1) fun t20 =>
 C9 t20 (
 J3) (
 J1 t10_1 t11_1)) t14 t17
theorem m4 : B0 PR 62 := A9 Try.func62 (by kernel_rfl) rfl
theorem p4 {X : Nat → Prop} {t0 t1 t2 t3 t4 : Value} {R : Value → WP} {w : World} (h : T9 X t0 t1 t2 t3 t4 R w) : Fn PR X 62 #[t0, t1, t2, t3, t4] w R := D3 (args := [t0, t1, t2, t3, t4]) mixed Try.func62 (by kernel_rfl) h
def P6 (X : Nat → Prop) (t0 t1 t2 t3 t4 : Value) (R : Value → WP) : WP :=
 lp (n := 1) (fun L1 t10 =>
 jn (n := 0) (
 jn (n := 0) (
 A0 PR (binOp .add 3 t10 (.int .i64 1)) fun t15 =>
 L1 t15) fun J2 =>
 drw <|
 A0 PR (binOp .add 3 t1 t10) fun t19 =>
 A0 PR (binOp .add 3 t2 t10) fun t23 =>
 A0 PR (binOp .add 3 t2 t10) fun t27 =>
 A0 PR (Instr.indexAt 37 t0 t27) fun t28 =>
 A6 PR (Instr.loadAt 3 t28) fun t29 =>
 A0 PR (binOp .add 3 t1 t10) fun t33 =>
 A0 PR (Instr.indexAt 37 t0 t33) fun t34 =>
 A6 PR (Instr.loadAt 3 t34) fun t35 =>
 A0 PR (Instr.indexAt 37 t0 t19) fun t36 =>
 C8 PR X (Instr.storeAt 3 t36 t29) <|
 A0 PR (Instr.indexAt 37 t0 t23) fun t37 =>
 C8 PR X (Instr.storeAt 3 t37 t35) <|
 J2) fun J3 =>
 A0 PR (binOp .lss 3 t10 t3) fun t13 =>
 C9 t13 (
 J3) (
 R (.tuple #[]))) (.int .i64 0)
theorem H2 : B0 PR 73 := A9 Try.func73 (by kernel_rfl) rfl
theorem g8 {X : Nat → Prop} {t0 t1 t2 t3 t4 : Value} {R : Value → WP} {w : World} (h : P6 X t0 t1 t2 t3 t4 R w) : Fn PR X 73 #[t0, t1, t2, t3, t4] w R := D3 (args := [t0, t1, t2, t3, t4]) mixed Try.func73 (by kernel_rfl) h
theorem n7 : B0 PR 103 := A9 Try.func103 (by kernel_rfl) rfl
end Go.Proofs.Ytlplkjgcfjdinaa
namespace Go.Proofs.Ytlplkjgcfjdinaa
open Go
def A2V (X : Nat → Prop) (t0 t1 : Value) (R : Value → WP) : WP :=
 B1 PR X (Instr.box 112 t0) fun t2 =>
 jn (n := 1) (fun t4 =>
 B1 PR X (Instr.makeSlice 99 t1 t1) fun t15 =>
 B1 PR X (Instr.alloc 99 true (.tuple #[])) fun t5 =>
 C8 PR X (Instr.storeAt 99 t5 t15) <|
 jn (n := 0) (
 A6 PR (Instr.loadAt 99 t5) fun t27 =>
 A6 PR (convert 99 9 t27) fun t28 =>
 y0 (R t28)) fun J1 =>
 C6 PR X 57 [t1] fun t17 =>
 rng (N := 2) PR X (fun t18 t19 K2 =>
 bgn <|
 A6 PR (Instr.loadAt 99 t5) fun t20 =>
 A6 PR (Instr.loadAt 112 t2) fun t22 =>
 A0 PR (binOp .shr 112 t22 t19) fun t24 =>
 A0 PR (convert 112 5 t24) fun t25 =>
 A0 PR (Instr.indexAt 99 t20 t18) fun t26 =>
 C8 PR (fun _ => False) (Instr.storeAt 5 t26 t25) <|
 K2 none) t17 (fun j => match j with | none => (J1) | some (.exit i) => (match Nat.beq i 0 with | true => (J1) | false => (D9)) | some .ret => (y0 (R t4)) | some _ => D9)) fun J3 =>
 A0 PR (binOp .lss 3 t1 (.int .i64 1)) fun t9 =>
 gj t9 false (fun J => J t1) fun t11 =>
 gj t9 false (fun J => A0 PR (binOp .gtr 3 t11 (.int .i64 8)) J) fun t12 =>
 A0 PR (do pure (if ← asBool t9 then (.bool true) else t12)) fun t13 =>
 C9 t13 (
 y0 (R (.string (ByteArray.mk #[])))) (
 J3 (.string (ByteArray.mk #[])))
theorem E2 : B0 PR 47 := A9 Try.func47 (by kernel_rfl) rfl
theorem A7M {X : Nat → Prop} {t0 t1 : Value} {R : Value → WP} {w : World} (h : A2V X t0 t1 R w) : Fn PR X 47 #[t0, t1] w R := D3 (args := [t0, t1]) mixed Try.func47 (by kernel_rfl) h
def A1T (X : Nat → Prop) (t0 : Value) (R : Value → WP) : WP :=
 B1 PR X (Instr.box 3 t0) fun t1 =>
 A0 PR (Instr.makeFunc (.func 64) #[] #[t1]) fun t3 =>
 R t3
theorem A0b : B0 PR 57 := A9 Try.func57 (by kernel_rfl) rfl
theorem A5Q {X : Nat → Prop} {t0 : Value} {R : Value → WP} {w : World} (h : A1T X t0 R w) : Fn PR X 57 #[t0] w R := D3 (args := [t0]) mixed Try.func57 (by kernel_rfl) h
def u4 (X : Nat → Prop) (t0 t1 : Value) (R : Value → WP) : WP :=
 A6 PR (Instr.loadAt 3 t1) fun t4 =>
 lp (n := 1) (fun L1 t5 =>
 A0 PR (binOp .lss 3 t5 t4) fun t6 =>
 jn (n := 0) (
 jn (n := 0) (
 A0 PR (binOp .add 3 t5 (.int .i64 1)) fun t18 =>
 L1 t18) fun J2 =>
 A6 PR (Instr.loadAt 3 t1) fun t10 =>
 A0 PR (binOp .sub 3 t10 (.int .i64 1)) fun t11 =>
 A0 PR (binOp .sub 3 t11 t5) fun t13 =>
 A0 PR (binOp .mul 3 (.int .i64 8) t13) fun t14 =>
 A0 PR (convert 3 119 t14) fun t15 =>
 F3 PR X t0 [t5, t15] fun t16 =>
 A0 PR (Op.unary .not t16) fun t17 =>
 C9 t17 (
 R (.tuple #[])) (
 J2)) fun J3 =>
 C9 t6 (
 J3) (
 R (.tuple #[]))) (.int .i64 0)
theorem A2m : B0 PR 64 := A9 Try.func64 (by kernel_rfl) rfl
theorem A3V {X : Nat → Prop} {t0 t1 : Value} {R : Value → WP} {w : World} (h : u4 X t0 t1 R w) : Fn PR X 64 #[t0, t1] w R := D3 (args := [t0, t1]) mixed Try.func64 (by kernel_rfl) h
theorem A3M {X : Nat → Prop} {t0 t1 : Value} {K : Value → WP} {w : World} (h : Fn PR X 64 #[t0, t1] w K) : A02 PR X 64 [t0, t1] K w := ⟨A2m, h⟩
def A27 (X : Nat → Prop) (t0 t1 t2 : Value) (R : Value → WP) : WP :=
 B1 PR X (Instr.box 9 t0) fun t3 =>
 B1 PR X (Instr.box 3 t1) fun t4 =>
 jn (n := 2) (fun t6 t7 =>
 B1 PR X (Instr.alloc 112 true (.tuple #[])) fun t8 =>
 jn (n := 0) (
 A6 PR (Instr.loadAt 112 t8) fun t43 =>
 y0 (R (.tuple #[t43, (.bool true)]))) fun J1 =>
 C6 PR X 57 [t2] fun t30 =>
 rng (N := 2) PR X (fun t31 t32 K2 =>
 bgn <|
 drw <|
 A6 PR (Instr.loadAt 112 t8) fun t33 =>
 A6 PR (Instr.loadAt 9 t3) fun t34 =>
 A6 PR (Instr.loadAt 3 t4) fun t35 =>
 A0 PR (binOp .add 3 t35 t31) fun t37 =>
 A0 PR (Instr.index 9 t34 t37) fun t38 =>
 A0 PR (convert 5 112 t38) fun t39 =>
 A0 PR (binOp .shl 112 t39 t32) fun t41 =>
 A0 PR (binOp .or 112 t33 t41) fun t42 =>
 C8 PR (fun _ => False) (Instr.storeAt 112 t8 t42) <|
 K2 none) t30 (fun j => match j with | none => (J1) | some (.exit i) => (match Nat.beq i 0 with | true => (J1) | false => (D9)) | some .ret => (y0 (R (.tuple #[t6, t7]))) | some _ => D9)) fun J3 =>
 A0 PR (binOp .lss 3 t2 (.int .i64 1)) fun t12 =>
 gj t12 false (fun J => J t2) fun t14 =>
 gj t12 false (fun J => A0 PR (binOp .gtr 3 t14 (.int .i64 8)) J) fun t15 =>
 A0 PR (do pure (if ← asBool t12 then (.bool true) else t15)) fun t16 =>
 gj t16 false (fun J => A6 PR (Instr.loadAt 3 t4) J) fun t18 =>
 gj t16 false (fun J => A0 PR (binOp .lss 3 t18 (.int .i64 0)) J) fun t19 =>
 A0 PR (do pure (if ← asBool t16 then (.bool true) else t19)) fun t20 =>
 gj t20 false (fun J => A6 PR (Instr.loadAt 3 t4) J) fun t22 =>
 gj t20 false (fun J => A6 PR (Instr.loadAt 9 t3) J) fun t23 =>
 gj t20 false (fun J => A0 PR (A7 .len #[9] 0 [t23]) J) fun t24 =>
 gj t20 false (fun J => J t2) fun t25 =>
 gj t20 false (fun J => A0 PR (binOp .sub 3 t24 t25) J) fun t26 =>
 gj t20 false (fun J => A0 PR (binOp .gtr 3 t22 t26) J) fun t27 =>
 A0 PR (do pure (if ← asBool t20 then (.bool true) else t27)) fun t28 =>
 C9 t28 (
 y0 (R (.tuple #[(.int .u64 0), (.bool false)]))) (
 J3 (.int .u64 0) (.bool false))
theorem J0 : B0 PR 72 := A9 Try.func72 (by kernel_rfl) rfl
theorem A6x {X : Nat → Prop} {t0 t1 t2 : Value} {R : Value → WP} {w : World} (h : A27 X t0 t1 t2 R w) : Fn PR X 72 #[t0, t1, t2] w R := D3 (args := [t0, t1, t2]) mixed Try.func72 (by kernel_rfl) h
end Go.Proofs.Ytlplkjgcfjdinaa
namespace Go.Proofs.Ytlplkjgcfjdinaa
open Go
theorem A3G : TI PR 101 Try.t100.desc 2 32 (.agg #[(.pointer none), (.slice none 0 0)]) := ⟨Try.underlying101, Try.t101, by kernel_rfl, rfl, rfl, rfl⟩
theorem B2f : TI PR 103 Try.t102.desc 2 32 (.agg #[(.pointer none), (.slice none 0 0)]) := ⟨Try.underlying103, Try.t103, by kernel_rfl, rfl, rfl, rfl⟩
theorem A4U : TI PR 112 Try.t112.desc 1 8 (.int .u64 0) := ⟨Try.underlying112, Try.t112, by kernel_rfl, rfl, rfl, rfl⟩
theorem A9j : TI PR 118 Try.t118.desc 38 38 (.agg #[(.int .u8 0), (.int .u8 0), (.int .u8 0), (.int .u8 0), (.int .u8 0), (.int .u8 0), (.int .u8 0), (.int .u8 0), (.int .u8 0), (.int .u8 0), (.int .u8 0), (.int .u8 0), (.int .u8 0), (.int .u8 0), (.int .u8 0), (.int .u8 0), (.int .u8 0), (.int .u8 0), (.int .u8 0), (.int .u8 0), (.int .u8 0), (.int .u8 0), (.int .u8 0), (.int .u8 0), (.int .u8 0), (.int .u8 0), (.int .u8 0), (.int .u8 0), (.int .u8 0), (.int .u8 0), (.int .u8 0), (.int .u8 0), (.int .u8 0), (.int .u8 0), (.int .u8 0), (.int .u8 0), (.int .u8 0), (.int .u8 0)]) := ⟨Try.underlying118, Try.t118, by kernel_rfl, rfl, rfl, rfl⟩
theorem A3J : TI PR 161 Try.t160.desc 2 16 (.agg #[.nilFunc, (.int .i64 0)]) := ⟨Try.underlying161, Try.t161, by kernel_rfl, rfl, rfl, rfl⟩
theorem A2P : TI PR 23 Try.t22.desc 5 40 (.agg #[(.int .i64 0), (.int .i64 0), (.int .i64 0), (.int .i64 0), (.int .i64 0)]) := ⟨Try.underlying23, Try.t23, by kernel_rfl, rfl, rfl, rfl⟩
theorem H5 : TI PR 3 Try.t3.desc 1 8 (.int .i64 0) := ⟨Try.underlying3, Try.t3, by kernel_rfl, rfl, rfl, rfl⟩
theorem A9V : TI PR 35 Try.t35.desc 1 24 (.slice none 0 0) := ⟨Try.underlying35, Try.t35, by kernel_rfl, rfl, rfl, rfl⟩
theorem A9p : TI PR 37 Try.t37.desc 1 24 (.slice none 0 0) := ⟨Try.underlying37, Try.t37, by kernel_rfl, rfl, rfl, rfl⟩
theorem A48 : TI PR 39 Try.t39.desc 2 16 (.agg #[(.int .i64 0), (.int .i64 0)]) := ⟨Try.underlying39, Try.t39, by kernel_rfl, rfl, rfl, rfl⟩
theorem y7 : TI PR 48 Try.t47.desc 6 64 (.agg #[(.int .i64 0), (.string (ByteArray.mk #[])), (.string (ByteArray.mk #[])), (.int .i64 0), (.int .i64 0), (.int .i64 0)]) := ⟨Try.underlying48, Try.t48, by kernel_rfl, rfl, rfl, rfl⟩
theorem A5d : TI PR 50 Try.t49.desc 7 72 (.agg #[(.int .i64 0), (.string (ByteArray.mk #[])), (.string (ByteArray.mk #[])), (.int .i64 0), (.int .i64 0), (.int .i64 0), (.int .i64 0)]) := ⟨Try.underlying50, Try.t50, by kernel_rfl, rfl, rfl, rfl⟩
theorem r7 : TI PR 58 Try.t57.desc 10 80 (.agg #[(.int .i64 0), (.int .i64 0), (.int .i64 0), (.int .i64 0), (.int .i64 0), (.int .i64 0), (.int .i64 0), (.int .i64 0), (.bool false), (.int .i64 0)]) := ⟨Try.underlying58, Try.t58, by kernel_rfl, rfl, rfl, rfl⟩
theorem A9u : TI PR 64 Try.t64.desc 1 24 (.slice none 0 0) := ⟨Try.underlying64, Try.t64, by kernel_rfl, rfl, rfl, rfl⟩
theorem A20 : TI PR 70 Try.t69.desc 16 160 (.agg #[(.int .i64 0), (.int .i64 0), (.int .i64 0), (.int .i64 0), (.int .i64 0), (.int .i64 0), (.int .i64 0), (.int .i64 0), (.bool false), (.int .i64 0), (.int .i64 0), (.string (ByteArray.mk #[])), (.slice none 0 0), (.int .i64 0), (.string (ByteArray.mk #[])), (.bool false)]) := ⟨Try.underlying70, Try.t70, by kernel_rfl, rfl, rfl, rfl⟩
theorem B72 : TI PR 73 Try.t73.desc 1 8 .nilFunc := ⟨Try.underlying73, Try.t73, by kernel_rfl, rfl, rfl, rfl⟩
theorem A3v : TI PR 76 Try.t75.desc 3 24 (.agg #[(.int .i64 0), (.int .i64 0), (.int .i64 0)]) := ⟨Try.underlying76, Try.t76, by kernel_rfl, rfl, rfl, rfl⟩
theorem A5V : TI PR 79 Try.t78.desc 3 40 (.agg #[(.string (ByteArray.mk #[])), (.string (ByteArray.mk #[])), (.int .i64 0)]) := ⟨Try.underlying79, Try.t79, by kernel_rfl, rfl, rfl, rfl⟩
theorem A5H : TI PR 81 Try.t78.desc 3 40 (.agg #[(.string (ByteArray.mk #[])), (.string (ByteArray.mk #[])), (.int .i64 0)]) := ⟨Try.underlying81, Try.t81, by kernel_rfl, rfl, rfl, rfl⟩
theorem A1j : TI PR 99 Try.t99.desc 1 24 (.slice none 0 0) := ⟨Try.underlying99, Try.t99, by kernel_rfl, rfl, rfl, rfl⟩
theorem A9M : TI PR 105 Try.t105.desc 1 24 (.slice none 0 0) := ⟨Try.underlying105, Try.t105, by kernel_rfl, rfl, rfl, rfl⟩
theorem Z4 : TI PR 9 Try.t9.desc 1 16 (.string (ByteArray.mk #[])) := ⟨Try.underlying9, Try.t9, by kernel_rfl, rfl, rfl, rfl⟩
theorem A9s : TI PR 33 Try.t33.desc 1 24 (.slice none 0 0) := ⟨Try.underlying33, Try.t33, by kernel_rfl, rfl, rfl, rfl⟩
theorem B2e : TI PR 130 Try.t129.desc 0 0 (.agg #[]) := ⟨Try.underlying130, Try.t130, by kernel_rfl, rfl, rfl, rfl⟩
@[simp] theorem B7A  (K : Value → WP) : A0 PR (Instr.build 130 #[]) K = K (.agg #[]) := E3 (pl := #[]) B2e (fun w => by kernel_rfl) rfl
theorem B2l : TI PR 131 Try.t129.desc 0 0 (.agg #[]) := ⟨Try.underlying131, Try.t131, by kernel_rfl, rfl, rfl, rfl⟩
@[simp] theorem B5s  (K : Value → WP) : A0 PR (Instr.build 131 #[]) K = K (.agg #[]) := E3 (pl := #[]) B2l (fun w => by kernel_rfl) rfl
@[simp] theorem B4V {v0 v1 : Value} (h0 : v0.cells.size = 1) (h1 : v1.cells.size = 1) (K : Value → WP) : A0 PR (Instr.build 161 #[(0, v0), (1, v1)]) K = K (.agg (D5 (D5 #[.nilFunc, (.int .i64 0)] 0 v0.cells.toList) 1 v1.cells.toList)) := E3 (pl := #[(0, 1), (1, 1)]) A3J (fun w => by kernel_rfl) (by rw [B2 rfl h0 (by simp [B6]), B2 rfl h1 (by simp [B6])]; rfl)
@[simp] theorem B1M {v0 v1 v2 v3 v4 : Value} (h0 : v0.cells.size = 1) (h1 : v1.cells.size = 1) (h2 : v2.cells.size = 1) (h3 : v3.cells.size = 1) (h4 : v4.cells.size = 1) (K : Value → WP) : A0 PR (Instr.build 23 #[(0, v0), (1, v1), (2, v2), (3, v3), (4, v4)]) K = K (.agg (D5 (D5 (D5 (D5 (D5 #[(.int .i64 0), (.int .i64 0), (.int .i64 0), (.int .i64 0), (.int .i64 0)] 0 v0.cells.toList) 1 v1.cells.toList) 2 v2.cells.toList) 3 v3.cells.toList) 4 v4.cells.toList)) := E3 (pl := #[(0, 1), (1, 1), (2, 1), (3, 1), (4, 1)]) A2P (fun w => by kernel_rfl) (by rw [B2 rfl h0 (by simp [B6]), B2 rfl h1 (by simp [B6]), B2 rfl h2 (by simp [B6]), B2 rfl h3 (by simp [B6]), B2 rfl h4 (by simp [B6])]; rfl)
@[simp] theorem B7F  (K : Value → WP) : A0 PR (Instr.build 48 #[]) K = K (.agg #[(.int .i64 0), (.string (ByteArray.mk #[])), (.string (ByteArray.mk #[])), (.int .i64 0), (.int .i64 0), (.int .i64 0)]) := E3 (pl := #[(0, 1), (1, 1), (2, 1), (3, 1), (4, 1), (5, 1)]) y7 (fun w => by kernel_rfl) rfl
@[simp] theorem A9z {v0 v1 v2 v3 v4 v5 : Value} (h0 : v0.cells.size = 1) (h1 : v1.cells.size = 1) (h2 : v2.cells.size = 1) (h3 : v3.cells.size = 1) (h4 : v4.cells.size = 1) (h5 : v5.cells.size = 1) (K : Value → WP) : A0 PR (Instr.build 48 #[(0, v0), (1, v1), (2, v2), (3, v3), (4, v4), (5, v5)]) K = K (.agg (D5 (D5 (D5 (D5 (D5 (D5 #[(.int .i64 0), (.string (ByteArray.mk #[])), (.string (ByteArray.mk #[])), (.int .i64 0), (.int .i64 0), (.int .i64 0)] 0 v0.cells.toList) 1 v1.cells.toList) 2 v2.cells.toList) 3 v3.cells.toList) 4 v4.cells.toList) 5 v5.cells.toList)) := E3 (pl := #[(0, 1), (1, 1), (2, 1), (3, 1), (4, 1), (5, 1)]) y7 (fun w => by kernel_rfl) (by rw [B2 rfl h0 (by simp [B6]), B2 rfl h1 (by simp [B6]), B2 rfl h2 (by simp [B6]), B2 rfl h3 (by simp [B6]), B2 rfl h4 (by simp [B6]), B2 rfl h5 (by simp [B6])]; rfl)
@[simp] theorem B2d {v0 v1 v2 v3 : Value} (h0 : v0.cells.size = 1) (h1 : v1.cells.size = 1) (h2 : v2.cells.size = 1) (h3 : v3.cells.size = 1) (K : Value → WP) : A0 PR (Instr.build 48 #[(0, v0), (1, v1), (2, v2), (5, v3)]) K = K (.agg (D5 (D5 (D5 (D5 #[(.int .i64 0), (.string (ByteArray.mk #[])), (.string (ByteArray.mk #[])), (.int .i64 0), (.int .i64 0), (.int .i64 0)] 0 v0.cells.toList) 1 v1.cells.toList) 2 v2.cells.toList) 5 v3.cells.toList)) := E3 (pl := #[(0, 1), (1, 1), (2, 1), (3, 1), (4, 1), (5, 1)]) y7 (fun w => by kernel_rfl) (by rw [B2 rfl h0 (by simp [B6]), B2 rfl h1 (by simp [B6]), B2 rfl h2 (by simp [B6]), B2 rfl h3 (by simp [B6])]; rfl)
@[simp] theorem B7j  (K : Value → WP) : A0 PR (Instr.build 50 #[]) K = K (.agg #[(.int .i64 0), (.string (ByteArray.mk #[])), (.string (ByteArray.mk #[])), (.int .i64 0), (.int .i64 0), (.int .i64 0), (.int .i64 0)]) := E3 (pl := #[(0, 6), (6, 1)]) A5d (fun w => by kernel_rfl) rfl
@[simp] theorem B4j {v0 v1 : Value} (h0 : v0.cells.size = 6) (h1 : v1.cells.size = 1) (K : Value → WP) : A0 PR (Instr.build 50 #[(0, v0), (1, v1)]) K = K (.agg (D5 (D5 #[(.int .i64 0), (.string (ByteArray.mk #[])), (.string (ByteArray.mk #[])), (.int .i64 0), (.int .i64 0), (.int .i64 0), (.int .i64 0)] 0 v0.cells.toList) 6 v1.cells.toList)) := E3 (pl := #[(0, 6), (6, 1)]) A5d (fun w => by kernel_rfl) (by rw [B2 rfl h0 (by simp [B6]), B2 rfl h1 (by simp [B6])]; rfl)
@[simp] theorem B6k {v0 : Value} (h0 : v0.cells.size = 6) (K : Value → WP) : A0 PR (Instr.build 50 #[(0, v0)]) K = K (.agg (D5 #[(.int .i64 0), (.string (ByteArray.mk #[])), (.string (ByteArray.mk #[])), (.int .i64 0), (.int .i64 0), (.int .i64 0), (.int .i64 0)] 0 v0.cells.toList)) := E3 (pl := #[(0, 6), (6, 1)]) A5d (fun w => by kernel_rfl) (by rw [B2 rfl h0 (by simp [B6])]; rfl)
theorem A06 : TI PR 53 Try.t52.desc 4 56 (.agg #[(.int .i64 0), (.string (ByteArray.mk #[])), (.slice none 0 0), (.int .i64 0)]) := ⟨Try.underlying53, Try.t53, by kernel_rfl, rfl, rfl, rfl⟩
@[simp] theorem B4a {v0 v1 : Value} (h0 : v0.cells.size = 1) (h1 : v1.cells.size = 1) (K : Value → WP) : A0 PR (Instr.build 53 #[(0, v0), (1, v1)]) K = K (.agg (D5 (D5 #[(.int .i64 0), (.string (ByteArray.mk #[])), (.slice none 0 0), (.int .i64 0)] 0 v0.cells.toList) 1 v1.cells.toList)) := E3 (pl := #[(0, 1), (1, 1), (2, 1), (3, 1)]) A06 (fun w => by kernel_rfl) (by rw [B2 rfl h0 (by simp [B6]), B2 rfl h1 (by simp [B6])]; rfl)
@[simp] theorem B6q {v0 : Value} (h0 : v0.cells.size = 1) (K : Value → WP) : A0 PR (Instr.build 53 #[(1, v0)]) K = K (.agg (D5 #[(.int .i64 0), (.string (ByteArray.mk #[])), (.slice none 0 0), (.int .i64 0)] 1 v0.cells.toList)) := E3 (pl := #[(0, 1), (1, 1), (2, 1), (3, 1)]) A06 (fun w => by kernel_rfl) (by rw [B2 rfl h0 (by simp [B6])]; rfl)
theorem A7f : TI PR 56 Try.t55.desc 4 32 (.agg #[(.int .i64 0), (.int .i64 0), (.bool false), (.int .i64 0)]) := ⟨Try.underlying56, Try.t56, by kernel_rfl, rfl, rfl, rfl⟩
@[simp] theorem B5n {v0 : Value} (h0 : v0.cells.size = 1) (K : Value → WP) : A0 PR (Instr.build 56 #[(1, v0)]) K = K (.agg (D5 #[(.int .i64 0), (.int .i64 0), (.bool false), (.int .i64 0)] 1 v0.cells.toList)) := E3 (pl := #[(0, 1), (1, 1), (2, 1), (3, 1)]) A7f (fun w => by kernel_rfl) (by rw [B2 rfl h0 (by simp [B6])]; rfl)
@[simp] theorem B1L {v0 v1 v2 v3 v4 : Value} (h0 : v0.cells.size = 1) (h1 : v1.cells.size = 1) (h2 : v2.cells.size = 1) (h3 : v3.cells.size = 1) (h4 : v4.cells.size = 4) (K : Value → WP) : A0 PR (Instr.build 58 #[(0, v0), (1, v1), (3, v2), (4, v3), (6, v4)]) K = K (.agg (D5 (D5 (D5 (D5 (D5 #[(.int .i64 0), (.int .i64 0), (.int .i64 0), (.int .i64 0), (.int .i64 0), (.int .i64 0), (.int .i64 0), (.int .i64 0), (.bool false), (.int .i64 0)] 0 v0.cells.toList) 1 v1.cells.toList) 3 v2.cells.toList) 4 v3.cells.toList) 6 v4.cells.toList)) := E3 (pl := #[(0, 1), (1, 1), (2, 1), (3, 1), (4, 1), (5, 1), (6, 4)]) r7 (fun w => by kernel_rfl) (by rw [B2 rfl h0 (by simp [B6]), B2 rfl h1 (by simp [B6]), B2 rfl h2 (by simp [B6]), B2 rfl h3 (by simp [B6]), B2 rfl h4 (by simp [B6])]; rfl)
@[simp] theorem B2c {v0 v1 v2 v3 : Value} (h0 : v0.cells.size = 1) (h1 : v1.cells.size = 1) (h2 : v2.cells.size = 1) (h3 : v3.cells.size = 4) (K : Value → WP) : A0 PR (Instr.build 58 #[(0, v0), (3, v1), (4, v2), (6, v3)]) K = K (.agg (D5 (D5 (D5 (D5 #[(.int .i64 0), (.int .i64 0), (.int .i64 0), (.int .i64 0), (.int .i64 0), (.int .i64 0), (.int .i64 0), (.int .i64 0), (.bool false), (.int .i64 0)] 0 v0.cells.toList) 3 v1.cells.toList) 4 v2.cells.toList) 6 v3.cells.toList)) := E3 (pl := #[(0, 1), (1, 1), (2, 1), (3, 1), (4, 1), (5, 1), (6, 4)]) r7 (fun w => by kernel_rfl) (by rw [B2 rfl h0 (by simp [B6]), B2 rfl h1 (by simp [B6]), B2 rfl h2 (by simp [B6]), B2 rfl h3 (by simp [B6])]; rfl)
@[simp] theorem B5r {v0 : Value} (h0 : v0.cells.size = 10) (K : Value → WP) : A0 PR (Instr.build 70 #[(0, v0)]) K = K (.agg (D5 #[(.int .i64 0), (.int .i64 0), (.int .i64 0), (.int .i64 0), (.int .i64 0), (.int .i64 0), (.int .i64 0), (.int .i64 0), (.bool false), (.int .i64 0), (.int .i64 0), (.string (ByteArray.mk #[])), (.slice none 0 0), (.int .i64 0), (.string (ByteArray.mk #[])), (.bool false)] 0 v0.cells.toList)) := E3 (pl := #[(0, 10), (10, 4), (14, 1), (15, 1)]) A20 (fun w => by kernel_rfl) (by rw [B2 rfl h0 (by simp [B6])]; rfl)
@[simp] theorem B7b  (K : Value → WP) : A0 PR (Instr.build 76 #[]) K = K (.agg #[(.int .i64 0), (.int .i64 0), (.int .i64 0)]) := E3 (pl := #[(0, 1), (1, 1), (2, 1)]) A3v (fun w => by kernel_rfl) rfl
@[simp] theorem B4e {v0 v1 : Value} (h0 : v0.cells.size = 1) (h1 : v1.cells.size = 1) (K : Value → WP) : A0 PR (Instr.build 76 #[(0, v0), (1, v1)]) K = K (.agg (D5 (D5 #[(.int .i64 0), (.int .i64 0), (.int .i64 0)] 0 v0.cells.toList) 1 v1.cells.toList)) := E3 (pl := #[(0, 1), (1, 1), (2, 1)]) A3v (fun w => by kernel_rfl) (by rw [B2 rfl h0 (by simp [B6]), B2 rfl h1 (by simp [B6])]; rfl)
@[simp] theorem B3f {v0 v1 v2 : Value} (h0 : v0.cells.size = 1) (h1 : v1.cells.size = 1) (h2 : v2.cells.size = 1) (K : Value → WP) : A0 PR (Instr.build 76 #[(0, v0), (1, v1), (2, v2)]) K = K (.agg (D5 (D5 (D5 #[(.int .i64 0), (.int .i64 0), (.int .i64 0)] 0 v0.cells.toList) 1 v1.cells.toList) 2 v2.cells.toList)) := E3 (pl := #[(0, 1), (1, 1), (2, 1)]) A3v (fun w => by kernel_rfl) (by rw [B2 rfl h0 (by simp [B6]), B2 rfl h1 (by simp [B6]), B2 rfl h2 (by simp [B6])]; rfl)
@[simp] theorem B7S  (K : Value → WP) : A0 PR (Instr.build 79 #[]) K = K (.agg #[(.string (ByteArray.mk #[])), (.string (ByteArray.mk #[])), (.int .i64 0)]) := E3 (pl := #[(0, 1), (1, 1), (2, 1)]) A5V (fun w => by kernel_rfl) rfl
@[simp] theorem B3j {v0 v1 v2 : Value} (h0 : v0.cells.size = 1) (h1 : v1.cells.size = 1) (h2 : v2.cells.size = 1) (K : Value → WP) : A0 PR (Instr.build 79 #[(0, v0), (1, v1), (2, v2)]) K = K (.agg (D5 (D5 (D5 #[(.string (ByteArray.mk #[])), (.string (ByteArray.mk #[])), (.int .i64 0)] 0 v0.cells.toList) 1 v1.cells.toList) 2 v2.cells.toList)) := E3 (pl := #[(0, 1), (1, 1), (2, 1)]) A5V (fun w => by kernel_rfl) (by rw [B2 rfl h0 (by simp [B6]), B2 rfl h1 (by simp [B6]), B2 rfl h2 (by simp [B6])]; rfl)
@[simp] theorem B7s  (K : Value → WP) : A0 PR (Instr.build 81 #[]) K = K (.agg #[(.string (ByteArray.mk #[])), (.string (ByteArray.mk #[])), (.int .i64 0)]) := E3 (pl := #[(0, 1), (1, 1), (2, 1)]) A5H (fun w => by kernel_rfl) rfl
@[simp] theorem B3k {v0 v1 v2 : Value} (h0 : v0.cells.size = 1) (h1 : v1.cells.size = 1) (h2 : v2.cells.size = 1) (K : Value → WP) : A0 PR (Instr.build 81 #[(0, v0), (1, v1), (2, v2)]) K = K (.agg (D5 (D5 (D5 #[(.string (ByteArray.mk #[])), (.string (ByteArray.mk #[])), (.int .i64 0)] 0 v0.cells.toList) 1 v1.cells.toList) 2 v2.cells.toList)) := E3 (pl := #[(0, 1), (1, 1), (2, 1)]) A5H (fun w => by kernel_rfl) (by rw [B2 rfl h0 (by simp [B6]), B2 rfl h1 (by simp [B6]), B2 rfl h2 (by simp [B6])]; rfl)
theorem A8v : TI PR 120 Try.t120.desc 1 24 (.slice none 0 0) := ⟨Try.underlying120, Try.t120, by kernel_rfl, rfl, rfl, rfl⟩
theorem A9Y : TI PR 29 Try.t29.desc 1 8 .nilFunc := ⟨Try.underlying29, Try.t29, by kernel_rfl, rfl, rfl, rfl⟩
theorem A9l : TI PR 165 Try.t165.desc 1 24 (.slice none 0 0) := ⟨Try.underlying165, Try.t165, by kernel_rfl, rfl, rfl, rfl⟩
theorem A7w : TI PR 24 Try.t24.desc 1 24 (.slice none 0 0) := ⟨Try.underlying24, Try.t24, by kernel_rfl, rfl, rfl, rfl⟩
theorem A5S : TI PR 54 Try.t54.desc 1 24 (.slice none 0 0) := ⟨Try.underlying54, Try.t54, by kernel_rfl, rfl, rfl, rfl⟩
@[simp] theorem B5B {k : IntKind} (a : Int) (K : Value → WP) : A0 PR (convert 112 3 (.int k a)) K = K (.int .i64 (IntKind.i64.wrap a)) := x7 H5 A4U
theorem ty5 : TI PR 5 Try.t5.desc 1 1 (.int .u8 0) := ⟨Try.underlying5, Try.t5, by kernel_rfl, rfl, rfl, rfl⟩
@[simp] theorem B45 {k : IntKind} (a : Int) (K : Value → WP) : A0 PR (convert 112 5 (.int k a)) K = K (.int .u8 (IntKind.u8.wrap a)) := x7 ty5 A4U
theorem B2n : TI PR 119 Try.t119.desc 1 8 (.int .u64 0) := ⟨Try.underlying119, Try.t119, by kernel_rfl, rfl, rfl, rfl⟩
@[simp] theorem B4z {k : IntKind} (a : Int) (K : Value → WP) : A0 PR (convert 119 3 (.int k a)) K = K (.int .i64 (IntKind.i64.wrap a)) := x7 H5 B2n
@[simp] theorem B4r {k : IntKind} (a : Int) (K : Value → WP) : A0 PR (convert 3 112 (.int k a)) K = K (.int .u64 (IntKind.u64.wrap a)) := x7 A4U H5
@[simp] theorem B5E {k : IntKind} (a : Int) (K : Value → WP) : A0 PR (convert 3 119 (.int k a)) K = K (.int .u64 (IntKind.u64.wrap a)) := x7 B2n H5
@[simp] theorem B48 {k : IntKind} (a : Int) (K : Value → WP) : A0 PR (convert 5 112 (.int k a)) K = K (.int .u64 (IntKind.u64.wrap a)) := x7 A4U ty5
@[simp] theorem B7P {k : IntKind} (a : Int) (K : Value → WP) : A0 PR (convert 5 3 (.int k a)) K = K (.int .i64 (IntKind.i64.wrap a)) := x7 H5 ty5
theorem A9b {K : Value → WP} {w : World} {b o cap : Nat} {ns : List Int} (hr : F1 w b o (ns.map (Value.int .u8))) : A6 PR (convert 99 9 (.slice (some ⟨b, o, none⟩) ns.length cap)) K w = K (.string (w9 ns)) w := B4s A1j ty5 Z4 hr
theorem A9Q : TI PR 98 Try.t98.desc 1 8 (.pointer none) := ⟨Try.underlying98, Try.t98, by kernel_rfl, rfl, rfl, rfl⟩
@[simp] theorem B0J (a : Option Addr) (x y : Operand) (K : Value → WP) (w : World) : A6 PR (Z1 .eql 98 x y (.pointer a) (.pointer none)) K w = K (.bool a.isNone) w := B3A A9Q
@[simp] theorem B47 (b o : Nat) (K : Value → WP) : A0 PR (Instr.fieldAt 101 (.pointer (some ⟨b, o, none⟩)) 0) K = K (.pointer (some ⟨b, o, none⟩)) := B3 (i := 0) A3G rfl ⟨_, _, _, _, A9Q⟩ b o
@[simp] theorem B5k (b o : Nat) (K : Value → WP) : A0 PR (Instr.fieldAt 101 (.pointer (some ⟨b, o, none⟩)) 1) K = K (.pointer (some ⟨b, o + 1, none⟩)) := B3 (i := 1) A3G rfl ⟨_, _, _, _, A1j⟩ b o
@[simp] theorem B5C (b o : Nat) (K : Value → WP) : A0 PR (Instr.fieldAt 103 (.pointer (some ⟨b, o, none⟩)) 0) K = K (.pointer (some ⟨b, o, none⟩)) := B3 (i := 0) B2f rfl ⟨_, _, _, _, A3G⟩ b o
theorem A6k : TI PR 124 Try.t123.desc 2 16 (.agg #[(.int .i64 0), (.int .i64 0)]) := ⟨Try.underlying124, Try.t124, by kernel_rfl, rfl, rfl, rfl⟩
@[simp] theorem B5M (b o : Nat) (K : Value → WP) : A0 PR (Instr.fieldAt 124 (.pointer (some ⟨b, o, none⟩)) 0) K = K (.pointer (some ⟨b, o, none⟩)) := B3 (i := 0) A6k rfl ⟨_, _, _, _, H5⟩ b o
@[simp] theorem B40 (b o : Nat) (K : Value → WP) : A0 PR (Instr.fieldAt 161 (.pointer (some ⟨b, o, none⟩)) 0) K = K (.pointer (some ⟨b, o, none⟩)) := B3 (i := 0) A3J rfl ⟨_, _, _, _, A9Y⟩ b o
theorem B2N : TI PR 44 Try.t3.desc 1 8 (.int .i64 0) := ⟨Try.underlying44, Try.t44, by kernel_rfl, rfl, rfl, rfl⟩
@[simp] theorem B5a (b o : Nat) (K : Value → WP) : A0 PR (Instr.fieldAt 161 (.pointer (some ⟨b, o, none⟩)) 1) K = K (.pointer (some ⟨b, o + 1, none⟩)) := B3 (i := 1) A3J rfl ⟨_, _, _, _, B2N⟩ b o
@[simp] theorem B6M (b o : Nat) (K : Value → WP) : A0 PR (Instr.fieldAt 23 (.pointer (some ⟨b, o, none⟩)) 0) K = K (.pointer (some ⟨b, o, none⟩)) := B3 (i := 0) A2P rfl ⟨_, _, _, _, H5⟩ b o
@[simp] theorem B62 (b o : Nat) (K : Value → WP) : A0 PR (Instr.fieldAt 23 (.pointer (some ⟨b, o, none⟩)) 1) K = K (.pointer (some ⟨b, o + 1, none⟩)) := B3 (i := 1) A2P rfl ⟨_, _, _, _, H5⟩ b o
@[simp] theorem B6C (b o : Nat) (K : Value → WP) : A0 PR (Instr.fieldAt 23 (.pointer (some ⟨b, o, none⟩)) 2) K = K (.pointer (some ⟨b, o + 2, none⟩)) := B3 (i := 2) A2P rfl ⟨_, _, _, _, H5⟩ b o
@[simp] theorem B60 (b o : Nat) (K : Value → WP) : A0 PR (Instr.fieldAt 23 (.pointer (some ⟨b, o, none⟩)) 3) K = K (.pointer (some ⟨b, o + 3, none⟩)) := B3 (i := 3) A2P rfl ⟨_, _, _, _, H5⟩ b o
theorem A5U : TI PR 27 Try.t26.desc 7 88 (.agg #[(.int .i64 0), (.int .i64 0), (.int .i64 0), (.int .i64 0), (.int .i64 0), (.slice none 0 0), (.slice none 0 0)]) := ⟨Try.underlying27, Try.t27, by kernel_rfl, rfl, rfl, rfl⟩
@[simp] theorem B6F (b o : Nat) (K : Value → WP) : A0 PR (Instr.fieldAt 27 (.pointer (some ⟨b, o, none⟩)) 0) K = K (.pointer (some ⟨b, o, none⟩)) := B3 (i := 0) A5U rfl ⟨_, _, _, _, A2P⟩ b o
@[simp] theorem B6H (b o : Nat) (K : Value → WP) : A0 PR (Instr.fieldAt 27 (.pointer (some ⟨b, o, none⟩)) 1) K = K (.pointer (some ⟨b, o + 5, none⟩)) := B3 (i := 1) A5U rfl ⟨_, _, _, _, A7w⟩ b o
theorem B2Z : TI PR 25 Try.t25.desc 1 24 (.slice none 0 0) := ⟨Try.underlying25, Try.t25, by kernel_rfl, rfl, rfl, rfl⟩
@[simp] theorem B6y (b o : Nat) (K : Value → WP) : A0 PR (Instr.fieldAt 27 (.pointer (some ⟨b, o, none⟩)) 2) K = K (.pointer (some ⟨b, o + 6, none⟩)) := B3 (i := 2) A5U rfl ⟨_, _, _, _, B2Z⟩ b o
@[simp] theorem B52 (b o : Nat) (K : Value → WP) : A0 PR (Instr.fieldAt 48 (.pointer (some ⟨b, o, none⟩)) 0) K = K (.pointer (some ⟨b, o, none⟩)) := B3 (i := 0) y7 rfl ⟨_, _, _, _, H5⟩ b o
@[simp] theorem B53 (b o : Nat) (K : Value → WP) : A0 PR (Instr.fieldAt 48 (.pointer (some ⟨b, o, none⟩)) 1) K = K (.pointer (some ⟨b, o + 1, none⟩)) := B3 (i := 1) y7 rfl ⟨_, _, _, _, Z4⟩ b o
@[simp] theorem B50 (b o : Nat) (K : Value → WP) : A0 PR (Instr.fieldAt 48 (.pointer (some ⟨b, o, none⟩)) 2) K = K (.pointer (some ⟨b, o + 2, none⟩)) := B3 (i := 2) y7 rfl ⟨_, _, _, _, Z4⟩ b o
@[simp] theorem B67 (b o : Nat) (K : Value → WP) : A0 PR (Instr.fieldAt 48 (.pointer (some ⟨b, o, none⟩)) 3) K = K (.pointer (some ⟨b, o + 3, none⟩)) := B3 (i := 3) y7 rfl ⟨_, _, _, _, H5⟩ b o
@[simp] theorem B6f (b o : Nat) (K : Value → WP) : A0 PR (Instr.fieldAt 48 (.pointer (some ⟨b, o, none⟩)) 4) K = K (.pointer (some ⟨b, o + 4, none⟩)) := B3 (i := 4) y7 rfl ⟨_, _, _, _, H5⟩ b o
@[simp] theorem B6z (b o : Nat) (K : Value → WP) : A0 PR (Instr.fieldAt 48 (.pointer (some ⟨b, o, none⟩)) 5) K = K (.pointer (some ⟨b, o + 5, none⟩)) := B3 (i := 5) y7 rfl ⟨_, _, _, _, H5⟩ b o
@[simp] theorem B6b (b o : Nat) (K : Value → WP) : A0 PR (Instr.fieldAt 50 (.pointer (some ⟨b, o, none⟩)) 0) K = K (.pointer (some ⟨b, o, none⟩)) := B3 (i := 0) A5d rfl ⟨_, _, _, _, y7⟩ b o
@[simp] theorem B6r (b o : Nat) (K : Value → WP) : A0 PR (Instr.fieldAt 50 (.pointer (some ⟨b, o, none⟩)) 1) K = K (.pointer (some ⟨b, o + 6, none⟩)) := B3 (i := 1) A5d rfl ⟨_, _, _, _, H5⟩ b o
@[simp] theorem B6S (b o : Nat) (K : Value → WP) : A0 PR (Instr.fieldAt 53 (.pointer (some ⟨b, o, none⟩)) 0) K = K (.pointer (some ⟨b, o, none⟩)) := B3 (i := 0) A06 rfl ⟨_, _, _, _, H5⟩ b o
@[simp] theorem B6e (b o : Nat) (K : Value → WP) : A0 PR (Instr.fieldAt 53 (.pointer (some ⟨b, o, none⟩)) 1) K = K (.pointer (some ⟨b, o + 1, none⟩)) := B3 (i := 1) A06 rfl ⟨_, _, _, _, Z4⟩ b o
theorem A9B : TI PR 51 Try.t51.desc 1 24 (.slice none 0 0) := ⟨Try.underlying51, Try.t51, by kernel_rfl, rfl, rfl, rfl⟩
@[simp] theorem B57 (b o : Nat) (K : Value → WP) : A0 PR (Instr.fieldAt 53 (.pointer (some ⟨b, o, none⟩)) 2) K = K (.pointer (some ⟨b, o + 2, none⟩)) := B3 (i := 2) A06 rfl ⟨_, _, _, _, A9B⟩ b o
@[simp] theorem B6W (b o : Nat) (K : Value → WP) : A0 PR (Instr.fieldAt 56 (.pointer (some ⟨b, o, none⟩)) 0) K = K (.pointer (some ⟨b, o, none⟩)) := B3 (i := 0) A7f rfl ⟨_, _, _, _, B2N⟩ b o
@[simp] theorem B66 (b o : Nat) (K : Value → WP) : A0 PR (Instr.fieldAt 56 (.pointer (some ⟨b, o, none⟩)) 1) K = K (.pointer (some ⟨b, o + 1, none⟩)) := B3 (i := 1) A7f rfl ⟨_, _, _, _, H5⟩ b o
@[simp] theorem B6E (b o : Nat) (K : Value → WP) : A0 PR (Instr.fieldAt 58 (.pointer (some ⟨b, o, none⟩)) 0) K = K (.pointer (some ⟨b, o, none⟩)) := B3 (i := 0) r7 rfl ⟨_, _, _, _, H5⟩ b o
@[simp] theorem B6A (b o : Nat) (K : Value → WP) : A0 PR (Instr.fieldAt 58 (.pointer (some ⟨b, o, none⟩)) 1) K = K (.pointer (some ⟨b, o + 1, none⟩)) := B3 (i := 1) r7 rfl ⟨_, _, _, _, H5⟩ b o
@[simp] theorem B5m (b o : Nat) (K : Value → WP) : A0 PR (Instr.fieldAt 58 (.pointer (some ⟨b, o, none⟩)) 3) K = K (.pointer (some ⟨b, o + 3, none⟩)) := B3 (i := 3) r7 rfl ⟨_, _, _, _, H5⟩ b o
@[simp] theorem B5v (b o : Nat) (K : Value → WP) : A0 PR (Instr.fieldAt 58 (.pointer (some ⟨b, o, none⟩)) 4) K = K (.pointer (some ⟨b, o + 4, none⟩)) := B3 (i := 4) r7 rfl ⟨_, _, _, _, H5⟩ b o
@[simp] theorem B6Y (b o : Nat) (K : Value → WP) : A0 PR (Instr.fieldAt 58 (.pointer (some ⟨b, o, none⟩)) 5) K = K (.pointer (some ⟨b, o + 5, none⟩)) := B3 (i := 5) r7 rfl ⟨_, _, _, _, H5⟩ b o
@[simp] theorem B6g (b o : Nat) (K : Value → WP) : A0 PR (Instr.fieldAt 58 (.pointer (some ⟨b, o, none⟩)) 6) K = K (.pointer (some ⟨b, o + 6, none⟩)) := B3 (i := 6) r7 rfl ⟨_, _, _, _, A7f⟩ b o
theorem A9Z : TI PR 63 Try.t57.desc 10 80 (.agg #[(.int .i64 0), (.int .i64 0), (.int .i64 0), (.int .i64 0), (.int .i64 0), (.int .i64 0), (.int .i64 0), (.int .i64 0), (.bool false), (.int .i64 0)]) := ⟨Try.underlying63, Try.t63, by kernel_rfl, rfl, rfl, rfl⟩
@[simp] theorem B51 (b o : Nat) (K : Value → WP) : A0 PR (Instr.fieldAt 63 (.pointer (some ⟨b, o, none⟩)) 5) K = K (.pointer (some ⟨b, o + 5, none⟩)) := B3 (i := 5) A9Z rfl ⟨_, _, _, _, H5⟩ b o
@[simp] theorem B64 (b o : Nat) (K : Value → WP) : A0 PR (Instr.fieldAt 70 (.pointer (some ⟨b, o, none⟩)) 0) K = K (.pointer (some ⟨b, o, none⟩)) := B3 (i := 0) A20 rfl ⟨_, _, _, _, r7⟩ b o
@[simp] theorem B63 (b o : Nat) (K : Value → WP) : A0 PR (Instr.fieldAt 70 (.pointer (some ⟨b, o, none⟩)) 1) K = K (.pointer (some ⟨b, o + 10, none⟩)) := B3 (i := 1) A20 rfl ⟨_, _, _, _, A06⟩ b o
@[simp] theorem B6c (b o : Nat) (K : Value → WP) : A0 PR (Instr.fieldAt 70 (.pointer (some ⟨b, o, none⟩)) 2) K = K (.pointer (some ⟨b, o + 14, none⟩)) := B3 (i := 2) A20 rfl ⟨_, _, _, _, Z4⟩ b o
theorem ty4 : TI PR 4 Try.t4.desc 1 1 (.bool false) := ⟨Try.underlying4, Try.t4, by kernel_rfl, rfl, rfl, rfl⟩
@[simp] theorem B5q (b o : Nat) (K : Value → WP) : A0 PR (Instr.fieldAt 70 (.pointer (some ⟨b, o, none⟩)) 3) K = K (.pointer (some ⟨b, o + 15, none⟩)) := B3 (i := 3) A20 rfl ⟨_, _, _, _, ty4⟩ b o
@[simp] theorem B6Q (b o : Nat) (K : Value → WP) : A0 PR (Instr.fieldAt 76 (.pointer (some ⟨b, o, none⟩)) 0) K = K (.pointer (some ⟨b, o, none⟩)) := B3 (i := 0) A3v rfl ⟨_, _, _, _, H5⟩ b o
@[simp] theorem B6w (b o : Nat) (K : Value → WP) : A0 PR (Instr.fieldAt 76 (.pointer (some ⟨b, o, none⟩)) 1) K = K (.pointer (some ⟨b, o + 1, none⟩)) := B3 (i := 1) A3v rfl ⟨_, _, _, _, H5⟩ b o
@[simp] theorem B6x (b o : Nat) (K : Value → WP) : A0 PR (Instr.fieldAt 76 (.pointer (some ⟨b, o, none⟩)) 2) K = K (.pointer (some ⟨b, o + 2, none⟩)) := B3 (i := 2) A3v rfl ⟨_, _, _, _, H5⟩ b o
@[simp] theorem B7B (b o : Nat) (K : Value → WP) : A0 PR (Instr.fieldAt 79 (.pointer (some ⟨b, o, none⟩)) 0) K = K (.pointer (some ⟨b, o, none⟩)) := B3 (i := 0) A5V rfl ⟨_, _, _, _, Z4⟩ b o
@[simp] theorem B6V (b o : Nat) (K : Value → WP) : A0 PR (Instr.fieldAt 79 (.pointer (some ⟨b, o, none⟩)) 1) K = K (.pointer (some ⟨b, o + 1, none⟩)) := B3 (i := 1) A5V rfl ⟨_, _, _, _, Z4⟩ b o
@[simp] theorem B61 (b o : Nat) (K : Value → WP) : A0 PR (Instr.fieldAt 79 (.pointer (some ⟨b, o, none⟩)) 2) K = K (.pointer (some ⟨b, o + 2, none⟩)) := B3 (i := 2) A5V rfl ⟨_, _, _, _, H5⟩ b o
@[simp] theorem B6B (b o : Nat) (K : Value → WP) : A0 PR (Instr.fieldAt 81 (.pointer (some ⟨b, o, none⟩)) 0) K = K (.pointer (some ⟨b, o, none⟩)) := B3 (i := 0) A5H rfl ⟨_, _, _, _, Z4⟩ b o
@[simp] theorem B6n (b o : Nat) (K : Value → WP) : A0 PR (Instr.fieldAt 81 (.pointer (some ⟨b, o, none⟩)) 1) K = K (.pointer (some ⟨b, o + 1, none⟩)) := B3 (i := 1) A5H rfl ⟨_, _, _, _, Z4⟩ b o
@[simp] theorem B6L (b o : Nat) (K : Value → WP) : A0 PR (Instr.fieldAt 81 (.pointer (some ⟨b, o, none⟩)) 2) K = K (.pointer (some ⟨b, o + 2, none⟩)) := B3 (i := 2) A5H rfl ⟨_, _, _, _, H5⟩ b o
theorem T6 {k1 : IntKind} {i : Int} {s : ByteArray} {b : UInt8} (h0 : 0 ≤ i) (h1 : s[i.toNat]? = some b) (K : Value → WP) : A0 PR (Instr.index 9 (.string s) (.int k1 i)) K = K (.int .u8 b.toNat) := B1N Z4 h0 h1
@[simp] theorem B7E {k : IntKind} {i : Int} {len cap : Nat} (h0 : 0 ≤ i) (h1 : i < len) (b o : Nat) (K : Value → WP) : A0 PR (Instr.indexAt 105 (.slice (some ⟨b, o, none⟩) len cap) (.int k i)) K = K (.pointer (some ⟨b, o + i.toNat, none⟩)) := (by simpa using K1 (K := K) A9M Z4 h0 h1 b o)
@[simp] theorem B71 {k : IntKind} {i : Int} {len cap : Nat} (h0 : 0 ≤ i) (h1 : i < len) (b o : Nat) (K : Value → WP) : A0 PR (Instr.indexAt 120 (.slice (some ⟨b, o, none⟩) len cap) (.int k i)) K = K (.pointer (some ⟨b, o + i.toNat, none⟩)) := (by simpa using K1 (K := K) A8v A9Y h0 h1 b o)
@[simp] theorem B7N {k : IntKind} {i : Int} {len cap : Nat} (h0 : 0 ≤ i) (h1 : i < len) (b o : Nat) (K : Value → WP) : A0 PR (Instr.indexAt 165 (.slice (some ⟨b, o, none⟩) len cap) (.int k i)) K = K (.pointer (some ⟨b, o + i.toNat * 2, none⟩)) := (K1 (K := K) A9l A3J h0 h1 b o)
@[simp] theorem B8F {k : IntKind} {i : Int} {len cap : Nat} (h0 : 0 ≤ i) (h1 : i < len) (b o : Nat) (K : Value → WP) : A0 PR (Instr.indexAt 24 (.slice (some ⟨b, o, none⟩) len cap) (.int k i)) K = K (.pointer (some ⟨b, o + i.toNat, none⟩)) := (by simpa using K1 (K := K) A7w A5S h0 h1 b o)
theorem B3r : TI PR 28 Try.t28.desc 1 24 (.slice none 0 0) := ⟨Try.underlying28, Try.t28, by kernel_rfl, rfl, rfl, rfl⟩
@[simp] theorem B8S {k : IntKind} {i : Int} {len cap : Nat} (h0 : 0 ≤ i) (h1 : i < len) (b o : Nat) (K : Value → WP) : A0 PR (Instr.indexAt 28 (.slice (some ⟨b, o, none⟩) len cap) (.int k i)) K = K (.pointer (some ⟨b, o + i.toNat * 10, none⟩)) := (K1 (K := K) B3r A9Z h0 h1 b o)
@[simp] theorem B76 {k : IntKind} {i : Int} {len cap : Nat} (h0 : 0 ≤ i) (h1 : i < len) (b o : Nat) (K : Value → WP) : A0 PR (Instr.indexAt 33 (.slice (some ⟨b, o, none⟩) len cap) (.int k i)) K = K (.pointer (some ⟨b, o + i.toNat * 10, none⟩)) := (K1 (K := K) A9s r7 h0 h1 b o)
@[simp] theorem B77 {k : IntKind} {i : Int} {len cap : Nat} (h0 : 0 ≤ i) (h1 : i < len) (b o : Nat) (K : Value → WP) : A0 PR (Instr.indexAt 35 (.slice (some ⟨b, o, none⟩) len cap) (.int k i)) K = K (.pointer (some ⟨b, o + i.toNat * 2, none⟩)) := (K1 (K := K) A9V A48 h0 h1 b o)
@[simp] theorem B8C {k : IntKind} {i : Int} {len cap : Nat} (h0 : 0 ≤ i) (h1 : i < len) (b o : Nat) (K : Value → WP) : A0 PR (Instr.indexAt 37 (.slice (some ⟨b, o, none⟩) len cap) (.int k i)) K = K (.pointer (some ⟨b, o + i.toNat, none⟩)) := (by simpa using K1 (K := K) A9p H5 h0 h1 b o)
@[simp] theorem B8E {k : IntKind} {i : Int} (h0 : 0 ≤ i) (h1 : i < (2 : Nat)) (b o : Nat) (K : Value → WP) : A0 PR (Instr.indexAt 39 (.pointer (some ⟨b, o, none⟩)) (.int k i)) K = K (.pointer (some ⟨b, o + i.toNat, none⟩)) := (by simpa using A9a (K := K) A48 H5 h0 h1 b o)
@[simp] theorem B8G {k : IntKind} {i : Int} {len cap : Nat} (h0 : 0 ≤ i) (h1 : i < len) (b o : Nat) (K : Value → WP) : A0 PR (Instr.indexAt 51 (.slice (some ⟨b, o, none⟩) len cap) (.int k i)) K = K (.pointer (some ⟨b, o + i.toNat * 2, none⟩)) := (K1 (K := K) A9B A6k h0 h1 b o)
@[simp] theorem B8A {k : IntKind} {i : Int} {len cap : Nat} (h0 : 0 ≤ i) (h1 : i < len) (b o : Nat) (K : Value → WP) : A0 PR (Instr.indexAt 54 (.slice (some ⟨b, o, none⟩) len cap) (.int k i)) K = K (.pointer (some ⟨b, o + i.toNat * 4, none⟩)) := (K1 (K := K) A5S A06 h0 h1 b o)
@[simp] theorem B8B {k : IntKind} {i : Int} {len cap : Nat} (h0 : 0 ≤ i) (h1 : i < len) (b o : Nat) (K : Value → WP) : A0 PR (Instr.indexAt 64 (.slice (some ⟨b, o, none⟩) len cap) (.int k i)) K = K (.pointer (some ⟨b, o + i.toNat * 16, none⟩)) := (K1 (K := K) A9u A20 h0 h1 b o)
@[simp] theorem B78 {k : IntKind} {i : Int} {len cap : Nat} (h0 : 0 ≤ i) (h1 : i < len) (b o : Nat) (K : Value → WP) : A0 PR (Instr.indexAt 99 (.slice (some ⟨b, o, none⟩) len cap) (.int k i)) K = K (.pointer (some ⟨b, o + i.toNat, none⟩)) := (by simpa using K1 (K := K) A1j ty5 h0 h1 b o)
@[simp] theorem B5w (a : Option Addr) (n c : Nat) (K : Value → WP) : A0 PR (A7 .len #[105] 0 [.slice a n c]) K = K (.int .i64 n) := W7 A9M a n c
@[simp] theorem B5x (a : Option Addr) (n c : Nat) (K : Value → WP) : A0 PR (A7 .len #[120] 0 [.slice a n c]) K = K (.int .i64 n) := W7 A8v a n c
@[simp] theorem B54 (a : Option Addr) (n c : Nat) (K : Value → WP) : A0 PR (A7 .len #[165] 0 [.slice a n c]) K = K (.int .i64 n) := W7 A9l a n c
@[simp] theorem B70 (a : Option Addr) (n c : Nat) (K : Value → WP) : A0 PR (A7 .len #[24] 0 [.slice a n c]) K = K (.int .i64 n) := W7 A7w a n c
@[simp] theorem B7v (a : Option Addr) (n c : Nat) (K : Value → WP) : A0 PR (A7 .len #[25] 0 [.slice a n c]) K = K (.int .i64 n) := W7 B2Z a n c
@[simp] theorem B7x (a : Option Addr) (n c : Nat) (K : Value → WP) : A0 PR (A7 .len #[28] 0 [.slice a n c]) K = K (.int .i64 n) := W7 B3r a n c
@[simp] theorem B7U (a : Option Addr) (n c : Nat) (K : Value → WP) : A0 PR (A7 .len #[33] 0 [.slice a n c]) K = K (.int .i64 n) := W7 A9s a n c
@[simp] theorem B7W (a : Option Addr) (n c : Nat) (K : Value → WP) : A0 PR (A7 .len #[35] 0 [.slice a n c]) K = K (.int .i64 n) := W7 A9V a n c
@[simp] theorem B73 (a : Option Addr) (n c : Nat) (K : Value → WP) : A0 PR (A7 .len #[37] 0 [.slice a n c]) K = K (.int .i64 n) := W7 A9p a n c
@[simp] theorem B7K (a : Option Addr) (n c : Nat) (K : Value → WP) : A0 PR (A7 .len #[51] 0 [.slice a n c]) K = K (.int .i64 n) := W7 A9B a n c
@[simp] theorem B7T (a : Option Addr) (n c : Nat) (K : Value → WP) : A0 PR (A7 .len #[54] 0 [.slice a n c]) K = K (.int .i64 n) := W7 A5S a n c
@[simp] theorem B7M (a : Option Addr) (n c : Nat) (K : Value → WP) : A0 PR (A7 .len #[64] 0 [.slice a n c]) K = K (.int .i64 n) := W7 A9u a n c
@[simp] theorem B8L (s : ByteArray) (K : Value → WP) : A0 PR (A7 .len #[9] 0 [.string s]) K = K (.int .i64 s.size) := B3q Z4 s
@[simp] theorem B7l (a : Option Addr) (n c : Nat) (K : Value → WP) : A0 PR (A7 .len #[99] 0 [.slice a n c]) K = K (.int .i64 n) := W7 A1j a n c
theorem B7r : TI PR 87 Try.t87.desc 1 8 .nilFunc := ⟨Try.underlying87, Try.t87, by kernel_rfl, rfl, rfl, rfl⟩
@[simp] theorem B7Z (v : Value) (K : Value → WP) : A0 PR (Instr.makeInterface 130 v) K = K (.iface 130 v) := A5u B2e (by intro ms h; cases h) v
@[simp] theorem B7a (v : Value) (K : Value → WP) : A0 PR (Instr.makeInterface 131 v) K = K (.iface 131 v) := A5u B2l (by intro ms h; cases h) v
@[simp] theorem B5L (b o : Nat) (K : Value → WP) : A0 PR (Instr.sliceAt 118 (.pointer (some ⟨b, o, none⟩)) none none none) K = K (.slice (some ⟨b, o, none⟩) 38 38) := B09 A9j ty5 b o
@[simp] theorem B8J {k1 : IntKind} {hi : Int} {s : ByteArray} (h0 : 0 ≤ hi) (h1 : hi ≤ s.size) (K : Value → WP) : A0 PR (Instr.sliceAt 9 (.string s) none (some (.int k1 hi)) none) K = K (.string (s.extract 0 hi.toNat)) := B0l Z4 h0 h1
@[simp] theorem B8K {k1 : IntKind} {lo : Int} {s : ByteArray} (h0 : 0 ≤ lo) (h1 : lo ≤ s.size) (K : Value → WP) : A0 PR (Instr.sliceAt 9 (.string s) (some (.int k1 lo)) none none) K = K (.string (s.extract lo.toNat s.size)) := B0z Z4 h0 h1
@[simp] theorem B8d {k1 k2 : IntKind} {lo hi : Int} {s : ByteArray} (h0 : 0 ≤ lo) (h1 : lo ≤ hi) (h2 : hi ≤ s.size) (K : Value → WP) : A0 PR (Instr.sliceAt 9 (.string s) (some (.int k1 lo)) (some (.int k2 hi)) none) K = K (.string (s.extract lo.toNat hi.toNat)) := B1y Z4 h0 h1 h2
theorem B4Q : TI PR 85 Try.t85.desc 1 8 (.map none) := ⟨Try.underlying85, Try.t85, by kernel_rfl, rfl, rfl, rfl⟩
theorem A9m : TI PR 93 Try.t92.desc 1 16 .nilIface := ⟨Try.underlying93, Try.t93, by kernel_rfl, rfl, rfl, rfl⟩
theorem A9D : TI PR 94 Try.t94.desc 1 8 (.map none) := ⟨Try.underlying94, Try.t94, by kernel_rfl, rfl, rfl, rfl⟩
end Go.Proofs.Ytlplkjgcfjdinaa
namespace Go.Proofs.Ytlplkjgcfjdinaa
open Go
@[simp] theorem B0U (a b : ByteArray) : (a == b) = decide (a = b) := by
 obtain ⟨x⟩ := a; obtain ⟨y⟩ := b
 have h : ((⟨x⟩ : ByteArray) == ⟨y⟩) = (x == y) := rfl
 rw [h]
 by_cases e : x = y
 ·subst e; simp
 ·simp [e]
@[simp] theorem B5c (a : Array UInt8) : (ByteArray.mk a).size = a.size := rfl
theorem A6y (ns : List Int) : (w9 ns).data.toList = ns.map fun n => UInt8.ofNat n.toNat := by
 have : ∀ (l : List Int) (r : ByteArray), (l.foldl (fun r n => r.push (UInt8.ofNat n.toNat)) r).data.toList = r.data.toList ++ l.map fun n => UInt8.ofNat n.toNat := by
  intro l
  induction l with
  | nil => intro r; simp
  | cons x l ih => intro r; rw [List.foldl_cons, ih]; simp [ByteArray.push]
 have h := this ns ByteArray.empty
 rw [show ByteArray.empty.data.toList = [] from rfl, List.nil_append] at h
 exact h
@[simp] theorem B4T (ns : List Int) : (w9 ns).size = ns.length := by
 have := congrArg List.length (A6y ns)
 rw [List.length_map] at this
 exact this
class TS (t : TypeId) (z : outParam Value) : Prop where
 ti : ∃ d m, TI PR t d 1 m z ∧ H6 d = false
class TG (t : TypeId) (n : outParam Nat) (z : outParam Value) : Prop where
 ti : ∃ d m, TI PR t d n m z ∧ H6 d = true
class TA (t : TypeId) (n : outParam Nat) (z : outParam Value) : Prop where
 ti : ∃ d m, TI PR t d n m z
class SL (t : TypeId) (e : outParam TypeId) (k by' : outParam Nat) (z : outParam Value) : Prop where
 ti : (∃ n m z', TI PR t (.slice e) n m z') ∧ (∃ d, TI PR e d k by' z) ∧ z.cells.size = k
instance TS.ta {t : TypeId} {z : Value} [h : TS t z] : TA t 1 z := ⟨let ⟨d, m, h, _⟩ := h.ti; ⟨d, m, h⟩⟩
instance TG.ta {t : TypeId} {n : Nat} {z : Value} [h : TG t n z] : TA t n z := ⟨let ⟨d, m, h, _⟩ := h.ti; ⟨d, m, h⟩⟩
def rdq (x : Option (List Value)) (G : List Value → WP) (F : WP) : WP := match x with | some l => G l | none => F
@[simp] theorem A7F (l : List Value) (G : List Value → WP) (F : WP) : rdq (some l) G F = G l := id rfl
@[congr] theorem B6N {x x' : Option (List Value)} {G : List Value → WP} {F : WP} (h : x = x') {q : Nat} (hq : P3 = q) : rdq x G F = rdq x' G F := by rw [h]
@[simp] theorem B7G (xs : List Value) : N2 xs 0 0 = some [] := by simp [N2]
@[simp] theorem B4x (x : Value) (xs : List Value) (n : Nat) : N2 (x :: xs) 0 (n + 1) = (N2 xs 0 n).map (x :: ·) := by
 simp only [N2, Nat.zero_add, List.length_cons, List.drop_zero, List.take_succ_cons]
 by_cases h : n ≤ xs.length
 ·rw [if_pos h, if_pos (by omega)]; rfl
 ·rw [if_neg h, if_neg (by omega)]; rfl
@[simp] theorem B5G (x : Value) (xs : List Value) (o n : Nat) : N2 (x :: xs) (o + 1) n = N2 xs o n := by
 simp only [N2, List.length_cons, List.drop_succ_cons]
 by_cases h : o + n ≤ xs.length
 ·rw [if_pos h, if_pos (by omega)]
 ·rw [if_neg h, if_neg (by omega)]
inductive Sel (r : Res) : List Res → List Res → Prop where
 | here {H : List Res} : Sel r (r :: H) H
 | there {x : Res} {H H' : List Res} : Sel r H H' → Sel r (x :: H) (x :: H')
theorem Sel.perm {r : Res} {H Hr : List Res} (h : Sel r H Hr) : H.Perm (r :: Hr) := by
 induction h with
 | here => exact .refl _
 | there _ ih => exact (ih.cons _).trans (.swap ..)
theorem Sel.sub {r : Res} {H Hr : List Res} (h : Sel r H Hr) : Hr.Sublist H := by
 induction h with
 | here => exact List.sublist_cons_self ..
 | there _ ih => exact ih.cons_cons _
theorem A1 {r : Res} {H : List Res} : r ∈ r :: H := List.mem_cons_self ..
theorem uH {r r' : Res} {H : List Res} : Up r r' (r :: H) (r' :: H) := Up.here
theorem uT {r r' x : Res} {H H' : List Res} (h : Up r r' H H') : Up r r' (x :: H) (x :: H') := Up.there h
theorem A2 {r x : Res} {H : List Res} (h : r ∈ H) : r ∈ x :: H := List.mem_cons_of_mem _ h
inductive Sels : List Res → List Res → Prop where
 | nil {H : List Res} : Sels [] H
 | cons {r : Res} {rs H Hr : List Res} : Sel r H Hr → Sels rs Hr → Sels (r :: rs) H
theorem Sels.sub {rs H : List Res} (h : Sels rs H) : ∃ H', H.Perm H' ∧ rs.Sublist H' := by
 induction h with
 | nil => exact ⟨_, .refl _, List.nil_sublist _⟩
 | cons h1 _ ih => obtain ⟨H', h2, h3⟩ := ih; exact ⟨_ :: H', h1.perm.trans (h2.cons _), h3.cons_cons _⟩
theorem Sels.lw {κ : Bool} {S : List Nat} {w0 w : World} {rs H : List Res} (h : Sels rs H) (hw : LW κ S w0 H w) : LW κ S w0 rs w := let ⟨_, h1, h2⟩ := h.sub; (hw.perm h1).sub h2
theorem Sels.tw {κ : Bool} {S : List Nat} {w0 : World} {rs H : List Res} {K : WP} (h : Sels rs H) (hk : TW κ S w0 rs K) : TW κ S w0 H K := fun w hw => hk w (h.lw hw)
inductive Part : List Res → List Res → List Res → Prop where
 | nil {H : List Res} : Part [] H H
 | cons {r : Res} {rs H H1 Hk : List Res} : Sel r H H1 → Part rs H1 Hk → Part (r :: rs) H Hk
theorem Part.perm {Hc H Hk : List Res} (h : Part Hc H Hk) : H.Perm (Hc ++ Hk) := by
 induction h with
 | nil => exact .refl _
 | cons h1 _ ih => exact h1.perm.trans (ih.cons _)
theorem F7 {κ : Bool} {X : Nat → Prop} {S : List Nat} {w0 : World} {H Hk Hc : List Res} {K : Value → WP} {f : FuncId} {args : List Value} {α : Type} {φ : α → Value → Prop} {Hn : α → List Res} (he : B0 PR f)
  (hf : ∀ w, LW κ S w0 (Hc ++ Hk) w → LW false (B7 Hc) w Hc w → Fn PR C5 f args.toArray w (Rn (B7 Hc) w φ Hn)) (hp : Part Hc H Hk) (hK : ∀ a v, φ a v → TW κ S w0 (Hn a ++ Hk) (K v)) : TW κ S w0 H (C6 PR X f args K) :=
 A46 he hp.perm (fun w hw => let h := hw.perm hp.perm; hf w h (h.sub (List.sublist_append_left _ _)).self) hK
theorem G7 {κ : Bool} {S : List Nat} {w0 : World} {H : List Res} {α : Type} {φ : α → Value → Prop} {Hn : α → List Res} {v : Value} (a : α) (h : φ a v) (hs : Sels (Hn a) H) : TW κ S w0 H (Rn S w0 φ Hn v) := fun w hw => ⟨a, h, hs.lw hw.low⟩
theorem B5d {κ : Bool} {S : List Nat} {w0 : World} {H : List Res} {F : Value → Value → WP} {A : (Value → Value → WP) → WP} {α : Type} (φ : α → Prop) (Hh : α → List Res) (v1 v2 : α → Value) (hF : ∀ x, φ x → TW κ S w0 (Hh x) (F (v1 x) (v2 x)))
  (hA : ∀ J : Value → Value → WP, (∀ x, φ x → TW κ S w0 (Hh x) (J (v1 x) (v2 x))) → TW κ S w0 H (A J)) : TW κ S w0 H (kt (n := 2) F A) := hA F hF
theorem B5j {κ : Bool} {S : List Nat} {w0 : World} {H : List Res} {F : Value → Value → Value → WP} {A : (Value → Value → Value → WP) → WP} {α : Type} (φ : α → Prop) (Hh : α → List Res) (v1 v2 v3 : α → Value) (hF : ∀ x, φ x → TW κ S w0 (Hh x) (F (v1 x) (v2 x) (v3 x)))
  (hA : ∀ J : Value → Value → Value → WP, (∀ x, φ x → TW κ S w0 (Hh x) (J (v1 x) (v2 x) (v3 x))) → TW κ S w0 H (A J)) : TW κ S w0 H (kt (n := 3) F A) := hA F hF
theorem E9.form {w : World} {v : Value} {n : Nat} {xs : List Value} (h : E9 w v n xs) : ∃ a c, v = .slice a n c ∧ (0 < n → ∃ b o, a = some ⟨b, o, none⟩ ∧ F1 w b o xs) := by
 rcases h with ⟨rfl, rfl, a, c, rfl⟩ | ⟨b, o, c, rfl, hr⟩
 ·exact ⟨a, c, rfl, fun h => absurd h (by omega)⟩
 ·exact ⟨_, c, rfl, fun _ => ⟨b, o, rfl, hr⟩⟩
theorem F1.at {w : World} {b o k : Nat} {α : Type} {l : List α} {f : α → List Value} (h : F1 w b o (l.flatMap f)) (hk : ∀ x, (f x).length = k) {i : Nat} {x : α} (hx : l[i]? = some x) : Y9 w b (o + i * k) k = some (f x) := by
 have h1 : F1 w b (o + i * k) (f x) := fun j hj => by
  rw [hk] at hj
  have h2 := x8 hk l i j hj
  rw [hx] at h2
  have h3 : (l.flatMap f)[i * k + j]? = some ((f x)[j]'(by rw [hk]; exact hj)) := by rw [h2]; simp [List.getElem?_eq_getElem, hk, hj]
  rw [Nat.add_assoc, h.get h3]; simp [List.getElem?_eq_getElem, hk, hj]
 have := A3B h1
 rwa [hk] at this
theorem F1.cellAt {w : World} {b o k : Nat} {α : Type} {l : List α} {f : α → List Value} (h : F1 w b o (l.flatMap f)) (hk : ∀ x, (f x).length = k) {i j : Nat} {x : α} {u : Value} (hx : l[i]? = some x) (hu : (f x)[j]? = some u) : w.cell? ⟨b, o + i * k + j, none⟩ = some u := by
 have hj : j < k := by rw [← hk x]; exact (List.getElem?_eq_some_iff.1 hu).1
 have h2 := x8 hk l i j hj
 rw [hx] at h2
 rw [Nat.add_assoc]
 exact h.get (by rw [h2]; exact hu)
theorem F1.one {w : World} {b o : Nat} {α : Type} {l : List α} {f : α → Value} (h : F1 w b o (l.map f)) {i : Nat} {x : α} (hx : l[i]? = some x) : w.cell? ⟨b, o + i, none⟩ = some (f x) := h.get (by simp [hx])
section
variable {κ : Bool} {X : Nat → Prop} {S : List Nat} {w0 : World} {H H' Hr : List Res} {K : Value → WP} {K0 : WP} {t e : TypeId} {n k by' : Nat} {z : Value}
theorem B5P {s : Sem Value} {v : Value} (h : ∀ w, LW κ S w0 H w → A6 PR s K w = K v w) : TW κ S w0 H (A6 PR s K) = TW κ S w0 H (K v) := TW.congr h
theorem B0H {s : Sem Value} {v : Value} (hK : TW κ S w0 H (K v)) (h : ∀ w, LW κ S w0 H w → A6 PR s K w = K v w) : TW κ S w0 H (A6 PR s K) := fun w hw => by rw [h w hw]; exact hK w hw
theorem A3F {v : Value} {q : Nat} {xs : List Value} (hm : Res.own e k v q xs ∈ H) (hq : 0 < q) (h : ∀ g c, v = .slice (some ⟨g, 0, none⟩) q c → TW κ S w0 H K0) : TW κ S w0 H K0 := fun w hw => by
 rcases (hw.hold _ hm).2 with ⟨_, rfl⟩ | ⟨g, c, _, rfl, _⟩
 ·omega
 ·exact h g c rfl w hw
theorem B3G {r : Res} (hs : Sel r H Hr) (h : TW κ S w0 (r :: Hr) K0) : TW κ S w0 H K0 := h.perm hs.perm
@[simp] theorem B79 [h : TS t z] {b o : Nat} {c : Array Value} {T : TypeId} {f : Nat × Nat} (hm : Res.pt b (.cells c T f) ∈ H) :
  TW κ S w0 H (A6 PR (Instr.loadAt t (.pointer (some ⟨b, o, none⟩))) K) = TW κ S w0 H (rdc c[o]? K (far PR t ⟨b, o, none⟩ K)) := let ⟨_, _, h, hd⟩ := h.ti; B23 h hd hm
@[simp] theorem B7d [h : TS t z] {g o : Nat} {k q c : Nat} {xs : List Value} (hm : Res.own e k (.slice (some ⟨g, 0, none⟩) q c) q xs ∈ H) :
  TW κ S w0 H (A6 PR (Instr.loadAt t (.pointer (some ⟨g, o, none⟩))) K) = TW κ S w0 H (rdc xs[o]? K (A6 PR (Instr.loadAt t (.pointer (some ⟨g, o, none⟩))) K)) := by
 cases hv : xs[o]? with
 | none => rfl
 | some v => exact let ⟨_, _, h, hd⟩ := h.ti; B17 h hd hm hv
@[simp] theorem B7Q [h : TS t z] {b o : Nat} {v : Value} (hc : w0.cell? ⟨b, o, none⟩ = some v) (hS : b ∉ S) :
  TW κ S w0 H (A6 PR (Instr.loadAt t (.pointer (some ⟨b, o, none⟩))) K) = TW κ S w0 H (K v) := let ⟨_, _, h, hd⟩ := h.ti; B2G h hd hc hS
@[simp] theorem B7Y [h : TG t n z] {b o : Nat} {c : Array Value} {T : TypeId} {f : Nat × Nat} (hm : Res.pt b (.cells c T f) ∈ H) :
  TW κ S w0 H (A6 PR (Instr.loadAt t (.pointer (some ⟨b, o, none⟩))) K) = TW κ S w0 H (rdq (N2 c.toList o n) (fun l => K (.agg l.toArray)) (A6 PR (Instr.loadAt t (.pointer (some ⟨b, o, none⟩))) K)) := by
 cases hl : N2 c.toList o n with
 | none => rfl
 | some l => exact let ⟨_, _, h, hd⟩ := h.ti; B2A h hd hm hl
@[simp] theorem B7C [h : TG t n z] {g o : Nat} {k q c : Nat} {xs : List Value} (hm : Res.own e k (.slice (some ⟨g, 0, none⟩) q c) q xs ∈ H) :
  TW κ S w0 H (A6 PR (Instr.loadAt t (.pointer (some ⟨g, o, none⟩))) K) = TW κ S w0 H (rdq (N2 xs o n) (fun l => K (.agg l.toArray)) (A6 PR (Instr.loadAt t (.pointer (some ⟨g, o, none⟩))) K)) := by
 cases hl : N2 xs o n with
 | none => rfl
 | some l => exact let ⟨_, _, h, hd⟩ := h.ti; B0s h hd hm hl
@[simp] theorem B6K [h : TG t n z] {b o : Nat} {l : List Value} (hc : Y9 w0 b o n = some l) (hS : b ∉ S) :
  TW κ S w0 H (A6 PR (Instr.loadAt t (.pointer (some ⟨b, o, none⟩))) K) = TW κ S w0 H (K (.agg l.toArray)) := let ⟨_, _, h, hd⟩ := h.ti; B1H h hd hc hS
@[simp] theorem B8b [h : TG t n z] {b o : Nat} {c : Array Value} {T : TypeId} {f : Nat × Nat} (hm : Res.pt b (.cells c T f) ∈ H) :
  TW κ S w0 H (A6 PR (E7 [.c t (.pointer (some ⟨b, o, none⟩))]) K) = TW κ S w0 H (rdq (N2 c.toList o n) (fun l => K (.agg l.toArray)) (A6 PR (E7 [.c t (.pointer (some ⟨b, o, none⟩))]) K)) := by
 cases hl : N2 c.toList o n with
 | none => rfl
 | some l => exact let ⟨_, _, h, hd⟩ := h.ti; B4G h hd hm hl
@[simp] theorem B8D [h : TG t n z] {b o : Nat} {c : Array Value} {T : TypeId} {f : Nat × Nat} {x : Value} (hm : Res.pt b (.cells c T f) ∈ H) :
  TW κ S w0 H (A6 PR (E7 [.c t (.pointer (some ⟨b, o, none⟩)), .v x]) K) = TW κ S w0 H (rdq (N2 c.toList o n) (fun l => K (.tuple #[.agg l.toArray, x])) (A6 PR (E7 [.c t (.pointer (some ⟨b, o, none⟩)), .v x]) K)) := by
 cases hl : N2 c.toList o n with
 | none => rfl
 | some l =>
   obtain ⟨_, _, h, hd⟩ := h.ti
   refine TW.congr fun w hw => ?_
   rw [A7F]
   have hr := x4 hl (F1.bl (hw.pt hm)); have h2 := l7 hr
   refine P8 ?_ K
   have := A0V h hd h2.1 h2.2
   simp only [Instr.loadAt, Instr.sureAddr, Sem.run_bind, Sem.run_pure, Result.andThen_ok] at this
   simp [E7, A0z, RV.sem, asAddr, this, one]
@[simp] theorem B8N [h : TG t n z] {b o : Nat} {c : Array Value} {T : TypeId} {f : Nat × Nat} {x y : Value} (hm : Res.pt b (.cells c T f) ∈ H) :
  TW κ S w0 H (A6 PR (E7 [.c t (.pointer (some ⟨b, o, none⟩)), .v x, .v y]) K) = TW κ S w0 H (rdq (N2 c.toList o n) (fun l => K (.tuple #[.agg l.toArray, x, y])) (A6 PR (E7 [.c t (.pointer (some ⟨b, o, none⟩)), .v x, .v y]) K)) := by
 cases hl : N2 c.toList o n with
 | none => rfl
 | some l =>
   obtain ⟨_, _, h, hd⟩ := h.ti
   refine TW.congr fun w hw => ?_
   rw [A7F]
   have hr := x4 hl (F1.bl (hw.pt hm)); have h2 := l7 hr
   refine P8 ?_ K
   have := A0V h hd h2.1 h2.2
   simp only [Instr.loadAt, Instr.sureAddr, Sem.run_bind, Sem.run_pure, Result.andThen_ok] at this
   simp [E7, A0z, RV.sem, asAddr, this, one]
@[simp] theorem B5g [h : TS t z] {b o : Nat} {c : Array Value} {T : TypeId} {f : Nat × Nat} {v : Value} {l : List Rd} (hm : Res.pt b (.cells c T f) ∈ H) (hv : c[o]? = some v) :
  TW κ S w0 H (watch PR ((none, Instr.loadAt t (.pointer (some ⟨b, o, none⟩)), v) :: l) K0) = TW κ S w0 H (watch PR l K0) := let ⟨_, _, h, hd⟩ := h.ti; A5c fun w hw => A3A h hd (by rw [P4 (hw.pt hm)]; exact hv)
@[simp] theorem B4d [h : TS t z] {b o : Nat} {v : Value} {l : List Rd} (hc : w0.cell? ⟨b, o, none⟩ = some v) (hS : b ∉ S) :
  TW κ S w0 H (watch PR ((none, Instr.loadAt t (.pointer (some ⟨b, o, none⟩)), v) :: l) K0) = TW κ S w0 H (watch PR l K0) := let ⟨_, _, h, hd⟩ := h.ti; A5c fun w hw => A3A h hd (hw.ks.cell hS hc)
@[simp] theorem B8z [h : TA t n z] {v : Value} {b o : Nat} {c : Array Value} {T : TypeId} (hv : v.cells.size = n)
  (hu : Up (.pt b (.cells c T (0, 0))) (.pt b (.cells (D5 c o v.cells.toList) T (0, 0))) H H') (hs : o + n ≤ c.size) (hp : v.cells.toList.all plain = true) :
  TW κ S w0 H (C8 PR X (Instr.storeAt t (.pointer (some ⟨b, o, none⟩)) v) K0) = TW κ S w0 H' K0 := let ⟨_, _, h⟩ := h.ti; B7u h hv hu hs hp
theorem A69 [h : TA t n z] {v : Value} {g o q c : Nat} {xs : List Value} (hu : Up (.own e k (.slice (some ⟨g, 0, none⟩) q c) q xs) (.own e k (.slice (some ⟨g, 0, none⟩) q c) q (A1g xs o v.cells.toList)) H H')
  (hv : v.cells.size = n) (hs : o + n ≤ xs.length) (hp : v.cells.toList.all plain = true) (hK : TW κ S w0 H' K0) :
  TW κ S w0 H (C8 PR X (Instr.storeAt t (.pointer (some ⟨g, o, none⟩)) v) K0) := let ⟨_, _, h⟩ := h.ti; B1g h hv hu hs hp hK
theorem A4 [h : TA t n z] (hK : ∀ b, TW κ S w0 (.pt b (.cells z.cells t) :: H) (K (.pointer (some ⟨b, 0, none⟩)))) : TW κ S w0 H (B1 PR X (Instr.alloc t true (.tuple #[])) K) := let ⟨_, _, h⟩ := h.ti; B7L h hK
theorem B32 {k1 k2 : IntKind} {l : Int} [h : SL t e k by' z] (h0 : 0 ≤ l) (hb : l * by' ≤ 140737488355328) (hc : l ≤ 9223372036854775807) (hk : 0 < k)
  (hK : ∀ b, TW κ S w0 (.own e k (.slice (some ⟨b, 0, none⟩) l.toNat l.toNat) l.toNat (Builtin.zeroCells z.cells l.toNat).toList :: H) (K (.slice (some ⟨b, 0, none⟩) l.toNat l.toNat))) :
  TW κ S w0 H (B1 PR X (Instr.makeSlice t (.int k1 l) (.int k2 l)) K) := let ⟨⟨_, _, _, h1⟩, ⟨_, h2⟩, h3⟩ := h.ti; B7J h1 h2 h3 hk h0 rfl hb hc hK
theorem B9 [h : SL t e k by' z] (hK : ∀ b, TW κ S w0 (.own e k (.slice (some ⟨b, 0, none⟩) 0 0) 0 [] :: H) (K (.slice (some ⟨b, 0, none⟩) 0 0))) : TW κ S w0 H (B1 PR X (Instr.buildSlice t 0 #[]) K) :=
 let ⟨⟨_, _, _, h1⟩, ⟨_, h2⟩, h3⟩ := h.ti; B5e h1 h2 hK
theorem B1m {m n q : Nat} (hq : 0 < n) : ∀ (vs : List Value) (i : Nat) (cs : Array Value), (∀ v ∈ vs, v.cells.size = n) → (i + vs.length) * n ≤ cs.size →
  Instr.fill (fun i => some (i * n, n)) cs ((List.range' i vs.length).zip vs) = some (D5 cs (i * n) (vs.flatMap fun v => v.cells.toList)) := by
 intro vs
 induction vs with
 | nil => intro i cs _ _; simp [Instr.fill]
 | cons v vs ih =>
  intro i cs hv hs
  simp only [List.length_cons] at hs
  have hv0 : v.cells.size = n := hv v (by simp)
  have e1 : (i + (vs.length + 1)) * n = i * n + n + vs.length * n := by rw [Nat.add_mul, Nat.add_mul]; omega
  simp only [List.length_cons, List.range'_succ, List.zip_cons_cons]
  rw [B2 rfl hv0 (by omega), ih (i + 1) _ (fun u hu => hv u (by simp [hu])) (by rw [B6]; (have : (i + 1 + vs.length) * n = i * n + n + vs.length * n := by (rw [Nat.add_mul, Nat.add_mul]; omega)); omega)]
  have spl_spl : ∀ (l l' : List Value) (c : Array Value) (o : Nat), D5 (D5 c o l) (o + l.length) l' = D5 c o (l ++ l') := by
   intro l
   induction l with
   | nil => intro l' c o; simp
   | cons u l ih => intro l' c o; simp only [A7j, List.cons_append, List.length_cons]; rw [← ih]; congr 1; omega
  rw [List.flatMap_cons, ← spl_spl]
  congr 2
  have : v.cells.toList.length = n := by simp [hv0]
  rw [this, Nat.add_mul]; omega
theorem A5N {len : Nat} {parts : Array (Nat × Value)} (vs : List Value) [h : SL t e k by' z] (hk : 0 < k) (h0 : 0 < len) (hb : len * k ≤ 2 ^ 24) (hp : parts.toList = (List.range' 0 len).zip vs) (hl : vs.length = len) (hv : ∀ v ∈ vs, v.cells.size = k)
  (hK : ∀ b, TW κ S w0 (.own e k (.slice (some ⟨b, 0, none⟩) len len) len (vs.flatMap fun v => v.cells.toList) :: H) (K (.slice (some ⟨b, 0, none⟩) len len))) :
  TW κ S w0 H (B1 PR X (Instr.buildSlice t len parts) K) := by
 obtain ⟨⟨_, _, _, h1⟩, ⟨_, h2⟩, h3⟩ := h.ti
 have hlen : (vs.flatMap fun v => v.cells.toList).length = len * k := by
  rw [← hl]; clear hp hl hK hb h0
  induction vs with
  | nil => simp
  | cons v vs ih =>
   have := hv v (by simp)
   rw [List.flatMap_cons, List.length_append, ih fun u hu => hv u (by simp [hu])]
   simp only [Array.length_toList, List.length_cons, this]; rw [Nat.add_mul]; omega
 have hf := B1m (m := 0) (q := 0) hk vs 0 ((Array.range (len * k)).map (z.cells[· % z.cells.size]!)) hv (by simp [hl])
 rw [hl, ← hp] at hf
 have hz : D5 ((Array.range (len * k)).map (z.cells[· % z.cells.size]!)) (0 * k) (vs.flatMap fun v => v.cells.toList) = (vs.flatMap fun v => v.cells.toList).toArray := by
  apply Array.toList_inj.1
  rw [g5 _ _ _ (by simp [-List.length_flatMap, hlen])]
  simp only [Nat.zero_mul, List.take_zero, List.nil_append, hlen, Nat.zero_add]
  rw [List.drop_eq_nil_of_le (by simp)]; simp
 refine B7k h1 h2 hb (by have : 0 < len * k := Nat.mul_pos h0 hk; omega) (hf.trans (by rw [hz])) (by simp [-List.length_flatMap, hlen]) ?_
 simpa using hK
theorem C3 {v0 : Value} [h : SL t e k by' z] (hk : 0 < k := by decide) (hb : 1 * k ≤ 2 ^ 24 := by decide) (h0 : v0.cells.size = k := by simp) (hK : ∀ b, TW κ S w0 (.own e k (.slice (some ⟨b, 0, none⟩) 1 1) 1 (v0.cells.toList) :: H) (K (.slice (some ⟨b, 0, none⟩) 1 1))) :
  TW κ S w0 H (B1 PR X (Instr.buildSlice t 1 #[(0, v0)]) K) := A5N [v0] hk (by omega) hb rfl rfl (by intro v hv; simp only [List.mem_cons, List.not_mem_nil, or_false] at hv; subst hv; assumption) (by simpa using hK)
theorem B4 {v0 v1 : Value} [h : SL t e k by' z] (hk : 0 < k := by decide) (hb : 2 * k ≤ 2 ^ 24 := by decide) (h0 : v0.cells.size = k := by simp) (h1 : v1.cells.size = k := by simp) (hK : ∀ b, TW κ S w0 (.own e k (.slice (some ⟨b, 0, none⟩) 2 2) 2 (v0.cells.toList ++ v1.cells.toList) :: H) (K (.slice (some ⟨b, 0, none⟩) 2 2))) :
  TW κ S w0 H (B1 PR X (Instr.buildSlice t 2 #[(0, v0), (1, v1)]) K) := A5N [v0, v1] hk (by omega) hb rfl rfl (by intro v hv; simp only [List.mem_cons, List.not_mem_nil, or_false] at hv; rcases hv with rfl | rfl <;> assumption) (by simpa using hK)
theorem C0 {v0 v1 v2 : Value} [h : SL t e k by' z] (hk : 0 < k := by decide) (hb : 3 * k ≤ 2 ^ 24 := by decide) (h0 : v0.cells.size = k := by simp) (h1 : v1.cells.size = k := by simp) (h2 : v2.cells.size = k := by simp) (hK : ∀ b, TW κ S w0 (.own e k (.slice (some ⟨b, 0, none⟩) 3 3) 3 (v0.cells.toList ++ v1.cells.toList ++ v2.cells.toList) :: H) (K (.slice (some ⟨b, 0, none⟩) 3 3))) :
  TW κ S w0 H (B1 PR X (Instr.buildSlice t 3 #[(0, v0), (1, v1), (2, v2)]) K) := A5N [v0, v1, v2] hk (by omega) hb rfl rfl (by intro v hv; simp only [List.mem_cons, List.not_mem_nil, or_false] at hv; rcases hv with rfl | rfl | rfl <;> assumption) (by simpa using hK)
theorem B5A {v0 v1 v2 v3 : Value} [h : SL t e k by' z] (hk : 0 < k := by decide) (hb : 4 * k ≤ 2 ^ 24 := by decide) (h0 : v0.cells.size = k := by simp) (h1 : v1.cells.size = k := by simp) (h2 : v2.cells.size = k := by simp) (h3 : v3.cells.size = k := by simp) (hK : ∀ b, TW κ S w0 (.own e k (.slice (some ⟨b, 0, none⟩) 4 4) 4 (v0.cells.toList ++ v1.cells.toList ++ v2.cells.toList ++ v3.cells.toList) :: H) (K (.slice (some ⟨b, 0, none⟩) 4 4))) :
  TW κ S w0 H (B1 PR X (Instr.buildSlice t 4 #[(0, v0), (1, v1), (2, v2), (3, v3)]) K) := A5N [v0, v1, v2, v3] hk (by omega) hb rfl rfl (by intro v hv; simp only [List.mem_cons, List.not_mem_nil, or_false] at hv; rcases hv with rfl | rfl | rfl | rfl <;> assumption) (by simpa using hK)
theorem C4 {v0 v1 v2 v3 v4 : Value} [h : SL t e k by' z] (hk : 0 < k := by decide) (hb : 5 * k ≤ 2 ^ 24 := by decide) (h0 : v0.cells.size = k := by simp) (h1 : v1.cells.size = k := by simp) (h2 : v2.cells.size = k := by simp) (h3 : v3.cells.size = k := by simp) (h4 : v4.cells.size = k := by simp) (hK : ∀ b, TW κ S w0 (.own e k (.slice (some ⟨b, 0, none⟩) 5 5) 5 (v0.cells.toList ++ v1.cells.toList ++ v2.cells.toList ++ v3.cells.toList ++ v4.cells.toList) :: H) (K (.slice (some ⟨b, 0, none⟩) 5 5))) :
  TW κ S w0 H (B1 PR X (Instr.buildSlice t 5 #[(0, v0), (1, v1), (2, v2), (3, v3), (4, v4)]) K) := A5N [v0, v1, v2, v3, v4] hk (by omega) hb rfl rfl (by intro v hv; simp only [List.mem_cons, List.not_mem_nil, or_false] at hv; rcases hv with rfl | rfl | rfl | rfl | rfl <;> assumption) (by simpa using hK)
theorem B8 {v0 v1 v2 v3 v4 v5 : Value} [h : SL t e k by' z] (hk : 0 < k := by decide) (hb : 6 * k ≤ 2 ^ 24 := by decide) (h0 : v0.cells.size = k := by simp) (h1 : v1.cells.size = k := by simp) (h2 : v2.cells.size = k := by simp) (h3 : v3.cells.size = k := by simp) (h4 : v4.cells.size = k := by simp) (h5 : v5.cells.size = k := by simp) (hK : ∀ b, TW κ S w0 (.own e k (.slice (some ⟨b, 0, none⟩) 6 6) 6 (v0.cells.toList ++ v1.cells.toList ++ v2.cells.toList ++ v3.cells.toList ++ v4.cells.toList ++ v5.cells.toList) :: H) (K (.slice (some ⟨b, 0, none⟩) 6 6))) :
  TW κ S w0 H (B1 PR X (Instr.buildSlice t 6 #[(0, v0), (1, v1), (2, v2), (3, v3), (4, v4), (5, v5)]) K) := A5N [v0, v1, v2, v3, v4, v5] hk (by omega) hb rfl rfl (by intro v hv; simp only [List.mem_cons, List.not_mem_nil, or_false] at hv; rcases hv with rfl | rfl | rfl | rfl | rfl | rfl <;> assumption) (by simpa using hK)
theorem K8.form {w : World} {e : TypeId} {k n : Nat} {v : Value} {xs : List Value} (h : K8 w e k v n xs) : ∃ a c, v = .slice a n c := by
 rcases h.2 with ⟨rfl, rfl⟩ | ⟨g, cap, cur, rfl, _⟩
 ·exact ⟨_, _, rfl⟩
 ·exact ⟨_, _, rfl⟩
theorem B0N {q : Nat} {xs : List Value} {A : Value → WP} (h : ∀ a c, TW κ S w0 (.own e k (.slice a q c) q xs :: H) (A (.slice a q c))) (v : Value) : TW κ S w0 (.own e k v q xs :: H) (A v) := fun w hw => by
 obtain ⟨a, c, rfl⟩ := K8.form (hw.hold _ A1)
 exact h a c w hw
theorem A3H {ty : TypeId} {v x : Value} {q r : Nat} {xs news : List Value} [h : SL t e k by' z] (hs : Sel (.own e k v q xs) H Hr) (hx : M8 κ S w0 H x r news) (hk : 0 < k) (hl : news.length = r * k) (hp : news.all plain = true)
  (h63 : q + r ≤ maxLen) (hby : (q + r) * by' ≤ 140737488355328) (hK : ∀ a c, TW κ S w0 (.own e k (.slice a (q + r) c) (q + r) (xs ++ news) :: Hr) (K (.slice a (q + r) c))) : TW κ S w0 H (B1 PR X (A7 .append #[t, t] ty [v, x]) K) := by
 obtain ⟨⟨_, _, _, h1⟩, ⟨_, h2⟩, h3⟩ := h.ti
 refine TW.perm ?_ hs.perm
 exact B5F (H'' := fun v' => .own e k v' (q + r) (xs ++ news) :: Hr) h1 h2 h3 hk (fun v' => .here) (fun w hw => hx w (hw.perm hs.perm.symm)) hl hp h63 hby (B0N hK)
end
end Go.Proofs.Ytlplkjgcfjdinaa
namespace Go.Proofs.Ytlplkjgcfjdinaa
open Go
instance : TS 3 (.int .i64 0) := ⟨_, _, H5, rfl⟩
instance : TS 4 (.bool false) := ⟨_, _, ty4, rfl⟩
instance : TS 5 (.int .u8 0) := ⟨_, _, ty5, rfl⟩
instance : TS 9 (.string (ByteArray.mk #[])) := ⟨_, _, Z4, rfl⟩
instance : TG 23 5 (.agg #[(.int .i64 0), (.int .i64 0), (.int .i64 0), (.int .i64 0), (.int .i64 0)]) := ⟨_, _, A2P, rfl⟩
instance : TS 24 (.slice none 0 0) := ⟨_, _, A7w, rfl⟩
instance : SL 24 54 1 24 (.slice none 0 0) := ⟨⟨_, _, _, A7w⟩, ⟨_, A5S⟩, rfl⟩
instance : TS 25 (.slice none 0 0) := ⟨_, _, B2Z, rfl⟩
instance : TG 27 7 (.agg #[(.int .i64 0), (.int .i64 0), (.int .i64 0), (.int .i64 0), (.int .i64 0), (.slice none 0 0), (.slice none 0 0)]) := ⟨_, _, A5U, rfl⟩
instance : TS 29 .nilFunc := ⟨_, _, A9Y, rfl⟩
instance : TS 33 (.slice none 0 0) := ⟨_, _, A9s, rfl⟩
instance : SL 33 58 10 80 (.agg #[(.int .i64 0), (.int .i64 0), (.int .i64 0), (.int .i64 0), (.int .i64 0), (.int .i64 0), (.int .i64 0), (.int .i64 0), (.bool false), (.int .i64 0)]) := ⟨⟨_, _, _, A9s⟩, ⟨_, r7⟩, rfl⟩
instance : TS 35 (.slice none 0 0) := ⟨_, _, A9V, rfl⟩
instance : SL 35 39 2 16 (.agg #[(.int .i64 0), (.int .i64 0)]) := ⟨⟨_, _, _, A9V⟩, ⟨_, A48⟩, rfl⟩
instance : TS 37 (.slice none 0 0) := ⟨_, _, A9p, rfl⟩
instance : SL 37 3 1 8 (.int .i64 0) := ⟨⟨_, _, _, A9p⟩, ⟨_, H5⟩, rfl⟩
instance : TG 39 2 (.agg #[(.int .i64 0), (.int .i64 0)]) := ⟨_, _, A48, rfl⟩
instance : TS 44 (.int .i64 0) := ⟨_, _, B2N, rfl⟩
instance : TG 48 6 (.agg #[(.int .i64 0), (.string (ByteArray.mk #[])), (.string (ByteArray.mk #[])), (.int .i64 0), (.int .i64 0), (.int .i64 0)]) := ⟨_, _, y7, rfl⟩
instance : TG 50 7 (.agg #[(.int .i64 0), (.string (ByteArray.mk #[])), (.string (ByteArray.mk #[])), (.int .i64 0), (.int .i64 0), (.int .i64 0), (.int .i64 0)]) := ⟨_, _, A5d, rfl⟩
instance : TS 51 (.slice none 0 0) := ⟨_, _, A9B, rfl⟩
instance : TG 53 4 (.agg #[(.int .i64 0), (.string (ByteArray.mk #[])), (.slice none 0 0), (.int .i64 0)]) := ⟨_, _, A06, rfl⟩
instance : TS 54 (.slice none 0 0) := ⟨_, _, A5S, rfl⟩
instance : SL 54 53 4 56 (.agg #[(.int .i64 0), (.string (ByteArray.mk #[])), (.slice none 0 0), (.int .i64 0)]) := ⟨⟨_, _, _, A5S⟩, ⟨_, A06⟩, rfl⟩
instance : TG 58 10 (.agg #[(.int .i64 0), (.int .i64 0), (.int .i64 0), (.int .i64 0), (.int .i64 0), (.int .i64 0), (.int .i64 0), (.int .i64 0), (.bool false), (.int .i64 0)]) := ⟨_, _, r7, rfl⟩
instance : TG 63 10 (.agg #[(.int .i64 0), (.int .i64 0), (.int .i64 0), (.int .i64 0), (.int .i64 0), (.int .i64 0), (.int .i64 0), (.int .i64 0), (.bool false), (.int .i64 0)]) := ⟨_, _, A9Z, rfl⟩
instance : TS 64 (.slice none 0 0) := ⟨_, _, A9u, rfl⟩
instance : SL 64 70 16 160 (.agg #[(.int .i64 0), (.int .i64 0), (.int .i64 0), (.int .i64 0), (.int .i64 0), (.int .i64 0), (.int .i64 0), (.int .i64 0), (.bool false), (.int .i64 0), (.int .i64 0), (.string (ByteArray.mk #[])), (.slice none 0 0), (.int .i64 0), (.string (ByteArray.mk #[])), (.bool false)]) := ⟨⟨_, _, _, A9u⟩, ⟨_, A20⟩, rfl⟩
instance : TG 70 16 (.agg #[(.int .i64 0), (.int .i64 0), (.int .i64 0), (.int .i64 0), (.int .i64 0), (.int .i64 0), (.int .i64 0), (.int .i64 0), (.bool false), (.int .i64 0), (.int .i64 0), (.string (ByteArray.mk #[])), (.slice none 0 0), (.int .i64 0), (.string (ByteArray.mk #[])), (.bool false)]) := ⟨_, _, A20, rfl⟩
instance : TS 73 .nilFunc := ⟨_, _, B72, rfl⟩
instance : TG 76 3 (.agg #[(.int .i64 0), (.int .i64 0), (.int .i64 0)]) := ⟨_, _, A3v, rfl⟩
instance : TG 79 3 (.agg #[(.string (ByteArray.mk #[])), (.string (ByteArray.mk #[])), (.int .i64 0)]) := ⟨_, _, A5V, rfl⟩
instance : TG 81 3 (.agg #[(.string (ByteArray.mk #[])), (.string (ByteArray.mk #[])), (.int .i64 0)]) := ⟨_, _, A5H, rfl⟩
instance : TS 87 .nilFunc := ⟨_, _, B7r, rfl⟩
instance : TS 98 (.pointer none) := ⟨_, _, A9Q, rfl⟩
instance : TS 99 (.slice none 0 0) := ⟨_, _, A1j, rfl⟩
instance : SL 99 5 1 1 (.int .u8 0) := ⟨⟨_, _, _, A1j⟩, ⟨_, ty5⟩, rfl⟩
instance : TG 103 2 (.agg #[(.pointer none), (.slice none 0 0)]) := ⟨_, _, B2f, rfl⟩
instance : SL 105 9 1 16 (.string (ByteArray.mk #[])) := ⟨⟨_, _, _, A9M⟩, ⟨_, Z4⟩, rfl⟩
instance : TS 112 (.int .u64 0) := ⟨_, _, A4U, rfl⟩
instance : TG 118 38 (.agg #[(.int .u8 0), (.int .u8 0), (.int .u8 0), (.int .u8 0), (.int .u8 0), (.int .u8 0), (.int .u8 0), (.int .u8 0), (.int .u8 0), (.int .u8 0), (.int .u8 0), (.int .u8 0), (.int .u8 0), (.int .u8 0), (.int .u8 0), (.int .u8 0), (.int .u8 0), (.int .u8 0), (.int .u8 0), (.int .u8 0), (.int .u8 0), (.int .u8 0), (.int .u8 0), (.int .u8 0), (.int .u8 0), (.int .u8 0), (.int .u8 0), (.int .u8 0), (.int .u8 0), (.int .u8 0), (.int .u8 0), (.int .u8 0), (.int .u8 0), (.int .u8 0), (.int .u8 0), (.int .u8 0), (.int .u8 0), (.int .u8 0)]) := ⟨_, _, A9j, rfl⟩
instance : SL 120 29 1 8 .nilFunc := ⟨⟨_, _, _, A8v⟩, ⟨_, A9Y⟩, rfl⟩
instance : TG 124 2 (.agg #[(.int .i64 0), (.int .i64 0)]) := ⟨_, _, A6k, rfl⟩
instance : TG 161 2 (.agg #[.nilFunc, (.int .i64 0)]) := ⟨_, _, A3J, rfl⟩
instance : SL 165 161 2 16 (.agg #[.nilFunc, (.int .i64 0)]) := ⟨⟨_, _, _, A9l⟩, ⟨_, A3J⟩, rfl⟩
@[simp] theorem B6d (a : Option Addr) (x y : Operand) (K : Value → WP) : A6 PR (Z1 .eql 98 x y (.pointer a) (.pointer none)) K = K (.bool a.isNone) := funext fun w => B0J a x y K w
end Go.Proofs.Ytlplkjgcfjdinaa
namespace Go.Proofs.Ytlplkjgcfjdinaa
open Go
def A5a (n i : Nat) : List Value := [.int .i64 (i : Int), .int .u64 (8 * ((n : Int) - 1 - i))]
abbrev B0Q (b : Nat) : Value := .func (.func 64) #[] #[.pointer (some ⟨b, 0, none⟩)]
theorem A7x (w : World) (n : Int) : Fn PR C5 57 #[.int .i64 n] w (Rn [] w (fun b v => v = B0Q b) fun b => [.pt b (.cells #[.int .i64 n] 3)]) := by
 refine A5Q (TW.go (κ := false) (S := []) ?_)
 unfold A1T
 (have zz:=trivial;repeat((first|clear zz|with_reducible first|refine A3 ?_|refine A5 fun _=>?_|refine A4 fun _=>?_);try simp(disch:=first|omega|assumption|((repeat(first|exact A1|exact uH|apply A2|apply uT));first|done|fail)|(simp;first|done|omega|fail))[]))
 rename_i b
 exact y8 b rfl (by simp)
theorem A7W (b : Nat) {n : Nat} (hn : n ≤ 8) : A6c (B0Q b) [.pt b (.cells #[.int .i64 (n : Int)] 3)] (fun _ _ => True) ((List.range n).map (A5a n)) := by
 refine ⟨_, _, _, rfl, fun l J E hJ hE stJ stE hy w0 h0 => ?_⟩
 refine A3M (A3V (TW.at (κ := true) ?_ (hJ _ _ _ h0).1))
 unfold u4
 (have zz:=trivial;repeat((first|clear zz|with_reducible first|refine A3 ?_|refine A5 fun _=>?_|refine A4 fun _=>?_);try simp(disch:=first|omega|assumption|((repeat(first|exact A1|exact uH|apply A2|apply uT));first|done|fail)|(simp;first|done|omega|fail))[]))
 refine B0y n (fun i => i) (fun _ => _) hJ stJ h0 fun i a hi hJi _ L hL => ?_
 by_cases hlt : i < n
 ·(have zz:=trivial;repeat((first|clear zz|with_reducible first|refine A3 ?_|refine A5 fun _=>?_|refine A4 fun _=>?_);try simp(disch:=first|omega|assumption|((repeat(first|exact A1|exact uH|apply A2|apply uT));first|done|fail)|(simp;first|done|omega|fail))[hlt]))
  refine A8x hJ hE stJ hy hJi (by simpa using hlt) (by simp [A5a]) (fun w3 h => ?_) (fun w3 h => ?_)
  ·(have zz:=trivial;repeat((first|clear zz|with_reducible first|refine A3 ?_|refine A5 fun _=>?_|refine A4 fun _=>?_);try simp(disch:=first|omega|assumption|((repeat(first|exact A1|exact uH|apply A2|apply uT));first|done|fail)|(simp;first|done|omega|fail))[]))
   exact fun w' hw' => hL hlt w' (stJ _ _ _ _ _ h hw')
  ·(have zz:=trivial;repeat((first|clear zz|with_reducible first|refine A3 ?_|refine A5 fun _=>?_|refine A4 fun _=>?_);try simp(disch:=first|omega|assumption|((repeat(first|exact A1|exact uH|apply A2|apply uT));first|done|fail)|(simp;first|done|omega|fail))[]))
   exact A7e stE h
 ·obtain rfl : i = n := by omega
  (have zz:=trivial;repeat((first|clear zz|with_reducible first|refine A3 ?_|refine A5 fun _=>?_|refine A4 fun _=>?_);try simp(disch:=first|omega|assumption|((repeat(first|exact A1|exact uH|apply A2|apply uT));first|done|fail)|(simp;first|done|omega|fail))[]))
  exact A7m stJ (by simpa using hJi)
def D4 (s : ByteArray) (i : Nat) : Nat := (s.data.getD i 0).toNat
def W4 (s : ByteArray) (a : Nat) : Nat → Nat
 | 0 => 0
 | i + 1 => W4 s a i * 256 + D4 s (a + i)
theorem q8 (s : ByteArray) (i : Nat) : D4 s i < 256 := (s.data.getD i 0).toNat_lt
theorem A2x (s : ByteArray) (a i : Nat) : W4 s a i < 256 ^ i := by
 induction i with
 | zero => simp [W4]
 | succ i ih =>
  have := q8 s (a + i)
  simp only [W4, Nat.pow_succ]
  omega
theorem m6 {s : ByteArray} {i : Nat} (h : i < s.size) : ∃ b : UInt8, s[i]? = some b ∧ b.toNat = D4 s i := by
 refine ⟨s[i], by simp [h], ?_⟩
 have h' : i < s.data.size := h
 have e : s.data.getD i 0 = s[i] := by rw [Array.getD_eq_getD_getElem?, Array.getElem?_eq_getElem h']; rfl
 rw [D4, e]
def n0 (s : ByteArray) (a n : Int) : Bool := decide (1 ≤ n ∧ n ≤ 8 ∧ 0 ≤ a ∧ a ≤ s.size - n)
def A00 (s : ByteArray) (a n : Int) : Int := if n0 s a n = true then (W4 s a.toNat n.toNat : Nat) else 0
theorem p8 (w : World) (s : ByteArray) (hs : s.size < 2 ^ 62) (a n : Int) :
  Fn PR C5 72 #[.string s, .int .i64 a, .int .i64 n] w (fun v w' => v = .tuple #[.int .u64 (A00 s a n), .bool (n0 s a n)] ∧ B5 [] w w') := by
 refine Fn.pure (A6x (TW.go (κ := false) (S := []) ?_))
 unfold A27
 by_cases hok : n0 s a n = true
 case neg =>
  have hv : A00 s a n = 0 := if_neg hok
  have hok' : n0 s a n = false := by simpa using hok
  rw [hv, hok']
  have hc : n < 1 ∨ 8 < n ∨ a < 0 ∨ (s.size : Int) - n < a := by
   simp only [n0, decide_eq_true_eq] at hok; omega
  by_cases h1 : n < 1
  ·(have zz:=trivial;repeat((first|clear zz|with_reducible first|refine A3 ?_|refine A5 fun _=>?_|refine A4 fun _=>?_);try simp(disch:=first|omega|assumption|((repeat(first|exact A1|exact uH|apply A2|apply uT));first|done|fail)|(simp;first|done|omega|fail))[h1])); exact A8 rfl
  by_cases h2 : 8 < n
  ·(have zz:=trivial;repeat((first|clear zz|with_reducible first|refine A3 ?_|refine A5 fun _=>?_|refine A4 fun _=>?_);try simp(disch:=first|omega|assumption|((repeat(first|exact A1|exact uH|apply A2|apply uT));first|done|fail)|(simp;first|done|omega|fail))[h1, h2])); exact A8 rfl
  by_cases h3 : a < 0
  ·(have zz:=trivial;repeat((first|clear zz|with_reducible first|refine A3 ?_|refine A5 fun _=>?_|refine A4 fun _=>?_);try simp(disch:=first|omega|assumption|((repeat(first|exact A1|exact uH|apply A2|apply uT));first|done|fail)|(simp;first|done|omega|fail))[h1, h2, h3])); exact A8 rfl
  have h4 : (s.size : Int) - n < a := by omega
  (have zz:=trivial;repeat((first|clear zz|with_reducible first|refine A3 ?_|refine A5 fun _=>?_|refine A4 fun _=>?_);try simp(disch:=first|omega|assumption|((repeat(first|exact A1|exact uH|apply A2|apply uT));first|done|fail)|(simp;first|done|omega|fail))[h1, h2, h3, h4])); exact A8 rfl
 have hv : A00 s a n = (W4 s a.toNat n.toNat : Nat) := if_pos hok
 rw [hv, hok]
 simp only [n0, decide_eq_true_eq] at hok
 obtain ⟨m, rfl⟩ : ∃ m : Nat, n = m := ⟨n.toNat, by omega⟩
 obtain ⟨k, rfl⟩ : ∃ k : Nat, a = k := ⟨a.toNat, by omega⟩
 have h1 : ¬ (m : Int) < 1 := by omega
 have h2 : ¬ 8 < (m : Int) := by omega
 have h4 : ¬ (s.size : Int) - m < k := by omega
 have h5 : ¬ (k : Int) < 0 := by omega
 (have zz:=trivial;repeat((first|clear zz|with_reducible first|refine A3 ?_|refine A5 fun _=>?_|refine A4 fun _=>?_);try simp(disch:=first|omega|assumption|((repeat(first|exact A1|exact uH|apply A2|apply uT));first|done|fail)|(simp;first|done|omega|fail))[h1, h2, h4, h5]))
 rename_i bs ba bv
 refine M4 A0b (fun w' _ => A7x w' m) ?_
 rintro b v rfl
 refine A6j (A7W b (n := m) (by omega)) (by simp [A5a]) (fun _ (_ : Unit) => True) (fun i _ => [.pt bv (.cells #[.int .u64 ((W4 s k i * 256 ^ (m - i) : Nat) : Int)] 112), .pt ba (.cells #[.int .i64 (k : Int)] 3), .pt bs (.cells #[.string s] 9)])
  (fun _ (_ : Unit) => False) (fun _ => []) () trivial ?_ ?_ ?_ ?_ (by simp [W4])
 ·intros; trivial
 ·rintro i hi _ F _ K' hK _
  have hi' : i < m := by simpa using hi
  obtain ⟨by0, hb0, hb1⟩ := m6 (s := s) (i := k + i) (by omega)
  have hidx : ((k : Int) + i).toNat = k + i := by omega
  have hbl := q8 s (k + i)
  rw [← hidx] at hb0
  have hsh : (0 : Int) ≤ 8 * ((m : Int) - 1 - i) := by omega
  simp only [List.getElem_map, List.getElem_range, A5a, VF.app]
  (have zz:=trivial;repeat((first|clear zz|with_reducible first|refine A3 ?_|refine A5 fun _=>?_|refine A4 fun _=>?_);try simp(disch:=first|omega|assumption|((repeat(first|exact A1|exact uH|apply A2|apply uT));first|done|fail)|(simp;first|done|omega|fail))[T6]))
  refine TW.eqH ?_ (hK () trivial)
  have hlt : (W4 s k i * 256 + D4 s (k + i)) * 256 ^ (m - 1 - i) < 2 ^ 64 := by
   have hA : W4 s k (i + 1) < 256 ^ (i + 1) := A2x s k (i + 1)
   have h8 : 256 ^ (i + 1) * 256 ^ (m - 1 - i) ≤ 2 ^ 64 := by
    rw [← Nat.pow_add, show (2 : Nat) ^ 64 = 256 ^ 8 from rfl]
    exact Nat.pow_le_pow_right (by omega) (by omega)
   exact Nat.lt_of_lt_of_le (Nat.mul_lt_mul_of_pos_right hA (Nat.pow_pos (by omega))) h8
  have hval := B3C hbl hlt (by omega)
  rw [show m - (i + 1) = m - 1 - i from by omega]
  simp [W4, ← hval]
  rw [hb1, show (8 * ((m : Int) - 1 - i)).toNat = 8 * (m - 1 - i) from by omega, show m - i = m - 1 - i + 1 from by omega]
 ·rintro _ _
  (have zz:=trivial;repeat((first|clear zz|with_reducible first|refine A3 ?_|refine A5 fun _=>?_|refine A4 fun _=>?_);try simp(disch:=first|omega|assumption|((repeat(first|exact A1|exact uH|apply A2|apply uT));first|done|fail)|(simp;first|done|omega|fail))[]))
  exact A8 (by simp)
 ·rintro _ _ h; exact h.elim
def A6e (v : Int) (n i : Nat) : Int := IntKind.u8.wrap (v.fdiv (2 ^ min (8 * ((n : Int) - 1 - i)).toNat IntKind.u64.bits))
def d7 (v : Int) (n i : Nat) : List Int := (List.range n).map fun j => if j < i then A6e v n j else 0
def D7 (v n : Int) : ByteArray := if 1 ≤ n ∧ n ≤ 8 then w9 (d7 v n.toNat n.toNat) else ByteArray.mk #[]
theorem B1Q (v : Int) {n i : Nat} (h : i < n) : (d7 v n i).set i (A6e v n i) = d7 v n (i + 1) := by
 apply List.ext_getElem (by simp [d7])
 intro j h1 h2
 simp only [d7, List.length_set, List.length_map, List.length_range] at h1
 rw [List.getElem_set]
 simp only [d7, List.getElem_map, List.getElem_range]
 by_cases hij : i = j
 ·subst hij; simp
 ·by_cases hj : j < i
  ·simp [hij, hj, Nat.lt_succ_of_lt hj]
  ·have : ¬ j < i + 1 := by omega
   simp [hij, hj, this]
def A0w (v : Int) (n i : Nat) : Array Value := ((d7 v n i).map (Value.int .u8)).toArray
theorem B07 (v : Int) {m : Nat} (h : m ≤ 8) : Builtin.zeroCells (Value.int .u8 0).cells m = A0w v m 0 := by
 have : m = 0 ∨ m = 1 ∨ m = 2 ∨ m = 3 ∨ m = 4 ∨ m = 5 ∨ m = 6 ∨ m = 7 ∨ m = 8 := by omega
 rcases this with rfl | rfl | rfl | rfl | rfl | rfl | rfl | rfl | rfl <;>
  (apply Array.ext'; simp [Builtin.zeroCells, A0w, d7, List.range, List.range.loop])
@[simp] theorem B0W {v n : Int} (h1 : 1 ≤ n) (h2 : n ≤ 8) : (D7 v n).size = n.toNat := by simp [D7, h1, h2, d7]
theorem U7 (w : World) (v n : Int) :
  Fn PR C5 47 #[.int .u64 v, .int .i64 n] w (fun u w' => u = .string (D7 v n) ∧ B5 [] w w') := by
 refine Fn.pure (A7M (TW.go (κ := false) (S := []) ?_))
 unfold A2V
 by_cases hok : 1 ≤ n ∧ n ≤ 8
 case neg =>
  have hv : D7 v n = ByteArray.mk #[] := if_neg hok
  rw [hv]
  by_cases h1 : n < 1
  ·(have zz:=trivial;repeat((first|clear zz|with_reducible first|refine A3 ?_|refine A5 fun _=>?_|refine A4 fun _=>?_);try simp(disch:=first|omega|assumption|((repeat(first|exact A1|exact uH|apply A2|apply uT));first|done|fail)|(simp;first|done|omega|fail))[h1])); exact A8 rfl
  ·have h2 : 8 < n := by omega
   (have zz:=trivial;repeat((first|clear zz|with_reducible first|refine A3 ?_|refine A5 fun _=>?_|refine A4 fun _=>?_);try simp(disch:=first|omega|assumption|((repeat(first|exact A1|exact uH|apply A2|apply uT));first|done|fail)|(simp;first|done|omega|fail))[h1, h2])); exact A8 rfl
 have hv : D7 v n = w9 (d7 v n.toNat n.toNat) := if_pos hok
 rw [hv]
 obtain ⟨m, rfl⟩ : ∃ m : Nat, n = m := ⟨n.toNat, by omega⟩
 have h1 : ¬ (m : Int) < 1 := by omega
 have h2 : ¬ 8 < (m : Int) := by omega
 (have zz:=trivial;repeat((first|clear zz|with_reducible first|refine A3 ?_|refine A5 fun _=>?_|refine A4 fun _=>?_);try simp(disch:=first|omega|assumption|((repeat(first|exact A1|exact uH|apply A2|apply uT));first|done|fail)|(simp;first|done|omega|fail))[h1, h2]))
 refine B32 (by omega) (by omega) (by omega) (by omega) fun bs => ?_
 rw [Int.toNat_natCast, B07 v (by omega)]
 (have zz:=trivial;repeat((first|clear zz|with_reducible first|refine A3 ?_|refine A5 fun _=>?_|refine A4 fun _=>?_);try simp(disch:=first|omega|assumption|((repeat(first|exact A1|exact uH|apply A2|apply uT));first|done|fail)|(simp;first|done|omega|fail))[h1, h2]))
 rename_i bv bb
 refine M4 A0b (fun w' _ => A7x w' m) ?_
 rintro b v rfl
 refine A6j (A7W b (n := m) (by omega)) (by simp [A5a]) (fun _ (_ : Unit) => True) (fun i _ => [.pt bb (.cells #[.slice (some ⟨bs, 0, none⟩) m m] 99),
   .own 5 1 (.slice (some ⟨bs, 0, none⟩) m m) m (A0w v m i).toList, .pt bv (.cells #[.int .u64 v] 112)])
  (fun _ (_ : Unit) => False) (fun _ => []) () trivial ?_ ?_ ?_ ?_ (by simp)
 ·intros; trivial
 ·rintro i hi _ F _ K' hK _
  have hi' : i < m := by simpa using hi
  have hsh : (0 : Int) ≤ 8 * ((m : Int) - 1 - i) := by omega
  simp only [List.getElem_map, List.getElem_range, A5a, VF.app]
  (have zz:=trivial;repeat((first|clear zz|with_reducible first|refine A3 ?_|refine A5 fun _=>?_|refine A4 fun _=>?_);try simp(disch:=first|omega|assumption|((repeat(first|exact A1|exact uH|apply A2|apply uT));first|done|fail)|(simp;first|done|omega|fail))[]))
  refine A69 (by (repeat constructor)) (by simp) (by simp [A0w, d7]; omega) (by simp) ?_
  refine TW.eqH ?_ (hK () trivial)
  have e : A1g (A0w v m i).toList i [.int .u8 (A6e v m i)] = (A0w v m (i + 1)).toList := by
   rw [A62 (by simp [A0w, d7]; omega)]; simp [A0w, ← B1Q v hi', List.map_set]
  rw [← e]; simp [A6e]
 ·rintro _ _
  (have zz:=trivial;repeat((first|clear zz|with_reducible first|refine A3 ?_|refine A5 fun _=>?_|refine A4 fun _=>?_);try simp(disch:=first|omega|assumption|((repeat(first|exact A1|exact uH|apply A2|apply uT));first|done|fail)|(simp;first|done|omega|fail))[]))
  have hlen : (d7 v m m).length = m := by simp [d7]
  have := fun w' K (hr : F1 w' bs 0 ((d7 v m m).map (Value.int .u8))) => @A9b K w' bs 0 m _ hr
  rw [hlen] at this
  rw [B5P fun w' hw' => this w' _ (by simpa [A0w] using hw'.ownr (e := 5) (k := 1) (q := m) (c := m) (xs := (A0w v m m).toList) (by (repeat constructor)))]
  simp only [B5U]
  exact A8 rfl
 ·rintro _ _ h; exact h.elim
end Go.Proofs.Ytlplkjgcfjdinaa
