/- The proof of a given statement, a part of it (ShStd ShOctet Ins Tc Tn Oct). No condition but what each lemma says. -/
import Derived.Test.YtpbmephflllolaaGreatA8
set_option linter.unusedVariables false
set_option linter.unusedSimpArgs false
namespace Go.Proofs.YtpbmephflllolaaGreat
open Go
def Q3 (X : Nat → Prop) (t0 t1 : Value) (R : Value → WP) : WP :=
 A0 PR (G9 t0) fun t5 =>
 A0 PR (Instr.fieldAt 85 t5 2) fun t6 =>
 A6 PR (convert 79 83 t1) fun t8 =>
 B1 PR X 72 [t6, t8] fun t9 =>
 R (.tuple #[])
theorem P6 : B0 PR 36 := A8 Tryz.func36 (by kernel_rfl) rfl
theorem j1 {X : Nat → Prop} {t0 t1 : Value} {R : Value → WP} {w : World} (h : Q3 X t0 t1 R w) : Fn PR X 36 #[t0, t1] w R := C6 (args := [t0, t1]) mixed Tryz.func36 (by kernel_rfl) h
def U3 (X : Nat → Prop) (t0 : Value) (R : Value → WP) : WP :=
 jn (n := 1) (fun t2 =>
 B2 PR X (Instr.buildSlice 32 0 #[]) fun t5 =>
 B2 PR X (A7 .append #[32, 32] 32 [t5, t0]) fun t7 =>
 R t7) fun J1 =>
 A6 PR (N1 .eql 32 (.tmp 3) (.const (.slice none 0 0)) t0 (.slice none 0 0)) fun t4 =>
 B5 t4 (
 R (.slice none 0 0)) (
 J1 (.slice none 0 0))
theorem T9 : B0 PR 49 := A8 Tryz.func49 (by kernel_rfl) rfl
theorem s6 {X : Nat → Prop} {t0 : Value} {R : Value → WP} {w : World} (h : U3 X t0 R w) : Fn PR X 49 #[t0] w R := C6 (args := [t0]) mixed Tryz.func49 (by kernel_rfl) h
def S0 (X : Nat → Prop) (t0 : Value) (R : Value → WP) : WP :=
 A0 PR (G9 t0) fun t4 =>
 A0 PR (Instr.fieldAt 85 t4 2) fun t5 =>
 B1 PR X 91 [t5] fun t6 =>
 A6 PR (convert 83 79 t6) fun t7 =>
 R t7
theorem Q2 : B0 PR 50 := A8 Tryz.func50 (by kernel_rfl) rfl
theorem k8 {X : Nat → Prop} {t0 : Value} {R : Value → WP} {w : World} (h : S0 X t0 R w) : Fn PR X 50 #[t0] w R := C6 (args := [t0]) mixed Tryz.func50 (by kernel_rfl) h
def A3S (X : Nat → Prop) (t0 t1 : Value) (R : Value → WP) : WP :=
 B1 PR X 120 [t0] fun t8 =>
 B1 PR X 120 [t1] fun t10 =>
 jn (n := 1) (fun t4 =>
 jn (n := 1) (fun t4_1 =>
 jn (n := 1) (fun t4_2 =>
 jn (n := 1) (fun t4_3 =>
 R (.int .i64 0)) fun J1 =>
 A0 PR (binOp .gtr 3 t0 t1) fun t19 =>
 B5 t19 (
 R (.int .i64 1)) (
 J1 t4_2)) fun J2 =>
 A0 PR (binOp .lss 3 t0 t1) fun t16 =>
 B5 t16 (
 R (.int .i64 (-1))) (
 J2 t4_1)) fun J3 =>
 B5 t10 (
 R (.int .i64 1)) (
 J3 t4)) fun J4 =>
 B5 t8 (
 jn (n := 1) (fun t4_4 =>
 R (.int .i64 (-1))) fun J5 =>
 B5 t10 (
 R (.int .i64 0)) (
 J5 (.int .i64 0))) (
 J4 (.int .i64 0))
theorem A9L : B0 PR 69 := A8 Tryz.func69 (by kernel_rfl) rfl
theorem A96 {X : Nat → Prop} {t0 t1 : Value} {R : Value → WP} {w : World} (h : A3S X t0 t1 R w) : Fn PR X 69 #[t0, t1] w R := C6 (args := [t0, t1]) mixed Tryz.func69 (by kernel_rfl) h
theorem B1B {X : Nat → Prop} {t0 t1 : Value} {K : Value → WP} {w : World} (h : Fn PR X 69 #[t0, t1] w K) : B1 PR X 69 [t0, t1] K w := Or.inl ⟨A9L, h⟩
def A3K (X : Nat → Prop) (t0 : Value) (R : Value → WP) : WP :=
 A0 PR (G9 t0) fun t3 =>
 A0 PR (Instr.fieldAt 101 t3 1) fun t4 =>
 B1 PR X 135 [t4] fun t5 =>
 R (.tuple #[])
theorem A9J : B0 PR 86 := A8 Tryz.func86 (by kernel_rfl) rfl
theorem A9a {X : Nat → Prop} {t0 : Value} {R : Value → WP} {w : World} (h : A3K X t0 R w) : Fn PR X 86 #[t0] w R := C6 (args := [t0]) mixed Tryz.func86 (by kernel_rfl) h
def P3 (X : Nat → Prop) (t0 : Value) (R : Value → WP) : WP :=
 B2 PR X (Instr.box 86 t0) fun t1 =>
 A0 PR (Instr.makeFunc (.func 136) #[] #[t1]) fun t3 =>
 R t3
theorem d8 : B0 PR 88 := A8 Tryz.func88 (by kernel_rfl) rfl
theorem f9 {X : Nat → Prop} {t0 : Value} {R : Value → WP} {w : World} (h : P3 X t0 R w) : Fn PR X 88 #[t0] w R := C6 (args := [t0]) mixed Tryz.func88 (by kernel_rfl) h
def A2T (X : Nat → Prop) (t0 : Value) (R : Value → WP) : WP :=
 A0 PR (G9 t0) fun t3 =>
 A0 PR (Instr.fieldAt 101 t3 1) fun t4 =>
 B1 PR X 137 [t4] fun t5 =>
 R (.tuple #[])
theorem A7m : B0 PR 89 := A8 Tryz.func89 (by kernel_rfl) rfl
theorem A8F {X : Nat → Prop} {t0 : Value} {R : Value → WP} {w : World} (h : A2T X t0 R w) : Fn PR X 89 #[t0] w R := C6 (args := [t0]) mixed Tryz.func89 (by kernel_rfl) h
def j4 (X : Nat → Prop) (t0 t1 : Value) (R : Value → WP) : WP :=
 B1 PR X 139 [t0] fun t7 =>
 A0 PR (G9 t0) fun t10 =>
 A0 PR (Instr.fieldAt 187 t10 1) fun t11 =>
 A6 PR (Instr.loadAt 127 t11) fun t12 =>
 B2 PR X (A7 .append #[127, 9] 127 [t12, t1]) fun t14 =>
 A0 PR (G9 t0) fun t15 =>
 A0 PR (Instr.fieldAt 187 t15 1) fun t16 =>
 B6 PR X (Instr.storeAt 127 t16 t14) <|
 A0 PR (A7 .len #[9] 0 [t1]) fun t18 =>
 R (.tuple #[t18, .nilIface])
theorem N2 : B0 PR 95 := A8 Tryz.func95 (by kernel_rfl) rfl
theorem A2U {X : Nat → Prop} {t0 t1 : Value} {R : Value → WP} {w : World} (h : j4 X t0 t1 R w) : Fn PR X 95 #[t0, t1] w R := C6 (args := [t0, t1]) mixed Tryz.func95 (by kernel_rfl) h
def w9 (X : Nat → Prop) (t0 : Value) (R : Value → WP) : WP :=
 drw <|
 A0 PR (G9 t0) fun t4 =>
 A0 PR (Instr.fieldAt 187 t4 1) fun t5 =>
 A6 PR (Instr.loadAt 127 t5) fun t6 =>
 A0 PR (G9 t0) fun t9 =>
 A0 PR (Instr.fieldAt 187 t9 1) fun t10 =>
 A6 PR (Instr.loadAt 127 t10) fun t11 =>
 A0 PR (A7 .len #[127] 0 [t11]) fun t12 =>
 B2 PR X (A7 .unsafeSliceData #[127] 249 [t6]) fun t7 =>
 watch PR [(none, (Instr.loadAt 127 t10), t11)] <|
 B2 PR X (A7 .unsafeString #[249, 3] 9 [t7, t12]) fun t13 =>
 R t13
theorem A3g : B0 PR 96 := A8 Tryz.func96 (by kernel_rfl) rfl
theorem A30 {X : Nat → Prop} {t0 : Value} {R : Value → WP} {w : World} (h : w9 X t0 R w) : Fn PR X 96 #[t0] w R := C6 (args := [t0]) mixed Tryz.func96 (by kernel_rfl) h
def d6 (X : Nat → Prop) (t0 t1 : Value) (R : Value → WP) : WP :=
 B1 PR X 157 [t0] fun t7 =>
 B1 PR X 158 [t7, t1] fun t10 =>
 R t7
theorem A0z : B0 PR 107 := A8 Tryz.func107 (by kernel_rfl) rfl
theorem A1V {X : Nat → Prop} {t0 t1 : Value} {R : Value → WP} {w : World} (h : d6 X t0 t1 R w) : Fn PR X 107 #[t0, t1] w R := C6 (args := [t0, t1]) mixed Tryz.func107 (by kernel_rfl) h
def W9 (X : Nat → Prop) (t0 : Value) (R : Value → WP) : WP :=
 jn (n := 1) (fun t2 =>
 B2 PR X (Instr.buildSlice 94 0 #[]) fun t5 =>
 B2 PR X (A7 .append #[94, 94] 94 [t5, t0]) fun t7 =>
 R t7) fun J1 =>
 A6 PR (N1 .eql 94 (.tmp 3) (.const (.slice none 0 0)) t0 (.slice none 0 0)) fun t4 =>
 B5 t4 (
 R (.slice none 0 0)) (
 J1 (.slice none 0 0))
theorem V9 : B0 PR 111 := A8 Tryz.func111 (by kernel_rfl) rfl
theorem A0H {X : Nat → Prop} {t0 : Value} {R : Value → WP} {w : World} (h : W9 X t0 R w) : Fn PR X 111 #[t0] w R := C6 (args := [t0]) mixed Tryz.func111 (by kernel_rfl) h
def A44 (X : Nat → Prop) (t0 : Value) (R : Value → WP) : WP :=
 A0 PR (binOp .neq 3 t0 t0) fun t5 =>
 R t5
theorem B03 : B0 PR 120 := A8 Tryz.func120 (by kernel_rfl) rfl
theorem B2L {X : Nat → Prop} {t0 : Value} {R : Value → WP} {w : World} (h : A44 X t0 R w) : Fn PR X 120 #[t0] w R := C6 (args := [t0]) mixed Tryz.func120 (by kernel_rfl) h
theorem A6S {X : Nat → Prop} {t0 : Value} {K : Value → WP} {w : World} (h : Fn PR X 120 #[t0] w K) : B1 PR X 120 [t0] K w := Or.inl ⟨B03, h⟩
def Z2 (X : Nat → Prop) (t0 t1 : Value) (R : Value → WP) : WP :=
 B1 PR X 170 [t0, t1] fun t7 =>
 A0 PR (binOp .geq 3 t7 (.int .i64 0)) fun t8 =>
 R t8
theorem A0M : B0 PR 121 := A8 Tryz.func121 (by kernel_rfl) rfl
theorem A0x {X : Nat → Prop} {t0 t1 : Value} {R : Value → WP} {w : World} (h : Z2 X t0 t1 R w) : Fn PR X 121 #[t0, t1] w R := C6 (args := [t0, t1]) mixed Tryz.func121 (by kernel_rfl) h
def p7 (X : Nat → Prop) (t0 : Value) (R : Value → WP) : WP :=
 B1 PR X 177 [] fun t2 =>
 jn (n := 0) (
 B1 PR X 181 [t0] fun t12 =>
 R (.tuple #[])) fun J1 =>
 A0 PR (G9 t0) fun t4 =>
 A0 PR (Instr.fieldAt 99 t4 0) fun t5 =>
 B1 PR X 178 [t5, (.int .i32 0), (.int .i32 1)] fun t6 =>
 B5 t6 (
 jn (n := 0) (
 R (.tuple #[])) fun J2 =>
 B5 (.bool true) (
 B1 PR X 179 [] fun t7 =>
 A6 PR (convert 283 83 t0) fun t9 =>
 B1 PR X 180 [t9] fun t10 =>
 J2) (
 J2)) (
 J1)
theorem A20 : B0 PR 135 := A8 Tryz.func135 (by kernel_rfl) rfl
theorem A3C {X : Nat → Prop} {t0 : Value} {R : Value → WP} {w : World} (h : p7 X t0 R w) : Fn PR X 135 #[t0] w R := C6 (args := [t0]) mixed Tryz.func135 (by kernel_rfl) h
def N6 (X : Nat → Prop) (t0 t1 : Value) (R : Value → WP) : WP :=
 A6 PR (Instr.loadAt 86 t1) fun t4 =>
 A0 PR (A7 .len #[86] 0 [t4]) fun t5 =>
 A0 PR (binOp .sub 3 t5 (.int .i64 1)) fun t6 =>
 lp (n := 1) (fun L1 t3 =>
 jn (n := 0) (
 jn (n := 0) (
 A0 PR (binOp .sub 3 t3 (.int .i64 1)) fun t10 =>
 L1 t10) fun J2 =>
 A6 PR (Instr.loadAt 86 t1) fun t13 =>
 A0 PR (Instr.indexAt 86 t13 t3) fun t15 =>
 A6 PR (Instr.loadAt 93 t15) fun t16 =>
 M4 PR X t0 [t3, t16] fun t17 =>
 A0 PR (Op.unary .not t17) fun t18 =>
 B5 t18 (
 R (.tuple #[])) (
 J2)) fun J3 =>
 A0 PR (binOp .geq 3 t3 (.int .i64 0)) fun t8 =>
 B5 t8 (
 J3) (
 R (.tuple #[]))) t6
theorem Y6 : B0 PR 136 := A8 Tryz.func136 (by kernel_rfl) rfl
theorem Z0 {X : Nat → Prop} {t0 t1 : Value} {R : Value → WP} {w : World} (h : N6 X t0 t1 R w) : Fn PR X 136 #[t0, t1] w R := C6 (args := [t0, t1]) mixed Tryz.func136 (by kernel_rfl) h
theorem Z5 {X : Nat → Prop} {t0 t1 : Value} {K : Value → WP} {w : World} (h : Fn PR X 136 #[t0, t1] w K) : A1f PR X 136 [t0, t1] K w := ⟨Y6, h⟩
def m5 (X : Nat → Prop) (t0 : Value) (R : Value → WP) : WP :=
 jn (n := 0) (
 A0 PR (G9 t0) fun t12 =>
 A0 PR (Instr.fieldAt 99 t12 0) fun t13 =>
 B1 PR X 183 [t13, (.int .i32 (-1))] fun t14 =>
 jn (n := 0) (
 B1 PR X 179 [] fun t20 =>
 R (.tuple #[])) fun J1 =>
 A0 PR (binOp .neq 21 t14 (.int .i32 0)) fun t16 =>
 B5 t16 (
 B1 PR X 184 [t0, t14] fun t19 =>
 J1) (
 J1)) fun J2 =>
 B5 (.bool true) (
 A0 PR (G9 t0) fun t4 =>
 A0 PR (Instr.fieldAt 99 t4 0) fun t5 =>
 A6 PR (Instr.loadAt 21 t5) fun t6 =>
 A6 PR (convert 283 83 t0) fun t8 =>
 B1 PR X 182 [t8] fun t9 =>
 B1 PR X 177 [] fun t10 =>
 J2) (
 J2)
theorem A2Q : B0 PR 137 := A8 Tryz.func137 (by kernel_rfl) rfl
theorem A2e {X : Nat → Prop} {t0 : Value} {R : Value → WP} {w : World} (h : m5 X t0 R w) : Fn PR X 137 #[t0] w R := C6 (args := [t0]) mixed Tryz.func137 (by kernel_rfl) h
def n8 (X : Nat → Prop) (t0 : Value) (R : Value → WP) : WP :=
 A0 PR (G9 t0) fun t3 =>
 A0 PR (Instr.fieldAt 187 t3 0) fun t4 =>
 A6 PR (Instr.loadAt 185 t4) fun t5 =>
 A6 PR (N1 .eql 185 (.tmp 5) (.const (.pointer none)) t5 (.pointer none)) fun t6 =>
 B5 t6 (
 A6 PR (convert 185 83 t0) fun t9 =>
 B1 PR X 185 [t9] fun t10 =>
 A6 PR (convert 83 185 t10) fun t11 =>
 A0 PR (G9 t0) fun t12 =>
 A0 PR (Instr.fieldAt 187 t12 0) fun t13 =>
 B6 PR X (Instr.storeAt 185 t13 t11) <|
 R (.tuple #[])) (
 A0 PR (G9 t0) fun t15 =>
 A0 PR (Instr.fieldAt 187 t15 0) fun t16 =>
 A6 PR (Instr.loadAt 185 t16) fun t17 =>
 A6 PR (N1 .neq 185 (.tmp 17) (.tmp 18) t17 t0) fun t19 =>
 B5 t19 (
 F7) (
 R (.tuple #[])))
theorem A2d : B0 PR 139 := A8 Tryz.func139 (by kernel_rfl) rfl
theorem A2q {X : Nat → Prop} {t0 : Value} {R : Value → WP} {w : World} (h : n8 X t0 R w) : Fn PR X 139 #[t0] w R := C6 (args := [t0]) mixed Tryz.func139 (by kernel_rfl) h
def k6 (X : Nat → Prop) (t0 : Value) (R : Value → WP) : WP :=
 B1 PR X 202 [(.slice none 0 0), t0] fun t4 =>
 R t4
theorem A15 : B0 PR 157 := A8 Tryz.func157 (by kernel_rfl) rfl
theorem A2N {X : Nat → Prop} {t0 : Value} {R : Value → WP} {w : World} (h : k6 X t0 R w) : Fn PR X 157 #[t0] w R := C6 (args := [t0]) mixed Tryz.func157 (by kernel_rfl) h
theorem j6 : B0 PR 158 := A8 Tryz.func158 (by kernel_rfl) rfl
def A88 (X : Nat → Prop) (t0 : Value) (R : Value → WP) : WP :=
 jn (n := 2) (fun t2 t8 =>
 R (.int .i64 0)) fun J1 =>
 A0 PR (A7 .len #[34] 0 [t0]) fun t7 =>
 lp (n := 2) (fun L2 t2_1 t8_1 =>
 A0 PR (binOp .lss 3 t8_1 t7) fun t9 =>
 jn (n := 0) (
 jn (n := 1) (fun t2_2 =>
 A0 PR (binOp .add 3 t8_1 (.int .i64 1)) fun t16 =>
 L2 t2_2 t16) fun J3 =>
 A0 PR (Instr.indexAt 34 t0 t8_1) fun t10 =>
 A6 PR (Instr.loadAt 3 t10) fun t11 =>
 A0 PR (binOp .neq 3 t11 (.int .i64 0)) fun t14 =>
 B5 t14 (
 R t11) (
 J3 t2_1)) fun J4 =>
 B5 t9 (
 J4) (
 J1 t2_1 t8_1)) (.int .i64 0) (.int .i64 0)
theorem B39 : B0 PR 161 := A8 Tryz.func161 (by kernel_rfl) rfl
theorem B5V {X : Nat → Prop} {t0 : Value} {R : Value → WP} {w : World} (h : A88 X t0 R w) : Fn PR X 161 #[t0] w R := C6 (args := [t0]) mixed Tryz.func161 (by kernel_rfl) h
theorem B7Q {X : Nat → Prop} {t0 : Value} {K : Value → WP} {w : World} (h : Fn PR X 161 #[t0] w K) : B1 PR X 161 [t0] K w := Or.inl ⟨B39, h⟩
def A1r (X : Nat → Prop) (t0 t1 : Value) (R : Value → WP) : WP :=
 B1 PR X 205 [t0] fun t8 =>
 B1 PR X 205 [t1] fun t10 =>
 jn (n := 1) (fun t4 =>
 jn (n := 1) (fun t4_1 =>
 jn (n := 1) (fun t4_2 =>
 jn (n := 1) (fun t4_3 =>
 R (.int .i64 0)) fun J1 =>
 A0 PR (binOp .gtr 129 t0 t1) fun t19 =>
 B5 t19 (
 R (.int .i64 1)) (
 J1 t4_2)) fun J2 =>
 A0 PR (binOp .lss 129 t0 t1) fun t16 =>
 B5 t16 (
 R (.int .i64 (-1))) (
 J2 t4_1)) fun J3 =>
 B5 t10 (
 R (.int .i64 1)) (
 J3 t4)) fun J4 =>
 B5 t8 (
 jn (n := 1) (fun t4_4 =>
 R (.int .i64 (-1))) fun J5 =>
 B5 t10 (
 R (.int .i64 0)) (
 J5 (.int .i64 0))) (
 J4 (.int .i64 0))
theorem A7J : B0 PR 162 := A8 Tryz.func162 (by kernel_rfl) rfl
theorem A7f {X : Nat → Prop} {t0 t1 : Value} {R : Value → WP} {w : World} (h : A1r X t0 t1 R w) : Fn PR X 162 #[t0, t1] w R := C6 (args := [t0, t1]) mixed Tryz.func162 (by kernel_rfl) h
theorem A8D {X : Nat → Prop} {t0 t1 : Value} {K : Value → WP} {w : World} (h : Fn PR X 162 #[t0, t1] w K) : B1 PR X 162 [t0, t1] K w := Or.inl ⟨A7J, h⟩
def g7 (X : Nat → Prop) (t0 t1 : Value) (R : Value → WP) : WP :=
 jn (n := 2) (fun t4 t8 =>
 R (.int .i64 (-1))) fun J1 =>
 A0 PR (A7 .len #[229] 0 [t0]) fun t7 =>
 lp (n := 2) (fun L2 t4_1 t8_1 =>
 A0 PR (binOp .lss 3 t8_1 t7) fun t9 =>
 jn (n := 0) (
 jn (n := 1) (fun t4_2 =>
 A0 PR (binOp .add 3 t8_1 (.int .i64 1)) fun t18 =>
 L2 t4_2 t18) fun J3 =>
 A0 PR (Instr.indexAt 229 t0 t8_1) fun t14 =>
 A6 PR (Instr.loadAt 153 t14) fun t15 =>
 M4 PR X t1 [t15] fun t16 =>
 B5 t16 (
 R t8_1) (
 J3 t4_1)) fun J4 =>
 B5 t9 (
 J4) (
 J1 t4_1 t8_1)) (.int .i64 0) (.int .i64 0)
theorem A1j : B0 PR 170 := A8 Tryz.func170 (by kernel_rfl) rfl
theorem A14 {X : Nat → Prop} {t0 t1 : Value} {R : Value → WP} {w : World} (h : g7 X t0 t1 R w) : Fn PR X 170 #[t0, t1] w R := C6 (args := [t0, t1]) mixed Tryz.func170 (by kernel_rfl) h
def S1 (X : Nat → Prop) (t0 t1 : Value) (R : Value → WP) : WP :=
 B2 PR X (Instr.box 208 t0) fun t2 =>
 jn (n := 0) (
 A6 PR (Instr.loadAt 208 t2) fun t12 =>
 f7 (R t12)) fun J1 =>
 rng (N := 1) PR X (fun t7 K2 =>
 B2 PR (fun _ => False) (Instr.alloc 211 true (.tuple #[])) fun t5 =>
 B6 PR (fun _ => False) (Instr.storeAt 211 t5 t7) <|
 bgn <|
 A6 PR (Instr.loadAt 208 t2) fun t8 =>
 A6 PR (Instr.loadAt 211 t5) fun t9 =>
 B2 PR (fun _ => False) (Instr.buildSlice 208 1 #[(0, t9)]) fun t10 =>
 B2 PR (fun _ => False) (A7 .append #[208, 208] 208 [t8, t10]) fun t11 =>
 B6 PR (fun _ => False) (Instr.storeAt 208 t2 t11) <|
 K2 none) t1 (fun j => match j with | none => (J1) | some (.exit i) => (match Nat.beq i 0 with | true => (J1) | false => (F7)) | some .ret => (f7 (R (.slice none 0 0))) | some _ => F7)
theorem g8 : B0 PR 202 := A8 Tryz.func202 (by kernel_rfl) rfl
theorem l3 {X : Nat → Prop} {t0 t1 : Value} {R : Value → WP} {w : World} (h : S1 X t0 t1 R w) : Fn PR X 202 #[t0, t1] w R := C6 (args := [t0, t1]) mixed Tryz.func202 (by kernel_rfl) h
def A2k (X : Nat → Prop) (t0 : Value) (R : Value → WP) : WP :=
 A0 PR (binOp .neq 129 t0 t0) fun t5 =>
 R t5
theorem A8Q : B0 PR 205 := A8 Tryz.func205 (by kernel_rfl) rfl
theorem A9S {X : Nat → Prop} {t0 : Value} {R : Value → WP} {w : World} (h : A2k X t0 R w) : Fn PR X 205 #[t0] w R := C6 (args := [t0]) mixed Tryz.func205 (by kernel_rfl) h
theorem A3W {X : Nat → Prop} {t0 : Value} {K : Value → WP} {w : World} (h : Fn PR X 205 #[t0] w K) : B1 PR X 205 [t0] K w := Or.inl ⟨A8Q, h⟩
def S8 (X : Nat → Prop) (t0 t1 : Value) (R : Value → WP) : WP :=
 jn (n := 2) (fun t4 t8 =>
 R (.int .i64 (-1))) fun J1 =>
 A0 PR (A7 .len #[32] 0 [t0]) fun t7 =>
 lp (n := 2) (fun L2 t4_1 t8_1 =>
 A0 PR (binOp .lss 3 t8_1 t7) fun t9 =>
 jn (n := 0) (
 jn (n := 1) (fun t4_2 =>
 A0 PR (binOp .add 3 t8_1 (.int .i64 1)) fun t18 =>
 L2 t4_2 t18) fun J3 =>
 A0 PR (Instr.indexAt 32 t0 t8_1) fun t14 =>
 A6 PR (Instr.loadAt 75 t14) fun t15 =>
 M4 PR X t1 [t15] fun t16 =>
 B5 t16 (
 R t8_1) (
 J3 t4_1)) fun J4 =>
 B5 t9 (
 J4) (
 J1 t4_1 t8_1)) (.int .i64 0) (.int .i64 0)
theorem l4 : B0 PR 222 := A8 Tryz.func222 (by kernel_rfl) rfl
theorem m6 {X : Nat → Prop} {t0 t1 : Value} {R : Value → WP} {w : World} (h : S8 X t0 t1 R w) : Fn PR X 222 #[t0, t1] w R := C6 (args := [t0, t1]) mixed Tryz.func222 (by kernel_rfl) h
def A7V (X : Nat → Prop) (t0 t1 : Value) (R : Value → WP) : WP :=
 jn (n := 2) (fun t5 t6 =>
 R t5) fun J1 =>
 lp (n := 2) (fun L2 t5_1 t6_1 =>
 jn (n := 0) (
 A0 PR (binOp .add 3 t5_1 t6_1) fun t14 =>
 A0 PR (convert 3 130 t14) fun t15 =>
 A0 PR (binOp .shr 130 t15 (.int .u64 1)) fun t16 =>
 A0 PR (convert 130 3 t16) fun t17 =>
 M4 PR X t1 [t17] fun t20 =>
 A0 PR (Op.unary .not t20) fun t21 =>
 B5 t21 (
 A0 PR (binOp .add 3 t17 (.int .i64 1)) fun t23 =>
 L2 t23 t6_1) (
 L2 t5_1 t17)) fun J3 =>
 A0 PR (binOp .lss 3 t5_1 t6_1) fun t11 =>
 B5 t11 (
 J3) (
 J1 t5_1 t6_1)) (.int .i64 0) t0
theorem B3Q : B0 PR 224 := A8 Tryz.func224 (by kernel_rfl) rfl
theorem B3m {X : Nat → Prop} {t0 t1 : Value} {R : Value → WP} {w : World} (h : A7V X t0 t1 R w) : Fn PR X 224 #[t0, t1] w R := C6 (args := [t0, t1]) mixed Tryz.func224 (by kernel_rfl) h
theorem A3F : B0 PR 267 := A8 Tryz.func267 (by kernel_rfl) rfl
end Go.Proofs.YtpbmephflllolaaGreat
namespace Go.Proofs.YtpbmephflllolaaGreat
open Go
def A9s (X : Nat → Prop) (t0 t1 : Value) (R : Value → WP) : WP :=
 B2 PR X (Instr.box 129 t0) fun t2 =>
 jn (n := 1) (fun t4 =>
 B2 PR X (Instr.makeSlice 127 t1 t1) fun t15 =>
 B2 PR X (Instr.alloc 127 true (.tuple #[])) fun t5 =>
 B6 PR X (Instr.storeAt 127 t5 t15) <|
 jn (n := 0) (
 A6 PR (Instr.loadAt 127 t5) fun t27 =>
 A6 PR (convert 127 9 t27) fun t28 =>
 f7 (R t28)) fun J1 =>
 B1 PR X 99 [t1] fun t17 =>
 rng (N := 2) PR X (fun t18 t19 K2 =>
 bgn <|
 A6 PR (Instr.loadAt 127 t5) fun t20 =>
 A6 PR (Instr.loadAt 129 t2) fun t22 =>
 A0 PR (binOp .shr 129 t22 t19) fun t24 =>
 A0 PR (convert 129 5 t24) fun t25 =>
 A0 PR (Instr.indexAt 127 t20 t18) fun t26 =>
 B6 PR (fun _ => False) (Instr.storeAt 5 t26 t25) <|
 K2 none) t17 (fun j => match j with | none => (J1) | some (.exit i) => (match Nat.beq i 0 with | true => (J1) | false => (F7)) | some .ret => (f7 (R t4)) | some _ => F7)) fun J3 =>
 A0 PR (binOp .lss 3 t1 (.int .i64 1)) fun t9 =>
 gj t9 false (fun J => J t1) fun t11 =>
 gj t9 false (fun J => A0 PR (binOp .gtr 3 t11 (.int .i64 8)) J) fun t12 =>
 A0 PR (do pure (if ← asBool t9 then (.bool true) else t12)) fun t13 =>
 B5 t13 (
 f7 (R (.string (ByteArray.mk #[])))) (
 J3 (.string (ByteArray.mk #[])))
theorem G8 : B0 PR 55 := A8 Tryz.func55 (by kernel_rfl) rfl
theorem B6N {X : Nat → Prop} {t0 t1 : Value} {R : Value → WP} {w : World} (h : A9s X t0 t1 R w) : Fn PR X 55 #[t0, t1] w R := C6 (args := [t0, t1]) mixed Tryz.func55 (by kernel_rfl) h
def A7S (X : Nat → Prop) (t0 : Value) (R : Value → WP) : WP :=
 B2 PR X (Instr.box 3 t0) fun t1 =>
 A0 PR (Instr.makeFunc (.func 141) #[] #[t1]) fun t3 =>
 R t3
theorem A5y : B0 PR 99 := A8 Tryz.func99 (by kernel_rfl) rfl
theorem B4C {X : Nat → Prop} {t0 : Value} {R : Value → WP} {w : World} (h : A7S X t0 R w) : Fn PR X 99 #[t0] w R := C6 (args := [t0]) mixed Tryz.func99 (by kernel_rfl) h
def A3n (X : Nat → Prop) (t0 t1 : Value) (R : Value → WP) : WP :=
 A6 PR (Instr.loadAt 3 t1) fun t4 =>
 lp (n := 1) (fun L1 t5 =>
 A0 PR (binOp .lss 3 t5 t4) fun t6 =>
 jn (n := 0) (
 jn (n := 0) (
 A0 PR (binOp .add 3 t5 (.int .i64 1)) fun t18 =>
 L1 t18) fun J2 =>
 A6 PR (Instr.loadAt 3 t1) fun t10 =>
 A0 PR (binOp .sub 3 t10 (.int .i64 1)) fun t11 =>
 A0 PR (binOp .sub 3 t11 t5) fun t13 =>
 A0 PR (binOp .mul 3 (.int .i64 8) t13) fun t14 =>
 A0 PR (convert 3 130 t14) fun t15 =>
 M4 PR X t0 [t5, t15] fun t16 =>
 A0 PR (Op.unary .not t16) fun t17 =>
 B5 t17 (
 R (.tuple #[])) (
 J2)) fun J3 =>
 B5 t6 (
 J3) (
 R (.tuple #[]))) (.int .i64 0)
theorem B0A : B0 PR 141 := A8 Tryz.func141 (by kernel_rfl) rfl
theorem B1A {X : Nat → Prop} {t0 t1 : Value} {R : Value → WP} {w : World} (h : A3n X t0 t1 R w) : Fn PR X 141 #[t0, t1] w R := C6 (args := [t0, t1]) mixed Tryz.func141 (by kernel_rfl) h
theorem B08 {X : Nat → Prop} {t0 t1 : Value} {K : Value → WP} {w : World} (h : Fn PR X 141 #[t0, t1] w K) : A1f PR X 141 [t0, t1] K w := ⟨B0A, h⟩
def A9V (X : Nat → Prop) (t0 t1 t2 : Value) (R : Value → WP) : WP :=
 B2 PR X (Instr.box 9 t0) fun t3 =>
 B2 PR X (Instr.box 3 t1) fun t4 =>
 jn (n := 2) (fun t6 t7 =>
 B2 PR X (Instr.alloc 129 true (.tuple #[])) fun t8 =>
 jn (n := 0) (
 A6 PR (Instr.loadAt 129 t8) fun t43 =>
 f7 (R (.tuple #[t43, (.bool true)]))) fun J1 =>
 B1 PR X 99 [t2] fun t30 =>
 rng (N := 2) PR X (fun t31 t32 K2 =>
 bgn <|
 drw <|
 A6 PR (Instr.loadAt 129 t8) fun t33 =>
 A6 PR (Instr.loadAt 9 t3) fun t34 =>
 A6 PR (Instr.loadAt 3 t4) fun t35 =>
 A0 PR (binOp .add 3 t35 t31) fun t37 =>
 A0 PR (Instr.index 9 t34 t37) fun t38 =>
 A0 PR (convert 5 129 t38) fun t39 =>
 A0 PR (binOp .shl 129 t39 t32) fun t41 =>
 A0 PR (binOp .or 129 t33 t41) fun t42 =>
 B6 PR (fun _ => False) (Instr.storeAt 129 t8 t42) <|
 K2 none) t30 (fun j => match j with | none => (J1) | some (.exit i) => (match Nat.beq i 0 with | true => (J1) | false => (F7)) | some .ret => (f7 (R (.tuple #[t6, t7]))) | some _ => F7)) fun J3 =>
 A0 PR (binOp .lss 3 t2 (.int .i64 1)) fun t12 =>
 gj t12 false (fun J => J t2) fun t14 =>
 gj t12 false (fun J => A0 PR (binOp .gtr 3 t14 (.int .i64 8)) J) fun t15 =>
 A0 PR (do pure (if ← asBool t12 then (.bool true) else t15)) fun t16 =>
 gj t16 false (fun J => A6 PR (Instr.loadAt 3 t4) J) fun t18 =>
 gj t16 false (fun J => A0 PR (binOp .lss 3 t18 (.int .i64 0)) J) fun t19 =>
 A0 PR (do pure (if ← asBool t16 then (.bool true) else t19)) fun t20 =>
 gj t20 false (fun J => A6 PR (Instr.loadAt 3 t4) J) fun t22 =>
 gj t20 false (fun J => A6 PR (Instr.loadAt 9 t3) J) fun t23 =>
 gj t20 false (fun J => A0 PR (A7 .len #[9] 0 [t23]) J) fun t24 =>
 gj t20 false (fun J => J t2) fun t25 =>
 gj t20 false (fun J => A0 PR (binOp .sub 3 t24 t25) J) fun t26 =>
 gj t20 false (fun J => A0 PR (binOp .gtr 3 t22 t26) J) fun t27 =>
 A0 PR (do pure (if ← asBool t20 then (.bool true) else t27)) fun t28 =>
 B5 t28 (
 f7 (R (.tuple #[(.int .u64 0), (.bool false)]))) (
 J3 (.int .u64 0) (.bool false))
theorem U4 : B0 PR 148 := A8 Tryz.func148 (by kernel_rfl) rfl
theorem B6U {X : Nat → Prop} {t0 t1 t2 : Value} {R : Value → WP} {w : World} (h : A9V X t0 t1 t2 R w) : Fn PR X 148 #[t0, t1, t2] w R := C6 (args := [t0, t1, t2]) mixed Tryz.func148 (by kernel_rfl) h
end Go.Proofs.YtpbmephflllolaaGreat
namespace Go.Proofs.YtpbmephflllolaaGreat
open Go
theorem A8W : TI PR 106 Tryz.t105.desc 4 40 (.agg #[(.string (ByteArray.mk #[])), (.int .i64 0), (.bool false), (.int .i64 0)]) := ⟨Tryz.underlying106, Tryz.t106, by kernel_rfl, rfl, rfl, rfl⟩
theorem A8d : TI PR 119 Tryz.t118.desc 3 24 (.agg #[(.int .i64 0), (.int .i64 0), (.int .i64 0)]) := ⟨Tryz.underlying119, Tryz.t119, by kernel_rfl, rfl, rfl, rfl⟩
theorem B0k : TI PR 122 Tryz.t121.desc 3 40 (.agg #[(.string (ByteArray.mk #[])), (.string (ByteArray.mk #[])), (.int .i64 0)]) := ⟨Tryz.underlying122, Tryz.t122, by kernel_rfl, rfl, rfl, rfl⟩
theorem B0y : TI PR 124 Tryz.t121.desc 3 40 (.agg #[(.string (ByteArray.mk #[])), (.string (ByteArray.mk #[])), (.int .i64 0)]) := ⟨Tryz.underlying124, Tryz.t124, by kernel_rfl, rfl, rfl, rfl⟩
theorem C0N : TI PR 126 Tryz.t126.desc 38 38 (.agg #[(.int .u8 0), (.int .u8 0), (.int .u8 0), (.int .u8 0), (.int .u8 0), (.int .u8 0), (.int .u8 0), (.int .u8 0), (.int .u8 0), (.int .u8 0), (.int .u8 0), (.int .u8 0), (.int .u8 0), (.int .u8 0), (.int .u8 0), (.int .u8 0), (.int .u8 0), (.int .u8 0), (.int .u8 0), (.int .u8 0), (.int .u8 0), (.int .u8 0), (.int .u8 0), (.int .u8 0), (.int .u8 0), (.int .u8 0), (.int .u8 0), (.int .u8 0), (.int .u8 0), (.int .u8 0), (.int .u8 0), (.int .u8 0), (.int .u8 0), (.int .u8 0), (.int .u8 0), (.int .u8 0), (.int .u8 0), (.int .u8 0)]) := ⟨Tryz.underlying126, Tryz.t126, by kernel_rfl, rfl, rfl, rfl⟩
theorem A3z : TI PR 127 Tryz.t127.desc 1 24 (.slice none 0 0) := ⟨Tryz.underlying127, Tryz.t127, by kernel_rfl, rfl, rfl, rfl⟩
theorem A5x : TI PR 129 Tryz.t129.desc 1 8 (.int .u64 0) := ⟨Tryz.underlying129, Tryz.t129, by kernel_rfl, rfl, rfl, rfl⟩
theorem C9K : TI PR 149 Tryz.t149.desc 1 8 .nilFunc := ⟨Tryz.underlying149, Tryz.t149, by kernel_rfl, rfl, rfl, rfl⟩
theorem A2A : TI PR 160 Tryz.t159.desc 4 40 (.agg #[(.int .i64 0), (.string (ByteArray.mk #[])), (.int .i64 0), (.int .i64 0)]) := ⟨Tryz.underlying160, Tryz.t160, by kernel_rfl, rfl, rfl, rfl⟩
theorem C0m : TI PR 176 Tryz.t94.desc 1 24 (.slice none 0 0) := ⟨Tryz.underlying176, Tryz.t176, by kernel_rfl, rfl, rfl, rfl⟩
theorem B0u : TI PR 187 Tryz.t186.desc 2 32 (.agg #[(.pointer none), (.slice none 0 0)]) := ⟨Tryz.underlying187, Tryz.t187, by kernel_rfl, rfl, rfl, rfl⟩
theorem C5P : TI PR 189 Tryz.t188.desc 2 32 (.agg #[(.pointer none), (.slice none 0 0)]) := ⟨Tryz.underlying189, Tryz.t189, by kernel_rfl, rfl, rfl, rfl⟩
theorem A8V : TI PR 211 Tryz.t210.desc 2 16 (.agg #[(.int .u64 0), (.int .i64 0)]) := ⟨Tryz.underlying211, Tryz.t211, by kernel_rfl, rfl, rfl, rfl⟩
theorem C9N : TI PR 218 Tryz.t218.desc 1 8 .nilFunc := ⟨Tryz.underlying218, Tryz.t218, by kernel_rfl, rfl, rfl, rfl⟩
theorem A59 : TI PR 233 Tryz.t232.desc 5 64 (.agg #[(.string (ByteArray.mk #[])), (.string (ByteArray.mk #[])), (.string (ByteArray.mk #[])), (.int .i64 0), (.int .i64 0)]) := ⟨Tryz.underlying233, Tryz.t233, by kernel_rfl, rfl, rfl, rfl⟩
theorem B0g : TI PR 235 Tryz.t118.desc 3 24 (.agg #[(.int .i64 0), (.int .i64 0), (.int .i64 0)]) := ⟨Tryz.underlying235, Tryz.t235, by kernel_rfl, rfl, rfl, rfl⟩
theorem B0f : TI PR 275 Tryz.t121.desc 3 40 (.agg #[(.string (ByteArray.mk #[])), (.string (ByteArray.mk #[])), (.int .i64 0)]) := ⟨Tryz.underlying275, Tryz.t275, by kernel_rfl, rfl, rfl, rfl⟩
theorem B02 : TI PR 278 Tryz.t121.desc 3 40 (.agg #[(.string (ByteArray.mk #[])), (.string (ByteArray.mk #[])), (.int .i64 0)]) := ⟨Tryz.underlying278, Tryz.t278, by kernel_rfl, rfl, rfl, rfl⟩
theorem A8g : TI PR 28 Tryz.t3.desc 1 8 (.int .i64 0) := ⟨Tryz.underlying28, Tryz.t28, by kernel_rfl, rfl, rfl, rfl⟩
theorem B0n : TI PR 296 Tryz.t295.desc 2 16 (.agg #[.nilFunc, (.int .i64 0)]) := ⟨Tryz.underlying296, Tryz.t296, by kernel_rfl, rfl, rfl, rfl⟩
theorem H5 : TI PR 3 Tryz.t3.desc 1 8 (.int .i64 0) := ⟨Tryz.underlying3, Tryz.t3, by kernel_rfl, rfl, rfl, rfl⟩
theorem C92 : TI PR 300 Tryz.t300.desc 1 8 .nilFunc := ⟨Tryz.underlying300, Tryz.t300, by kernel_rfl, rfl, rfl, rfl⟩
theorem C5m : TI PR 302 Tryz.t129.desc 1 8 (.int .u64 0) := ⟨Tryz.underlying302, Tryz.t302, by kernel_rfl, rfl, rfl, rfl⟩
theorem B3p : TI PR 36 Tryz.t35.desc 8 112 (.agg #[(.int .i64 0), (.int .i64 0), (.int .i64 0), (.int .i64 0), (.int .i64 0), (.slice none 0 0), (.slice none 0 0), (.slice none 0 0)]) := ⟨Tryz.underlying36, Tryz.t36, by kernel_rfl, rfl, rfl, rfl⟩
theorem A63 : TI PR 39 Tryz.t38.desc 4 32 (.agg #[(.int .i64 0), (.int .i64 0), (.bool false), (.int .i64 0)]) := ⟨Tryz.underlying39, Tryz.t39, by kernel_rfl, rfl, rfl, rfl⟩
theorem A67 : TI PR 42 Tryz.t41.desc 4 56 (.agg #[(.int .i64 0), (.string (ByteArray.mk #[])), (.slice none 0 0), (.int .i64 0)]) := ⟨Tryz.underlying42, Tryz.t42, by kernel_rfl, rfl, rfl, rfl⟩
theorem B9x : TI PR 48 Tryz.t48.desc 1 24 (.slice none 0 0) := ⟨Tryz.underlying48, Tryz.t48, by kernel_rfl, rfl, rfl, rfl⟩
theorem A4Z : TI PR 56 Tryz.t55.desc 6 64 (.agg #[(.int .i64 0), (.string (ByteArray.mk #[])), (.string (ByteArray.mk #[])), (.int .i64 0), (.int .i64 0), (.int .i64 0)]) := ⟨Tryz.underlying56, Tryz.t56, by kernel_rfl, rfl, rfl, rfl⟩
theorem B4Q : TI PR 58 Tryz.t57.desc 7 72 (.agg #[(.int .i64 0), (.string (ByteArray.mk #[])), (.string (ByteArray.mk #[])), (.int .i64 0), (.int .i64 0), (.int .i64 0), (.int .i64 0)]) := ⟨Tryz.underlying58, Tryz.t58, by kernel_rfl, rfl, rfl, rfl⟩
theorem B0F : TI PR 75 Tryz.t74.desc 2 16 (.agg #[(.int .i64 0), (.int .i64 0)]) := ⟨Tryz.underlying75, Tryz.t75, by kernel_rfl, rfl, rfl, rfl⟩
theorem B0L : TI PR 94 Tryz.t94.desc 1 24 (.slice none 0 0) := ⟨Tryz.underlying94, Tryz.t94, by kernel_rfl, rfl, rfl, rfl⟩
theorem B50 : TI PR 208 Tryz.t208.desc 1 24 (.slice none 0 0) := ⟨Tryz.underlying208, Tryz.t208, by kernel_rfl, rfl, rfl, rfl⟩
theorem A9n : TI PR 32 Tryz.t32.desc 1 24 (.slice none 0 0) := ⟨Tryz.underlying32, Tryz.t32, by kernel_rfl, rfl, rfl, rfl⟩
theorem B6u : TI PR 33 Tryz.t33.desc 1 24 (.slice none 0 0) := ⟨Tryz.underlying33, Tryz.t33, by kernel_rfl, rfl, rfl, rfl⟩
theorem B4S : TI PR 34 Tryz.t34.desc 1 24 (.slice none 0 0) := ⟨Tryz.underlying34, Tryz.t34, by kernel_rfl, rfl, rfl, rfl⟩
theorem p6 : TI PR 9 Tryz.t9.desc 1 16 (.string (ByteArray.mk #[])) := ⟨Tryz.underlying9, Tryz.t9, by kernel_rfl, rfl, rfl, rfl⟩
theorem C32 : TI PR 76 Tryz.t76.desc 1 24 (.slice none 0 0) := ⟨Tryz.underlying76, Tryz.t76, by kernel_rfl, rfl, rfl, rfl⟩
theorem B7W : TI PR 86 Tryz.t86.desc 1 24 (.slice none 0 0) := ⟨Tryz.underlying86, Tryz.t86, by kernel_rfl, rfl, rfl, rfl⟩
theorem C41 : TI PR 93 Tryz.t93.desc 1 8 (.pointer none) := ⟨Tryz.underlying93, Tryz.t93, by kernel_rfl, rfl, rfl, rfl⟩
theorem B1g : TI PR 90 Tryz.t90.desc 1 24 (.slice none 0 0) := ⟨Tryz.underlying90, Tryz.t90, by kernel_rfl, rfl, rfl, rfl⟩
theorem A32 : TI PR 217 Tryz.t210.desc 2 16 (.agg #[(.int .u64 0), (.int .i64 0)]) := ⟨Tryz.underlying217, Tryz.t217, by kernel_rfl, rfl, rfl, rfl⟩
theorem B53 : TI PR 103 Tryz.t102.desc 4 40 (.agg #[(.int .i32 0), (.int .u32 0), (.slice none 0 0), (.int .i64 0)]) := ⟨Tryz.underlying103, Tryz.t103, by kernel_rfl, rfl, rfl, rfl⟩
@[simp] theorem C9a {v0 : Value} (h0 : v0.cells.size = 1) (K : Value → WP) : A0 PR (Instr.build 103 #[(1, v0)]) K = K (.agg (E8 #[(.int .i32 0), (.int .u32 0), (.slice none 0 0), (.int .i64 0)] 2 v0.cells.toList)) := E9 (pl := #[(0, 2), (2, 1), (3, 1)]) B53 (fun w => by kernel_rfl) (by rw [B7 rfl h0 (by simp [B9])]; rfl)
@[simp] theorem C6P {v0 v1 v2 : Value} (h0 : v0.cells.size = 1) (h1 : v1.cells.size = 1) (h2 : v2.cells.size = 1) (K : Value → WP) : A0 PR (Instr.build 106 #[(0, v0), (1, v1), (2, v2)]) K = K (.agg (E8 (E8 (E8 #[(.string (ByteArray.mk #[])), (.int .i64 0), (.bool false), (.int .i64 0)] 0 v0.cells.toList) 1 v1.cells.toList) 2 v2.cells.toList)) := E9 (pl := #[(0, 1), (1, 1), (2, 1), (3, 1)]) A8W (fun w => by kernel_rfl) (by rw [B7 rfl h0 (by simp [B9]), B7 rfl h1 (by simp [B9]), B7 rfl h2 (by simp [B9])]; rfl)
@[simp] theorem C9b {v0 : Value} (h0 : v0.cells.size = 1) (K : Value → WP) : A0 PR (Instr.build 106 #[(3, v0)]) K = K (.agg (E8 #[(.string (ByteArray.mk #[])), (.int .i64 0), (.bool false), (.int .i64 0)] 3 v0.cells.toList)) := E9 (pl := #[(0, 1), (1, 1), (2, 1), (3, 1)]) A8W (fun w => by kernel_rfl) (by rw [B7 rfl h0 (by simp [B9])]; rfl)
@[simp] theorem D0k  (K : Value → WP) : A0 PR (Instr.build 119 #[]) K = K (.agg #[(.int .i64 0), (.int .i64 0), (.int .i64 0)]) := E9 (pl := #[(0, 1), (1, 1), (2, 1)]) A8d (fun w => by kernel_rfl) rfl
@[simp] theorem C8D {v0 v1 : Value} (h0 : v0.cells.size = 1) (h1 : v1.cells.size = 1) (K : Value → WP) : A0 PR (Instr.build 119 #[(0, v0), (1, v1)]) K = K (.agg (E8 (E8 #[(.int .i64 0), (.int .i64 0), (.int .i64 0)] 0 v0.cells.toList) 1 v1.cells.toList)) := E9 (pl := #[(0, 1), (1, 1), (2, 1)]) A8d (fun w => by kernel_rfl) (by rw [B7 rfl h0 (by simp [B9]), B7 rfl h1 (by simp [B9])]; rfl)
@[simp] theorem C6g {v0 v1 v2 : Value} (h0 : v0.cells.size = 1) (h1 : v1.cells.size = 1) (h2 : v2.cells.size = 1) (K : Value → WP) : A0 PR (Instr.build 119 #[(0, v0), (1, v1), (2, v2)]) K = K (.agg (E8 (E8 (E8 #[(.int .i64 0), (.int .i64 0), (.int .i64 0)] 0 v0.cells.toList) 1 v1.cells.toList) 2 v2.cells.toList)) := E9 (pl := #[(0, 1), (1, 1), (2, 1)]) A8d (fun w => by kernel_rfl) (by rw [B7 rfl h0 (by simp [B9]), B7 rfl h1 (by simp [B9]), B7 rfl h2 (by simp [B9])]; rfl)
@[simp] theorem D1A  (K : Value → WP) : A0 PR (Instr.build 122 #[]) K = K (.agg #[(.string (ByteArray.mk #[])), (.string (ByteArray.mk #[])), (.int .i64 0)]) := E9 (pl := #[(0, 1), (1, 1), (2, 1)]) B0k (fun w => by kernel_rfl) rfl
@[simp] theorem C5v {v0 v1 v2 : Value} (h0 : v0.cells.size = 1) (h1 : v1.cells.size = 1) (h2 : v2.cells.size = 1) (K : Value → WP) : A0 PR (Instr.build 122 #[(0, v0), (1, v1), (2, v2)]) K = K (.agg (E8 (E8 (E8 #[(.string (ByteArray.mk #[])), (.string (ByteArray.mk #[])), (.int .i64 0)] 0 v0.cells.toList) 1 v1.cells.toList) 2 v2.cells.toList)) := E9 (pl := #[(0, 1), (1, 1), (2, 1)]) B0k (fun w => by kernel_rfl) (by rw [B7 rfl h0 (by simp [B9]), B7 rfl h1 (by simp [B9]), B7 rfl h2 (by simp [B9])]; rfl)
@[simp] theorem D00  (K : Value → WP) : A0 PR (Instr.build 124 #[]) K = K (.agg #[(.string (ByteArray.mk #[])), (.string (ByteArray.mk #[])), (.int .i64 0)]) := E9 (pl := #[(0, 1), (1, 1), (2, 1)]) B0y (fun w => by kernel_rfl) rfl
@[simp] theorem C62 {v0 v1 v2 : Value} (h0 : v0.cells.size = 1) (h1 : v1.cells.size = 1) (h2 : v2.cells.size = 1) (K : Value → WP) : A0 PR (Instr.build 124 #[(0, v0), (1, v1), (2, v2)]) K = K (.agg (E8 (E8 (E8 #[(.string (ByteArray.mk #[])), (.string (ByteArray.mk #[])), (.int .i64 0)] 0 v0.cells.toList) 1 v1.cells.toList) 2 v2.cells.toList)) := E9 (pl := #[(0, 1), (1, 1), (2, 1)]) B0y (fun w => by kernel_rfl) (by rw [B7 rfl h0 (by simp [B9]), B7 rfl h1 (by simp [B9]), B7 rfl h2 (by simp [B9])]; rfl)
theorem B27 : TI PR 153 Tryz.t153.desc 2 16 (.agg #[(.int .i64 0), (.int .i64 0)]) := ⟨Tryz.underlying153, Tryz.t153, by kernel_rfl, rfl, rfl, rfl⟩
@[simp] theorem C4b {v0 v1 v2 v3 : Value} (h0 : v0.cells.size = 1) (h1 : v1.cells.size = 1) (h2 : v2.cells.size = 1) (h3 : v3.cells.size = 1) (K : Value → WP) : A0 PR (Instr.build 160 #[(0, v0), (1, v1), (2, v2), (3, v3)]) K = K (.agg (E8 (E8 (E8 (E8 #[(.int .i64 0), (.string (ByteArray.mk #[])), (.int .i64 0), (.int .i64 0)] 0 v0.cells.toList) 1 v1.cells.toList) 2 v2.cells.toList) 3 v3.cells.toList)) := E9 (pl := #[(0, 1), (1, 1), (2, 1), (3, 1)]) A2A (fun w => by kernel_rfl) (by rw [B7 rfl h0 (by simp [B9]), B7 rfl h1 (by simp [B9]), B7 rfl h2 (by simp [B9]), B7 rfl h3 (by simp [B9])]; rfl)
@[simp] theorem C84 {v0 : Value} (h0 : v0.cells.size = 1) (K : Value → WP) : A0 PR (Instr.build 160 #[(0, v0)]) K = K (.agg (E8 #[(.int .i64 0), (.string (ByteArray.mk #[])), (.int .i64 0), (.int .i64 0)] 0 v0.cells.toList)) := E9 (pl := #[(0, 1), (1, 1), (2, 1), (3, 1)]) A2A (fun w => by kernel_rfl) (by rw [B7 rfl h0 (by simp [B9])]; rfl)
@[simp] theorem C8G {v0 v1 : Value} (h0 : v0.cells.size = 1) (h1 : v1.cells.size = 1) (K : Value → WP) : A0 PR (Instr.build 211 #[(0, v0), (1, v1)]) K = K (.agg (E8 (E8 #[(.int .u64 0), (.int .i64 0)] 0 v0.cells.toList) 1 v1.cells.toList)) := E9 (pl := #[(0, 1), (1, 1)]) A8V (fun w => by kernel_rfl) (by rw [B7 rfl h0 (by simp [B9]), B7 rfl h1 (by simp [B9])]; rfl)
@[simp] theorem C7x {v0 v1 : Value} (h0 : v0.cells.size = 1) (h1 : v1.cells.size = 1) (K : Value → WP) : A0 PR (Instr.build 217 #[(0, v0), (1, v1)]) K = K (.agg (E8 (E8 #[(.int .u64 0), (.int .i64 0)] 0 v0.cells.toList) 1 v1.cells.toList)) := E9 (pl := #[(0, 1), (1, 1)]) A32 (fun w => by kernel_rfl) (by rw [B7 rfl h0 (by simp [B9]), B7 rfl h1 (by simp [B9])]; rfl)
theorem A3c : TI PR 23 Tryz.t22.desc 5 40 (.agg #[(.int .i64 0), (.int .i64 0), (.int .i64 0), (.int .i64 0), (.int .i64 0)]) := ⟨Tryz.underlying23, Tryz.t23, by kernel_rfl, rfl, rfl, rfl⟩
@[simp] theorem D2s  (K : Value → WP) : A0 PR (Instr.build 23 #[]) K = K (.agg #[(.int .i64 0), (.int .i64 0), (.int .i64 0), (.int .i64 0), (.int .i64 0)]) := E9 (pl := #[(0, 1), (1, 1), (2, 1), (3, 1), (4, 1)]) A3c (fun w => by kernel_rfl) rfl
@[simp] theorem C3H {v0 v1 v2 v3 v4 : Value} (h0 : v0.cells.size = 1) (h1 : v1.cells.size = 1) (h2 : v2.cells.size = 1) (h3 : v3.cells.size = 1) (h4 : v4.cells.size = 1) (K : Value → WP) : A0 PR (Instr.build 23 #[(0, v0), (1, v1), (2, v2), (3, v3), (4, v4)]) K = K (.agg (E8 (E8 (E8 (E8 (E8 #[(.int .i64 0), (.int .i64 0), (.int .i64 0), (.int .i64 0), (.int .i64 0)] 0 v0.cells.toList) 1 v1.cells.toList) 2 v2.cells.toList) 3 v3.cells.toList) 4 v4.cells.toList)) := E9 (pl := #[(0, 1), (1, 1), (2, 1), (3, 1), (4, 1)]) A3c (fun w => by kernel_rfl) (by rw [B7 rfl h0 (by simp [B9]), B7 rfl h1 (by simp [B9]), B7 rfl h2 (by simp [B9]), B7 rfl h3 (by simp [B9]), B7 rfl h4 (by simp [B9])]; rfl)
@[simp] theorem C2N {v0 v1 v2 v3 v4 : Value} (h0 : v0.cells.size = 1) (h1 : v1.cells.size = 1) (h2 : v2.cells.size = 1) (h3 : v3.cells.size = 1) (h4 : v4.cells.size = 1) (K : Value → WP) : A0 PR (Instr.build 233 #[(0, v0), (1, v1), (2, v2), (3, v3), (4, v4)]) K = K (.agg (E8 (E8 (E8 (E8 (E8 #[(.string (ByteArray.mk #[])), (.string (ByteArray.mk #[])), (.string (ByteArray.mk #[])), (.int .i64 0), (.int .i64 0)] 0 v0.cells.toList) 1 v1.cells.toList) 2 v2.cells.toList) 3 v3.cells.toList) 4 v4.cells.toList)) := E9 (pl := #[(0, 1), (1, 1), (2, 1), (3, 1), (4, 1)]) A59 (fun w => by kernel_rfl) (by rw [B7 rfl h0 (by simp [B9]), B7 rfl h1 (by simp [B9]), B7 rfl h2 (by simp [B9]), B7 rfl h3 (by simp [B9]), B7 rfl h4 (by simp [B9])]; rfl)
@[simp] theorem C90 {v0 : Value} (h0 : v0.cells.size = 1) (K : Value → WP) : A0 PR (Instr.build 233 #[(4, v0)]) K = K (.agg (E8 #[(.string (ByteArray.mk #[])), (.string (ByteArray.mk #[])), (.string (ByteArray.mk #[])), (.int .i64 0), (.int .i64 0)] 4 v0.cells.toList)) := E9 (pl := #[(0, 1), (1, 1), (2, 1), (3, 1), (4, 1)]) A59 (fun w => by kernel_rfl) (by rw [B7 rfl h0 (by simp [B9])]; rfl)
@[simp] theorem D1p  (K : Value → WP) : A0 PR (Instr.build 235 #[]) K = K (.agg #[(.int .i64 0), (.int .i64 0), (.int .i64 0)]) := E9 (pl := #[(0, 1), (1, 1), (2, 1)]) B0g (fun w => by kernel_rfl) rfl
@[simp] theorem C7N {v0 v1 : Value} (h0 : v0.cells.size = 1) (h1 : v1.cells.size = 1) (K : Value → WP) : A0 PR (Instr.build 235 #[(0, v0), (1, v1)]) K = K (.agg (E8 (E8 #[(.int .i64 0), (.int .i64 0), (.int .i64 0)] 0 v0.cells.toList) 1 v1.cells.toList)) := E9 (pl := #[(0, 1), (1, 1), (2, 1)]) B0g (fun w => by kernel_rfl) (by rw [B7 rfl h0 (by simp [B9]), B7 rfl h1 (by simp [B9])]; rfl)
theorem C5Z : TI PR 246 Tryz.t81.desc 0 0 (.agg #[]) := ⟨Tryz.underlying246, Tryz.t246, by kernel_rfl, rfl, rfl, rfl⟩
@[simp] theorem D0Y  (K : Value → WP) : A0 PR (Instr.build 246 #[]) K = K (.agg #[]) := E9 (pl := #[]) C5Z (fun w => by kernel_rfl) rfl
theorem C5a : TI PR 247 Tryz.t81.desc 0 0 (.agg #[]) := ⟨Tryz.underlying247, Tryz.t247, by kernel_rfl, rfl, rfl, rfl⟩
@[simp] theorem D0n  (K : Value → WP) : A0 PR (Instr.build 247 #[]) K = K (.agg #[]) := E9 (pl := #[]) C5a (fun w => by kernel_rfl) rfl
@[simp] theorem D0U  (K : Value → WP) : A0 PR (Instr.build 275 #[]) K = K (.agg #[(.string (ByteArray.mk #[])), (.string (ByteArray.mk #[])), (.int .i64 0)]) := E9 (pl := #[(0, 1), (1, 1), (2, 1)]) B0f (fun w => by kernel_rfl) rfl
@[simp] theorem C6l {v0 v1 v2 : Value} (h0 : v0.cells.size = 1) (h1 : v1.cells.size = 1) (h2 : v2.cells.size = 1) (K : Value → WP) : A0 PR (Instr.build 275 #[(0, v0), (1, v1), (2, v2)]) K = K (.agg (E8 (E8 (E8 #[(.string (ByteArray.mk #[])), (.string (ByteArray.mk #[])), (.int .i64 0)] 0 v0.cells.toList) 1 v1.cells.toList) 2 v2.cells.toList)) := E9 (pl := #[(0, 1), (1, 1), (2, 1)]) B0f (fun w => by kernel_rfl) (by rw [B7 rfl h0 (by simp [B9]), B7 rfl h1 (by simp [B9]), B7 rfl h2 (by simp [B9])]; rfl)
@[simp] theorem D09  (K : Value → WP) : A0 PR (Instr.build 278 #[]) K = K (.agg #[(.string (ByteArray.mk #[])), (.string (ByteArray.mk #[])), (.int .i64 0)]) := E9 (pl := #[(0, 1), (1, 1), (2, 1)]) B02 (fun w => by kernel_rfl) rfl
@[simp] theorem C6j {v0 v1 v2 : Value} (h0 : v0.cells.size = 1) (h1 : v1.cells.size = 1) (h2 : v2.cells.size = 1) (K : Value → WP) : A0 PR (Instr.build 278 #[(0, v0), (1, v1), (2, v2)]) K = K (.agg (E8 (E8 (E8 #[(.string (ByteArray.mk #[])), (.string (ByteArray.mk #[])), (.int .i64 0)] 0 v0.cells.toList) 1 v1.cells.toList) 2 v2.cells.toList)) := E9 (pl := #[(0, 1), (1, 1), (2, 1)]) B02 (fun w => by kernel_rfl) (by rw [B7 rfl h0 (by simp [B9]), B7 rfl h1 (by simp [B9]), B7 rfl h2 (by simp [B9])]; rfl)
@[simp] theorem C7b {v0 v1 : Value} (h0 : v0.cells.size = 1) (h1 : v1.cells.size = 1) (K : Value → WP) : A0 PR (Instr.build 296 #[(0, v0), (1, v1)]) K = K (.agg (E8 (E8 #[.nilFunc, (.int .i64 0)] 0 v0.cells.toList) 1 v1.cells.toList)) := E9 (pl := #[(0, 1), (1, 1)]) B0n (fun w => by kernel_rfl) (by rw [B7 rfl h0 (by simp [B9]), B7 rfl h1 (by simp [B9])]; rfl)
@[simp] theorem C8L {v0 v1 : Value} (h0 : v0.cells.size = 5) (h1 : v1.cells.size = 1) (K : Value → WP) : A0 PR (Instr.build 36 #[(0, v0), (3, v1)]) K = K (.agg (E8 (E8 #[(.int .i64 0), (.int .i64 0), (.int .i64 0), (.int .i64 0), (.int .i64 0), (.slice none 0 0), (.slice none 0 0), (.slice none 0 0)] 0 v0.cells.toList) 7 v1.cells.toList)) := E9 (pl := #[(0, 5), (5, 1), (6, 1), (7, 1)]) B3p (fun w => by kernel_rfl) (by rw [B7 rfl h0 (by simp [B9]), B7 rfl h1 (by simp [B9])]; rfl)
@[simp] theorem D2w  (K : Value → WP) : A0 PR (Instr.build 39 #[]) K = K (.agg #[(.int .i64 0), (.int .i64 0), (.bool false), (.int .i64 0)]) := E9 (pl := #[(0, 1), (1, 1), (2, 1), (3, 1)]) A63 (fun w => by kernel_rfl) rfl
@[simp] theorem D1G {v0 : Value} (h0 : v0.cells.size = 1) (K : Value → WP) : A0 PR (Instr.build 39 #[(0, v0)]) K = K (.agg (E8 #[(.int .i64 0), (.int .i64 0), (.bool false), (.int .i64 0)] 0 v0.cells.toList)) := E9 (pl := #[(0, 1), (1, 1), (2, 1), (3, 1)]) A63 (fun w => by kernel_rfl) (by rw [B7 rfl h0 (by simp [B9])]; rfl)
@[simp] theorem C8W {v0 v1 : Value} (h0 : v0.cells.size = 1) (h1 : v1.cells.size = 1) (K : Value → WP) : A0 PR (Instr.build 39 #[(1, v0), (2, v1)]) K = K (.agg (E8 (E8 #[(.int .i64 0), (.int .i64 0), (.bool false), (.int .i64 0)] 1 v0.cells.toList) 2 v1.cells.toList)) := E9 (pl := #[(0, 1), (1, 1), (2, 1), (3, 1)]) A63 (fun w => by kernel_rfl) (by rw [B7 rfl h0 (by simp [B9]), B7 rfl h1 (by simp [B9])]; rfl)
@[simp] theorem D1E {v0 : Value} (h0 : v0.cells.size = 1) (K : Value → WP) : A0 PR (Instr.build 39 #[(1, v0)]) K = K (.agg (E8 #[(.int .i64 0), (.int .i64 0), (.bool false), (.int .i64 0)] 1 v0.cells.toList)) := E9 (pl := #[(0, 1), (1, 1), (2, 1), (3, 1)]) A63 (fun w => by kernel_rfl) (by rw [B7 rfl h0 (by simp [B9])]; rfl)
@[simp] theorem D1x {v0 : Value} (h0 : v0.cells.size = 1) (K : Value → WP) : A0 PR (Instr.build 39 #[(3, v0)]) K = K (.agg (E8 #[(.int .i64 0), (.int .i64 0), (.bool false), (.int .i64 0)] 3 v0.cells.toList)) := E9 (pl := #[(0, 1), (1, 1), (2, 1), (3, 1)]) A63 (fun w => by kernel_rfl) (by rw [B7 rfl h0 (by simp [B9])]; rfl)
@[simp] theorem D1Y {v0 : Value} (h0 : v0.cells.size = 1) (K : Value → WP) : A0 PR (Instr.build 42 #[(0, v0)]) K = K (.agg (E8 #[(.int .i64 0), (.string (ByteArray.mk #[])), (.slice none 0 0), (.int .i64 0)] 0 v0.cells.toList)) := E9 (pl := #[(0, 1), (1, 1), (2, 1), (3, 1)]) A67 (fun w => by kernel_rfl) (by rw [B7 rfl h0 (by simp [B9])]; rfl)
@[simp] theorem D2d  (K : Value → WP) : A0 PR (Instr.build 56 #[]) K = K (.agg #[(.int .i64 0), (.string (ByteArray.mk #[])), (.string (ByteArray.mk #[])), (.int .i64 0), (.int .i64 0), (.int .i64 0)]) := E9 (pl := #[(0, 1), (1, 1), (2, 1), (3, 1), (4, 1), (5, 1)]) A4Z (fun w => by kernel_rfl) rfl
@[simp] theorem C05 {v0 v1 v2 v3 v4 v5 : Value} (h0 : v0.cells.size = 1) (h1 : v1.cells.size = 1) (h2 : v2.cells.size = 1) (h3 : v3.cells.size = 1) (h4 : v4.cells.size = 1) (h5 : v5.cells.size = 1) (K : Value → WP) : A0 PR (Instr.build 56 #[(0, v0), (1, v1), (2, v2), (3, v3), (4, v4), (5, v5)]) K = K (.agg (E8 (E8 (E8 (E8 (E8 (E8 #[(.int .i64 0), (.string (ByteArray.mk #[])), (.string (ByteArray.mk #[])), (.int .i64 0), (.int .i64 0), (.int .i64 0)] 0 v0.cells.toList) 1 v1.cells.toList) 2 v2.cells.toList) 3 v3.cells.toList) 4 v4.cells.toList) 5 v5.cells.toList)) := E9 (pl := #[(0, 1), (1, 1), (2, 1), (3, 1), (4, 1), (5, 1)]) A4Z (fun w => by kernel_rfl) (by rw [B7 rfl h0 (by simp [B9]), B7 rfl h1 (by simp [B9]), B7 rfl h2 (by simp [B9]), B7 rfl h3 (by simp [B9]), B7 rfl h4 (by simp [B9]), B7 rfl h5 (by simp [B9])]; rfl)
@[simp] theorem C5e {v0 v1 v2 v3 : Value} (h0 : v0.cells.size = 1) (h1 : v1.cells.size = 1) (h2 : v2.cells.size = 1) (h3 : v3.cells.size = 1) (K : Value → WP) : A0 PR (Instr.build 56 #[(0, v0), (1, v1), (2, v2), (5, v3)]) K = K (.agg (E8 (E8 (E8 (E8 #[(.int .i64 0), (.string (ByteArray.mk #[])), (.string (ByteArray.mk #[])), (.int .i64 0), (.int .i64 0), (.int .i64 0)] 0 v0.cells.toList) 1 v1.cells.toList) 2 v2.cells.toList) 5 v3.cells.toList)) := E9 (pl := #[(0, 1), (1, 1), (2, 1), (3, 1), (4, 1), (5, 1)]) A4Z (fun w => by kernel_rfl) (by rw [B7 rfl h0 (by simp [B9]), B7 rfl h1 (by simp [B9]), B7 rfl h2 (by simp [B9]), B7 rfl h3 (by simp [B9])]; rfl)
@[simp] theorem D2U  (K : Value → WP) : A0 PR (Instr.build 58 #[]) K = K (.agg #[(.int .i64 0), (.string (ByteArray.mk #[])), (.string (ByteArray.mk #[])), (.int .i64 0), (.int .i64 0), (.int .i64 0), (.int .i64 0)]) := E9 (pl := #[(0, 6), (6, 1)]) B4Q (fun w => by kernel_rfl) rfl
@[simp] theorem C8Q {v0 v1 : Value} (h0 : v0.cells.size = 6) (h1 : v1.cells.size = 1) (K : Value → WP) : A0 PR (Instr.build 58 #[(0, v0), (1, v1)]) K = K (.agg (E8 (E8 #[(.int .i64 0), (.string (ByteArray.mk #[])), (.string (ByteArray.mk #[])), (.int .i64 0), (.int .i64 0), (.int .i64 0), (.int .i64 0)] 0 v0.cells.toList) 6 v1.cells.toList)) := E9 (pl := #[(0, 6), (6, 1)]) B4Q (fun w => by kernel_rfl) (by rw [B7 rfl h0 (by simp [B9]), B7 rfl h1 (by simp [B9])]; rfl)
@[simp] theorem D0x {v0 : Value} (h0 : v0.cells.size = 6) (K : Value → WP) : A0 PR (Instr.build 58 #[(0, v0)]) K = K (.agg (E8 #[(.int .i64 0), (.string (ByteArray.mk #[])), (.string (ByteArray.mk #[])), (.int .i64 0), (.int .i64 0), (.int .i64 0), (.int .i64 0)] 0 v0.cells.toList)) := E9 (pl := #[(0, 6), (6, 1)]) B4Q (fun w => by kernel_rfl) (by rw [B7 rfl h0 (by simp [B9])]; rfl)
@[simp] theorem C8T {v0 v1 : Value} (h0 : v0.cells.size = 1) (h1 : v1.cells.size = 1) (K : Value → WP) : A0 PR (Instr.build 75 #[(0, v0), (1, v1)]) K = K (.agg (E8 (E8 #[(.int .i64 0), (.int .i64 0)] 0 v0.cells.toList) 1 v1.cells.toList)) := E9 (pl := #[(0, 1), (1, 1)]) B0F (fun w => by kernel_rfl) (by rw [B7 rfl h0 (by simp [B9]), B7 rfl h1 (by simp [B9])]; rfl)
theorem C0E : TI PR 88 Tryz.t87.desc 7 72 (.agg #[(.int .i64 0), (.int .i64 0), (.int .i64 0), (.int .i64 0), (.int .i64 0), (.pointer none), (.slice none 0 0)]) := ⟨Tryz.underlying88, Tryz.t88, by kernel_rfl, rfl, rfl, rfl⟩
@[simp] theorem D0W {v0 : Value} (h0 : v0.cells.size = 5) (K : Value → WP) : A0 PR (Instr.build 88 #[(0, v0)]) K = K (.agg (E8 #[(.int .i64 0), (.int .i64 0), (.int .i64 0), (.int .i64 0), (.int .i64 0), (.pointer none), (.slice none 0 0)] 0 v0.cells.toList)) := E9 (pl := #[(0, 5), (5, 1), (6, 1)]) C0E (fun w => by kernel_rfl) (by rw [B7 rfl h0 (by simp [B9])]; rfl)
theorem B9Y : TI PR 92 Tryz.t91.desc 2 48 (.agg #[(.slice none 0 0), (.slice none 0 0)]) := ⟨Tryz.underlying92, Tryz.t92, by kernel_rfl, rfl, rfl, rfl⟩
@[simp] theorem D25  (K : Value → WP) : A0 PR (Instr.build 92 #[]) K = K (.agg #[(.slice none 0 0), (.slice none 0 0)]) := E9 (pl := #[(0, 1), (1, 1)]) B9Y (fun w => by kernel_rfl) rfl
@[simp] theorem C8N {v0 v1 : Value} (h0 : v0.cells.size = 1) (h1 : v1.cells.size = 1) (K : Value → WP) : A0 PR (Instr.build 92 #[(0, v0), (1, v1)]) K = K (.agg (E8 (E8 #[(.slice none 0 0), (.slice none 0 0)] 0 v0.cells.toList) 1 v1.cells.toList)) := E9 (pl := #[(0, 1), (1, 1)]) B9Y (fun w => by kernel_rfl) (by rw [B7 rfl h0 (by simp [B9]), B7 rfl h1 (by simp [B9])]; rfl)
theorem ty5 : TI PR 5 Tryz.t5.desc 1 1 (.int .u8 0) := ⟨Tryz.underlying5, Tryz.t5, by kernel_rfl, rfl, rfl, rfl⟩
theorem B9Z : TI PR 229 Tryz.t229.desc 1 24 (.slice none 0 0) := ⟨Tryz.underlying229, Tryz.t229, by kernel_rfl, rfl, rfl, rfl⟩
theorem C0M : TI PR 320 Tryz.t320.desc 1 24 (.slice none 0 0) := ⟨Tryz.underlying320, Tryz.t320, by kernel_rfl, rfl, rfl, rfl⟩
theorem B1T {K : Value → WP} {w : World} {b o cap : Nat} {ns : List Int} (hr : L9 w b o (ns.map (Value.int .u8))) : A6 PR (convert 127 9 (.slice (some ⟨b, o, none⟩) ns.length cap)) K w = K (.string (T1 ns)) w := C82 A3z ty5 p6 hr
@[simp] theorem D0G {k : IntKind} (a : Int) (K : Value → WP) : A0 PR (convert 129 3 (.int k a)) K = K (.int .i64 (IntKind.i64.wrap a)) := A3P H5 A5x
@[simp] theorem C83 {k : IntKind} (a : Int) (K : Value → WP) : A0 PR (convert 129 5 (.int k a)) K = K (.int .u8 (IntKind.u8.wrap a)) := A3P ty5 A5x
theorem C5l : TI PR 130 Tryz.t130.desc 1 8 (.int .u64 0) := ⟨Tryz.underlying130, Tryz.t130, by kernel_rfl, rfl, rfl, rfl⟩
@[simp] theorem C8u {k : IntKind} (a : Int) (K : Value → WP) : A0 PR (convert 130 3 (.int k a)) K = K (.int .i64 (IntKind.i64.wrap a)) := A3P H5 C5l
@[simp] theorem C9V {k : IntKind} (a : Int) (K : Value → WP) : A0 PR (convert 3 129 (.int k a)) K = K (.int .u64 (IntKind.u64.wrap a)) := A3P A5x H5
@[simp] theorem C9u {k : IntKind} (a : Int) (K : Value → WP) : A0 PR (convert 3 130 (.int k a)) K = K (.int .u64 (IntKind.u64.wrap a)) := A3P C5l H5
@[simp] theorem C9A {k : IntKind} (a : Int) (K : Value → WP) : A0 PR (convert 5 129 (.int k a)) K = K (.int .u64 (IntKind.u64.wrap a)) := A3P A5x ty5
@[simp] theorem D2P {k : IntKind} (a : Int) (K : Value → WP) : A0 PR (convert 5 3 (.int k a)) K = K (.int .i64 (IntKind.i64.wrap a)) := A3P H5 ty5
@[simp] theorem C8b {k : IntKind} (a : Int) (K : Value → WP) : A0 PR (convert 5 302 (.int k a)) K = K (.int .u64 (IntKind.u64.wrap a)) := A3P C5m ty5
theorem B5z : TI PR 185 Tryz.t185.desc 1 8 (.pointer none) := ⟨Tryz.underlying185, Tryz.t185, by kernel_rfl, rfl, rfl, rfl⟩
@[simp] theorem B9y (a : Option Addr) (x y : Operand) (K : Value → WP) (w : World) : A6 PR (N1 .eql 185 x y (.pointer a) (.pointer none)) K w = K (.bool a.isNone) w := B88 B5z
theorem C7G : TI PR 27 Tryz.t27.desc 1 8 (.pointer none) := ⟨Tryz.underlying27, Tryz.t27, by kernel_rfl, rfl, rfl, rfl⟩
@[simp] theorem C22 (a : Option Addr) (x y : Operand) (K : Value → WP) (w : World) : A6 PR (N1 .eql 27 x y (.pointer a) (.pointer none)) K w = K (.bool a.isNone) w := B88 C7G
theorem ty4 : TI PR 4 Tryz.t4.desc 1 1 (.bool false) := ⟨Tryz.underlying4, Tryz.t4, by kernel_rfl, rfl, rfl, rfl⟩
@[simp] theorem C3n (a0 b0 : Int) (a1 b1 : Int) (a2 b2 : Bool) (a3 b3 : Int) (x y : Operand) (K : Value → WP) (w : World) : A6 PR (N1 .eql 39 x y (.agg #[.int .i64 a0, .int .i64 a1, .bool a2, .int .i64 a3]) (.agg #[.int .i64 b0, .int .i64 b1, .bool b2, .int .i64 b3])) K w = K (.bool (decide (a0 = b0) && (decide (a1 = b1) && ((a2 == b2) && (decide (a3 = b3) && true))))) w := D0J (by kernel_rfl) (A8S (e := 9999) A63 (by kernel_rfl) (l5 rfl A8g rfl rfl rfl (A11 (e := 9998) A8g) (l5 rfl H5 rfl rfl rfl (A11 (e := 9998) H5) (l5 rfl ty4 rfl rfl rfl (B2F (e := 9998) ty4) (l5 rfl H5 rfl rfl rfl (A11 (e := 9998) H5) (B3y))))))
@[simp] theorem C2A (a : Option Addr) (x y : Operand) (K : Value → WP) (w : World) : A6 PR (N1 .neq 27 x y (.pointer a) (.pointer none)) K w = K (.bool (!a.isNone)) w := C6s C7G
@[simp] theorem C5F (a0 b0 : Int) (a1 b1 : Int) (a2 b2 : Bool) (a3 b3 : Int) (x y : Operand) (K : Value → WP) (w : World) : A6 PR (N1 .neq 39 x y (.agg #[.int .i64 a0, .int .i64 a1, .bool a2, .int .i64 a3]) (.agg #[.int .i64 b0, .int .i64 b1, .bool b2, .int .i64 b3])) K w = K (.bool !(decide (a0 = b0) && (decide (a1 = b1) && ((a2 == b2) && (decide (a3 = b3) && true))))) w := C5H (by kernel_rfl) (A8S (e := 9999) A63 (by kernel_rfl) (l5 rfl A8g rfl rfl rfl (A11 (e := 9998) A8g) (l5 rfl H5 rfl rfl rfl (A11 (e := 9998) H5) (l5 rfl ty4 rfl rfl rfl (B2F (e := 9998) ty4) (l5 rfl H5 rfl rfl rfl (A11 (e := 9998) H5) (B3y))))))
@[simp] theorem C4Q (a0 b0 : Int) (a1 b1 : Int) (x y : Operand) (K : Value → WP) (w : World) : A6 PR (N1 .neq 75 x y (.agg #[.int .i64 a0, .int .i64 a1]) (.agg #[.int .i64 b0, .int .i64 b1])) K w = K (.bool !(decide (a0 = b0) && (decide (a1 = b1) && true))) w := C5H (by kernel_rfl) (A8S (e := 9999) B0F (by kernel_rfl) (l5 rfl H5 rfl rfl rfl (A11 (e := 9998) H5) (l5 rfl H5 rfl rfl rfl (A11 (e := 9998) H5) (B3y))))
theorem C26 {cs : Array Value} {v : Value} (h : cs[0]? = some v) (K : Value → WP) : A0 PR (Instr.field 39 (.agg cs) 0) K = K v := C4u (i := 0) A63 rfl A8g rfl h
theorem C5K : TI PR 101 Tryz.t100.desc 2 8 (.agg #[(.int .i32 0), (.int .u32 0)]) := ⟨Tryz.underlying101, Tryz.t101, by kernel_rfl, rfl, rfl, rfl⟩
theorem C70 : TI PR 99 Tryz.t98.desc 2 8 (.agg #[(.int .i32 0), (.int .u32 0)]) := ⟨Tryz.underlying99, Tryz.t99, by kernel_rfl, rfl, rfl, rfl⟩
@[simp] theorem C9P (b o : Nat) (K : Value → WP) : A0 PR (Instr.fieldAt 101 (.pointer (some ⟨b, o, none⟩)) 1) K = K (.pointer (some ⟨b, o, none⟩)) := B4 (i := 1) C5K rfl ⟨_, _, _, _, C70⟩ b o
@[simp] theorem C9m (b o : Nat) (K : Value → WP) : A0 PR (Instr.fieldAt 103 (.pointer (some ⟨b, o, none⟩)) 0) K = K (.pointer (some ⟨b, o, none⟩)) := B4 (i := 0) B53 rfl ⟨_, _, _, _, C5K⟩ b o
@[simp] theorem C9D (b o : Nat) (K : Value → WP) : A0 PR (Instr.fieldAt 103 (.pointer (some ⟨b, o, none⟩)) 1) K = K (.pointer (some ⟨b, o + 2, none⟩)) := B4 (i := 1) B53 rfl ⟨_, _, _, _, B0L⟩ b o
@[simp] theorem D0A (b o : Nat) (K : Value → WP) : A0 PR (Instr.fieldAt 103 (.pointer (some ⟨b, o, none⟩)) 2) K = K (.pointer (some ⟨b, o + 3, none⟩)) := B4 (i := 2) B53 rfl ⟨_, _, _, _, H5⟩ b o
@[simp] theorem C9y (b o : Nat) (K : Value → WP) : A0 PR (Instr.fieldAt 106 (.pointer (some ⟨b, o, none⟩)) 0) K = K (.pointer (some ⟨b, o, none⟩)) := B4 (i := 0) A8W rfl ⟨_, _, _, _, p6⟩ b o
@[simp] theorem C9v (b o : Nat) (K : Value → WP) : A0 PR (Instr.fieldAt 106 (.pointer (some ⟨b, o, none⟩)) 1) K = K (.pointer (some ⟨b, o + 1, none⟩)) := B4 (i := 1) A8W rfl ⟨_, _, _, _, H5⟩ b o
@[simp] theorem C9f (b o : Nat) (K : Value → WP) : A0 PR (Instr.fieldAt 106 (.pointer (some ⟨b, o, none⟩)) 2) K = K (.pointer (some ⟨b, o + 2, none⟩)) := B4 (i := 2) A8W rfl ⟨_, _, _, _, ty4⟩ b o
@[simp] theorem C9l (b o : Nat) (K : Value → WP) : A0 PR (Instr.fieldAt 106 (.pointer (some ⟨b, o, none⟩)) 3) K = K (.pointer (some ⟨b, o + 3, none⟩)) := B4 (i := 3) A8W rfl ⟨_, _, _, _, A8g⟩ b o
@[simp] theorem C86 (b o : Nat) (K : Value → WP) : A0 PR (Instr.fieldAt 119 (.pointer (some ⟨b, o, none⟩)) 0) K = K (.pointer (some ⟨b, o, none⟩)) := B4 (i := 0) A8d rfl ⟨_, _, _, _, H5⟩ b o
@[simp] theorem C9r (b o : Nat) (K : Value → WP) : A0 PR (Instr.fieldAt 119 (.pointer (some ⟨b, o, none⟩)) 1) K = K (.pointer (some ⟨b, o + 1, none⟩)) := B4 (i := 1) A8d rfl ⟨_, _, _, _, H5⟩ b o
@[simp] theorem D0B (b o : Nat) (K : Value → WP) : A0 PR (Instr.fieldAt 119 (.pointer (some ⟨b, o, none⟩)) 2) K = K (.pointer (some ⟨b, o + 2, none⟩)) := B4 (i := 2) A8d rfl ⟨_, _, _, _, H5⟩ b o
@[simp] theorem C9z (b o : Nat) (K : Value → WP) : A0 PR (Instr.fieldAt 122 (.pointer (some ⟨b, o, none⟩)) 0) K = K (.pointer (some ⟨b, o, none⟩)) := B4 (i := 0) B0k rfl ⟨_, _, _, _, p6⟩ b o
@[simp] theorem C9Z (b o : Nat) (K : Value → WP) : A0 PR (Instr.fieldAt 122 (.pointer (some ⟨b, o, none⟩)) 1) K = K (.pointer (some ⟨b, o + 1, none⟩)) := B4 (i := 1) B0k rfl ⟨_, _, _, _, p6⟩ b o
@[simp] theorem C8w (b o : Nat) (K : Value → WP) : A0 PR (Instr.fieldAt 122 (.pointer (some ⟨b, o, none⟩)) 2) K = K (.pointer (some ⟨b, o + 2, none⟩)) := B4 (i := 2) B0k rfl ⟨_, _, _, _, H5⟩ b o
@[simp] theorem D0E (b o : Nat) (K : Value → WP) : A0 PR (Instr.fieldAt 124 (.pointer (some ⟨b, o, none⟩)) 0) K = K (.pointer (some ⟨b, o, none⟩)) := B4 (i := 0) B0y rfl ⟨_, _, _, _, p6⟩ b o
@[simp] theorem C9g (b o : Nat) (K : Value → WP) : A0 PR (Instr.fieldAt 124 (.pointer (some ⟨b, o, none⟩)) 1) K = K (.pointer (some ⟨b, o + 1, none⟩)) := B4 (i := 1) B0y rfl ⟨_, _, _, _, p6⟩ b o
@[simp] theorem C9k (b o : Nat) (K : Value → WP) : A0 PR (Instr.fieldAt 124 (.pointer (some ⟨b, o, none⟩)) 2) K = K (.pointer (some ⟨b, o + 2, none⟩)) := B4 (i := 2) B0y rfl ⟨_, _, _, _, H5⟩ b o
@[simp] theorem C9T (b o : Nat) (K : Value → WP) : A0 PR (Instr.fieldAt 160 (.pointer (some ⟨b, o, none⟩)) 0) K = K (.pointer (some ⟨b, o, none⟩)) := B4 (i := 0) A2A rfl ⟨_, _, _, _, H5⟩ b o
@[simp] theorem C8y (b o : Nat) (K : Value → WP) : A0 PR (Instr.fieldAt 160 (.pointer (some ⟨b, o, none⟩)) 1) K = K (.pointer (some ⟨b, o + 1, none⟩)) := B4 (i := 1) A2A rfl ⟨_, _, _, _, p6⟩ b o
@[simp] theorem C9C (b o : Nat) (K : Value → WP) : A0 PR (Instr.fieldAt 160 (.pointer (some ⟨b, o, none⟩)) 2) K = K (.pointer (some ⟨b, o + 2, none⟩)) := B4 (i := 2) A2A rfl ⟨_, _, _, _, H5⟩ b o
@[simp] theorem C8r (b o : Nat) (K : Value → WP) : A0 PR (Instr.fieldAt 160 (.pointer (some ⟨b, o, none⟩)) 3) K = K (.pointer (some ⟨b, o + 3, none⟩)) := B4 (i := 3) A2A rfl ⟨_, _, _, _, H5⟩ b o
@[simp] theorem C9w (b o : Nat) (K : Value → WP) : A0 PR (Instr.fieldAt 187 (.pointer (some ⟨b, o, none⟩)) 0) K = K (.pointer (some ⟨b, o, none⟩)) := B4 (i := 0) B0u rfl ⟨_, _, _, _, B5z⟩ b o
@[simp] theorem C8v (b o : Nat) (K : Value → WP) : A0 PR (Instr.fieldAt 187 (.pointer (some ⟨b, o, none⟩)) 1) K = K (.pointer (some ⟨b, o + 1, none⟩)) := B4 (i := 1) B0u rfl ⟨_, _, _, _, A3z⟩ b o
@[simp] theorem C9p (b o : Nat) (K : Value → WP) : A0 PR (Instr.fieldAt 189 (.pointer (some ⟨b, o, none⟩)) 0) K = K (.pointer (some ⟨b, o, none⟩)) := B4 (i := 0) C5P rfl ⟨_, _, _, _, B0u⟩ b o
@[simp] theorem C87 (b o : Nat) (K : Value → WP) : A0 PR (Instr.fieldAt 211 (.pointer (some ⟨b, o, none⟩)) 0) K = K (.pointer (some ⟨b, o, none⟩)) := B4 (i := 0) A8V rfl ⟨_, _, _, _, A5x⟩ b o
@[simp] theorem C8l (b o : Nat) (K : Value → WP) : A0 PR (Instr.fieldAt 211 (.pointer (some ⟨b, o, none⟩)) 1) K = K (.pointer (some ⟨b, o + 1, none⟩)) := B4 (i := 1) A8V rfl ⟨_, _, _, _, H5⟩ b o
@[simp] theorem C9Y (b o : Nat) (K : Value → WP) : A0 PR (Instr.fieldAt 217 (.pointer (some ⟨b, o, none⟩)) 0) K = K (.pointer (some ⟨b, o, none⟩)) := B4 (i := 0) A32 rfl ⟨_, _, _, _, A5x⟩ b o
@[simp] theorem C9d (b o : Nat) (K : Value → WP) : A0 PR (Instr.fieldAt 217 (.pointer (some ⟨b, o, none⟩)) 1) K = K (.pointer (some ⟨b, o + 1, none⟩)) := B4 (i := 1) A32 rfl ⟨_, _, _, _, H5⟩ b o
@[simp] theorem D1T (b o : Nat) (K : Value → WP) : A0 PR (Instr.fieldAt 23 (.pointer (some ⟨b, o, none⟩)) 0) K = K (.pointer (some ⟨b, o, none⟩)) := B4 (i := 0) A3c rfl ⟨_, _, _, _, H5⟩ b o
@[simp] theorem D1l (b o : Nat) (K : Value → WP) : A0 PR (Instr.fieldAt 23 (.pointer (some ⟨b, o, none⟩)) 1) K = K (.pointer (some ⟨b, o + 1, none⟩)) := B4 (i := 1) A3c rfl ⟨_, _, _, _, H5⟩ b o
@[simp] theorem D04 (b o : Nat) (K : Value → WP) : A0 PR (Instr.fieldAt 23 (.pointer (some ⟨b, o, none⟩)) 2) K = K (.pointer (some ⟨b, o + 2, none⟩)) := B4 (i := 2) A3c rfl ⟨_, _, _, _, H5⟩ b o
@[simp] theorem D1Z (b o : Nat) (K : Value → WP) : A0 PR (Instr.fieldAt 23 (.pointer (some ⟨b, o, none⟩)) 3) K = K (.pointer (some ⟨b, o + 3, none⟩)) := B4 (i := 3) A3c rfl ⟨_, _, _, _, H5⟩ b o
@[simp] theorem D1s (b o : Nat) (K : Value → WP) : A0 PR (Instr.fieldAt 23 (.pointer (some ⟨b, o, none⟩)) 4) K = K (.pointer (some ⟨b, o + 4, none⟩)) := B4 (i := 4) A3c rfl ⟨_, _, _, _, H5⟩ b o
@[simp] theorem C9F (b o : Nat) (K : Value → WP) : A0 PR (Instr.fieldAt 233 (.pointer (some ⟨b, o, none⟩)) 0) K = K (.pointer (some ⟨b, o, none⟩)) := B4 (i := 0) A59 rfl ⟨_, _, _, _, p6⟩ b o
@[simp] theorem C9e (b o : Nat) (K : Value → WP) : A0 PR (Instr.fieldAt 233 (.pointer (some ⟨b, o, none⟩)) 1) K = K (.pointer (some ⟨b, o + 1, none⟩)) := B4 (i := 1) A59 rfl ⟨_, _, _, _, p6⟩ b o
@[simp] theorem C96 (b o : Nat) (K : Value → WP) : A0 PR (Instr.fieldAt 233 (.pointer (some ⟨b, o, none⟩)) 2) K = K (.pointer (some ⟨b, o + 2, none⟩)) := B4 (i := 2) A59 rfl ⟨_, _, _, _, p6⟩ b o
@[simp] theorem C9L (b o : Nat) (K : Value → WP) : A0 PR (Instr.fieldAt 233 (.pointer (some ⟨b, o, none⟩)) 3) K = K (.pointer (some ⟨b, o + 3, none⟩)) := B4 (i := 3) A59 rfl ⟨_, _, _, _, H5⟩ b o
@[simp] theorem C95 (b o : Nat) (K : Value → WP) : A0 PR (Instr.fieldAt 233 (.pointer (some ⟨b, o, none⟩)) 4) K = K (.pointer (some ⟨b, o + 4, none⟩)) := B4 (i := 4) A59 rfl ⟨_, _, _, _, A8g⟩ b o
@[simp] theorem C8j (b o : Nat) (K : Value → WP) : A0 PR (Instr.fieldAt 235 (.pointer (some ⟨b, o, none⟩)) 0) K = K (.pointer (some ⟨b, o, none⟩)) := B4 (i := 0) B0g rfl ⟨_, _, _, _, H5⟩ b o
@[simp] theorem C8q (b o : Nat) (K : Value → WP) : A0 PR (Instr.fieldAt 235 (.pointer (some ⟨b, o, none⟩)) 1) K = K (.pointer (some ⟨b, o + 1, none⟩)) := B4 (i := 1) B0g rfl ⟨_, _, _, _, H5⟩ b o
@[simp] theorem C8n (b o : Nat) (K : Value → WP) : A0 PR (Instr.fieldAt 235 (.pointer (some ⟨b, o, none⟩)) 2) K = K (.pointer (some ⟨b, o + 2, none⟩)) := B4 (i := 2) B0g rfl ⟨_, _, _, _, H5⟩ b o
@[simp] theorem C8a (b o : Nat) (K : Value → WP) : A0 PR (Instr.fieldAt 275 (.pointer (some ⟨b, o, none⟩)) 0) K = K (.pointer (some ⟨b, o, none⟩)) := B4 (i := 0) B0f rfl ⟨_, _, _, _, p6⟩ b o
@[simp] theorem C9c (b o : Nat) (K : Value → WP) : A0 PR (Instr.fieldAt 275 (.pointer (some ⟨b, o, none⟩)) 1) K = K (.pointer (some ⟨b, o + 1, none⟩)) := B4 (i := 1) B0f rfl ⟨_, _, _, _, p6⟩ b o
@[simp] theorem C81 (b o : Nat) (K : Value → WP) : A0 PR (Instr.fieldAt 275 (.pointer (some ⟨b, o, none⟩)) 2) K = K (.pointer (some ⟨b, o + 2, none⟩)) := B4 (i := 2) B0f rfl ⟨_, _, _, _, H5⟩ b o
@[simp] theorem C9x (b o : Nat) (K : Value → WP) : A0 PR (Instr.fieldAt 278 (.pointer (some ⟨b, o, none⟩)) 0) K = K (.pointer (some ⟨b, o, none⟩)) := B4 (i := 0) B02 rfl ⟨_, _, _, _, p6⟩ b o
@[simp] theorem C9n (b o : Nat) (K : Value → WP) : A0 PR (Instr.fieldAt 278 (.pointer (some ⟨b, o, none⟩)) 1) K = K (.pointer (some ⟨b, o + 1, none⟩)) := B4 (i := 1) B02 rfl ⟨_, _, _, _, p6⟩ b o
@[simp] theorem C98 (b o : Nat) (K : Value → WP) : A0 PR (Instr.fieldAt 278 (.pointer (some ⟨b, o, none⟩)) 2) K = K (.pointer (some ⟨b, o + 2, none⟩)) := B4 (i := 2) B02 rfl ⟨_, _, _, _, H5⟩ b o
theorem C7y : TI PR 25 Tryz.t25.desc 1 8 .nilFunc := ⟨Tryz.underlying25, Tryz.t25, by kernel_rfl, rfl, rfl, rfl⟩
@[simp] theorem D0D (b o : Nat) (K : Value → WP) : A0 PR (Instr.fieldAt 296 (.pointer (some ⟨b, o, none⟩)) 0) K = K (.pointer (some ⟨b, o, none⟩)) := B4 (i := 0) B0n rfl ⟨_, _, _, _, C7y⟩ b o
@[simp] theorem C93 (b o : Nat) (K : Value → WP) : A0 PR (Instr.fieldAt 296 (.pointer (some ⟨b, o, none⟩)) 1) K = K (.pointer (some ⟨b, o + 1, none⟩)) := B4 (i := 1) B0n rfl ⟨_, _, _, _, A8g⟩ b o
@[simp] theorem D0p (b o : Nat) (K : Value → WP) : A0 PR (Instr.fieldAt 36 (.pointer (some ⟨b, o, none⟩)) 0) K = K (.pointer (some ⟨b, o, none⟩)) := B4 (i := 0) B3p rfl ⟨_, _, _, _, A3c⟩ b o
@[simp] theorem D0z (b o : Nat) (K : Value → WP) : A0 PR (Instr.fieldAt 36 (.pointer (some ⟨b, o, none⟩)) 1) K = K (.pointer (some ⟨b, o + 5, none⟩)) := B4 (i := 1) B3p rfl ⟨_, _, _, _, A9n⟩ b o
@[simp] theorem D0N (b o : Nat) (K : Value → WP) : A0 PR (Instr.fieldAt 36 (.pointer (some ⟨b, o, none⟩)) 2) K = K (.pointer (some ⟨b, o + 6, none⟩)) := B4 (i := 2) B3p rfl ⟨_, _, _, _, B6u⟩ b o
@[simp] theorem D1v (b o : Nat) (K : Value → WP) : A0 PR (Instr.fieldAt 36 (.pointer (some ⟨b, o, none⟩)) 3) K = K (.pointer (some ⟨b, o + 7, none⟩)) := B4 (i := 3) B3p rfl ⟨_, _, _, _, B4S⟩ b o
@[simp] theorem D1r (b o : Nat) (K : Value → WP) : A0 PR (Instr.fieldAt 39 (.pointer (some ⟨b, o, none⟩)) 3) K = K (.pointer (some ⟨b, o + 3, none⟩)) := B4 (i := 3) A63 rfl ⟨_, _, _, _, H5⟩ b o
@[simp] theorem D1m (b o : Nat) (K : Value → WP) : A0 PR (Instr.fieldAt 42 (.pointer (some ⟨b, o, none⟩)) 0) K = K (.pointer (some ⟨b, o, none⟩)) := B4 (i := 0) A67 rfl ⟨_, _, _, _, H5⟩ b o
@[simp] theorem D0j (b o : Nat) (K : Value → WP) : A0 PR (Instr.fieldAt 42 (.pointer (some ⟨b, o, none⟩)) 1) K = K (.pointer (some ⟨b, o + 1, none⟩)) := B4 (i := 1) A67 rfl ⟨_, _, _, _, p6⟩ b o
@[simp] theorem D1J (b o : Nat) (K : Value → WP) : A0 PR (Instr.fieldAt 42 (.pointer (some ⟨b, o, none⟩)) 2) K = K (.pointer (some ⟨b, o + 2, none⟩)) := B4 (i := 2) A67 rfl ⟨_, _, _, _, A9n⟩ b o
@[simp] theorem D1d (b o : Nat) (K : Value → WP) : A0 PR (Instr.fieldAt 42 (.pointer (some ⟨b, o, none⟩)) 3) K = K (.pointer (some ⟨b, o + 3, none⟩)) := B4 (i := 3) A67 rfl ⟨_, _, _, _, H5⟩ b o
theorem C0k : TI PR 44 Tryz.t43.desc 5 64 (.agg #[(.int .i64 0), (.string (ByteArray.mk #[])), (.slice none 0 0), (.int .i64 0), (.int .i64 0)]) := ⟨Tryz.underlying44, Tryz.t44, by kernel_rfl, rfl, rfl, rfl⟩
@[simp] theorem D0l (b o : Nat) (K : Value → WP) : A0 PR (Instr.fieldAt 44 (.pointer (some ⟨b, o, none⟩)) 0) K = K (.pointer (some ⟨b, o, none⟩)) := B4 (i := 0) C0k rfl ⟨_, _, _, _, A67⟩ b o
@[simp] theorem D05 (b o : Nat) (K : Value → WP) : A0 PR (Instr.fieldAt 44 (.pointer (some ⟨b, o, none⟩)) 1) K = K (.pointer (some ⟨b, o + 4, none⟩)) := B4 (i := 1) C0k rfl ⟨_, _, _, _, H5⟩ b o
@[simp] theorem D0d (b o : Nat) (K : Value → WP) : A0 PR (Instr.fieldAt 56 (.pointer (some ⟨b, o, none⟩)) 0) K = K (.pointer (some ⟨b, o, none⟩)) := B4 (i := 0) A4Z rfl ⟨_, _, _, _, H5⟩ b o
@[simp] theorem D1z (b o : Nat) (K : Value → WP) : A0 PR (Instr.fieldAt 56 (.pointer (some ⟨b, o, none⟩)) 1) K = K (.pointer (some ⟨b, o + 1, none⟩)) := B4 (i := 1) A4Z rfl ⟨_, _, _, _, p6⟩ b o
@[simp] theorem D08 (b o : Nat) (K : Value → WP) : A0 PR (Instr.fieldAt 56 (.pointer (some ⟨b, o, none⟩)) 2) K = K (.pointer (some ⟨b, o + 2, none⟩)) := B4 (i := 2) A4Z rfl ⟨_, _, _, _, p6⟩ b o
@[simp] theorem D1g (b o : Nat) (K : Value → WP) : A0 PR (Instr.fieldAt 56 (.pointer (some ⟨b, o, none⟩)) 3) K = K (.pointer (some ⟨b, o + 3, none⟩)) := B4 (i := 3) A4Z rfl ⟨_, _, _, _, H5⟩ b o
@[simp] theorem D1a (b o : Nat) (K : Value → WP) : A0 PR (Instr.fieldAt 56 (.pointer (some ⟨b, o, none⟩)) 4) K = K (.pointer (some ⟨b, o + 4, none⟩)) := B4 (i := 4) A4Z rfl ⟨_, _, _, _, H5⟩ b o
@[simp] theorem D0a (b o : Nat) (K : Value → WP) : A0 PR (Instr.fieldAt 56 (.pointer (some ⟨b, o, none⟩)) 5) K = K (.pointer (some ⟨b, o + 5, none⟩)) := B4 (i := 5) A4Z rfl ⟨_, _, _, _, H5⟩ b o
@[simp] theorem D0r (b o : Nat) (K : Value → WP) : A0 PR (Instr.fieldAt 58 (.pointer (some ⟨b, o, none⟩)) 0) K = K (.pointer (some ⟨b, o, none⟩)) := B4 (i := 0) B4Q rfl ⟨_, _, _, _, A4Z⟩ b o
@[simp] theorem D1u (b o : Nat) (K : Value → WP) : A0 PR (Instr.fieldAt 58 (.pointer (some ⟨b, o, none⟩)) 1) K = K (.pointer (some ⟨b, o + 6, none⟩)) := B4 (i := 1) B4Q rfl ⟨_, _, _, _, H5⟩ b o
@[simp] theorem D0u (b o : Nat) (K : Value → WP) : A0 PR (Instr.fieldAt 75 (.pointer (some ⟨b, o, none⟩)) 0) K = K (.pointer (some ⟨b, o, none⟩)) := B4 (i := 0) B0F rfl ⟨_, _, _, _, H5⟩ b o
@[simp] theorem D1C (b o : Nat) (K : Value → WP) : A0 PR (Instr.fieldAt 75 (.pointer (some ⟨b, o, none⟩)) 1) K = K (.pointer (some ⟨b, o + 1, none⟩)) := B4 (i := 1) B0F rfl ⟨_, _, _, _, H5⟩ b o
theorem C76 : TI PR 85 Tryz.t84.desc 1 8 (.agg #[(.pointer none)]) := ⟨Tryz.underlying85, Tryz.t85, by kernel_rfl, rfl, rfl, rfl⟩
theorem D13 : TI PR 83 Tryz.t83.desc 1 8 (.pointer none) := ⟨Tryz.underlying83, Tryz.t83, by kernel_rfl, rfl, rfl, rfl⟩
@[simp] theorem D1L (b o : Nat) (K : Value → WP) : A0 PR (Instr.fieldAt 85 (.pointer (some ⟨b, o, none⟩)) 2) K = K (.pointer (some ⟨b, o, none⟩)) := B4 (i := 2) C76 rfl ⟨_, _, _, _, D13⟩ b o
@[simp] theorem D0S (b o : Nat) (K : Value → WP) : A0 PR (Instr.fieldAt 88 (.pointer (some ⟨b, o, none⟩)) 0) K = K (.pointer (some ⟨b, o, none⟩)) := B4 (i := 0) C0E rfl ⟨_, _, _, _, A3c⟩ b o
@[simp] theorem D1B (b o : Nat) (K : Value → WP) : A0 PR (Instr.fieldAt 88 (.pointer (some ⟨b, o, none⟩)) 1) K = K (.pointer (some ⟨b, o + 5, none⟩)) := B4 (i := 1) C0E rfl ⟨_, _, _, _, C76⟩ b o
@[simp] theorem D0P (b o : Nat) (K : Value → WP) : A0 PR (Instr.fieldAt 88 (.pointer (some ⟨b, o, none⟩)) 2) K = K (.pointer (some ⟨b, o + 6, none⟩)) := B4 (i := 2) C0E rfl ⟨_, _, _, _, B7W⟩ b o
@[simp] theorem D1V (b o : Nat) (K : Value → WP) : A0 PR (Instr.fieldAt 92 (.pointer (some ⟨b, o, none⟩)) 0) K = K (.pointer (some ⟨b, o, none⟩)) := B4 (i := 0) B9Y rfl ⟨_, _, _, _, A9n⟩ b o
@[simp] theorem D1S (b o : Nat) (K : Value → WP) : A0 PR (Instr.fieldAt 92 (.pointer (some ⟨b, o, none⟩)) 1) K = K (.pointer (some ⟨b, o + 1, none⟩)) := B4 (i := 1) B9Y rfl ⟨_, _, _, _, B1g⟩ b o
theorem C7l : TI PR 21 Tryz.t21.desc 1 4 (.int .i32 0) := ⟨Tryz.underlying21, Tryz.t21, by kernel_rfl, rfl, rfl, rfl⟩
@[simp] theorem D1e (b o : Nat) (K : Value → WP) : A0 PR (Instr.fieldAt 99 (.pointer (some ⟨b, o, none⟩)) 0) K = K (.pointer (some ⟨b, o, none⟩)) := B4 (i := 0) C70 rfl ⟨_, _, _, _, C7l⟩ b o
theorem Z4 {k1 : IntKind} {i : Int} {s : ByteArray} {b : UInt8} (h0 : 0 ≤ i) (h1 : s[i.toNat]? = some b) (K : Value → WP) : A0 PR (Instr.index 9 (.string s) (.int k1 i)) K = K (.int .u8 b.toNat) := C3r p6 h0 h1
@[simp] theorem D17 {k : IntKind} {i : Int} {len cap : Nat} (h0 : 0 ≤ i) (h1 : i < len) (b o : Nat) (K : Value → WP) : A0 PR (Instr.indexAt 127 (.slice (some ⟨b, o, none⟩) len cap) (.int k i)) K = K (.pointer (some ⟨b, o + i.toNat, none⟩)) := (by simpa using P1 (K := K) A3z ty5 h0 h1 b o)
@[simp] theorem D2K {k : IntKind} {i : Int} (h0 : 0 ≤ i) (h1 : i < (2 : Nat)) (b o : Nat) (K : Value → WP) : A0 PR (Instr.indexAt 153 (.pointer (some ⟨b, o, none⟩)) (.int k i)) K = K (.pointer (some ⟨b, o + i.toNat, none⟩)) := (by simpa using C0e (K := K) B27 H5 h0 h1 b o)
@[simp] theorem D2F {k : IntKind} {i : Int} {len cap : Nat} (h0 : 0 ≤ i) (h1 : i < len) (b o : Nat) (K : Value → WP) : A0 PR (Instr.indexAt 176 (.slice (some ⟨b, o, none⟩) len cap) (.int k i)) K = K (.pointer (some ⟨b, o + i.toNat * 4, none⟩)) := (P1 (K := K) C0m A2A h0 h1 b o)
@[simp] theorem D2B {k : IntKind} {i : Int} {len cap : Nat} (h0 : 0 ≤ i) (h1 : i < len) (b o : Nat) (K : Value → WP) : A0 PR (Instr.indexAt 208 (.slice (some ⟨b, o, none⟩) len cap) (.int k i)) K = K (.pointer (some ⟨b, o + i.toNat * 2, none⟩)) := (P1 (K := K) B50 A8V h0 h1 b o)
@[simp] theorem D2c {k : IntKind} {i : Int} {len cap : Nat} (h0 : 0 ≤ i) (h1 : i < len) (b o : Nat) (K : Value → WP) : A0 PR (Instr.indexAt 229 (.slice (some ⟨b, o, none⟩) len cap) (.int k i)) K = K (.pointer (some ⟨b, o + i.toNat * 2, none⟩)) := (P1 (K := K) B9Z B27 h0 h1 b o)
theorem C8J : TI PR 24 Tryz.t24.desc 1 24 (.slice none 0 0) := ⟨Tryz.underlying24, Tryz.t24, by kernel_rfl, rfl, rfl, rfl⟩
@[simp] theorem D3D {k : IntKind} {i : Int} {len cap : Nat} (h0 : 0 ≤ i) (h1 : i < len) (b o : Nat) (K : Value → WP) : A0 PR (Instr.indexAt 24 (.slice (some ⟨b, o, none⟩) len cap) (.int k i)) K = K (.pointer (some ⟨b, o + i.toNat * 5, none⟩)) := (P1 (K := K) C8J C0k h0 h1 b o)
theorem B98 : TI PR 307 Tryz.t90.desc 1 24 (.slice none 0 0) := ⟨Tryz.underlying307, Tryz.t307, by kernel_rfl, rfl, rfl, rfl⟩
@[simp] theorem D2C {k : IntKind} {i : Int} {len cap : Nat} (h0 : 0 ≤ i) (h1 : i < len) (b o : Nat) (K : Value → WP) : A0 PR (Instr.indexAt 307 (.slice (some ⟨b, o, none⟩) len cap) (.int k i)) K = K (.pointer (some ⟨b, o + i.toNat * 2, none⟩)) := (P1 (K := K) B98 A32 h0 h1 b o)
@[simp] theorem D3F {k : IntKind} {i : Int} {len cap : Nat} (h0 : 0 ≤ i) (h1 : i < len) (b o : Nat) (K : Value → WP) : A0 PR (Instr.indexAt 32 (.slice (some ⟨b, o, none⟩) len cap) (.int k i)) K = K (.pointer (some ⟨b, o + i.toNat * 2, none⟩)) := (P1 (K := K) A9n B0F h0 h1 b o)
@[simp] theorem D2S {k : IntKind} {i : Int} {len cap : Nat} (h0 : 0 ≤ i) (h1 : i < len) (b o : Nat) (K : Value → WP) : A0 PR (Instr.indexAt 320 (.slice (some ⟨b, o, none⟩) len cap) (.int k i)) K = K (.pointer (some ⟨b, o + i.toNat * 2, none⟩)) := (P1 (K := K) C0M B0n h0 h1 b o)
@[simp] theorem D3A {k : IntKind} {i : Int} {len cap : Nat} (h0 : 0 ≤ i) (h1 : i < len) (b o : Nat) (K : Value → WP) : A0 PR (Instr.indexAt 33 (.slice (some ⟨b, o, none⟩) len cap) (.int k i)) K = K (.pointer (some ⟨b, o + i.toNat, none⟩)) := (by simpa using P1 (K := K) B6u B0L h0 h1 b o)
@[simp] theorem D3L {k : IntKind} {i : Int} {len cap : Nat} (h0 : 0 ≤ i) (h1 : i < len) (b o : Nat) (K : Value → WP) : A0 PR (Instr.indexAt 34 (.slice (some ⟨b, o, none⟩) len cap) (.int k i)) K = K (.pointer (some ⟨b, o + i.toNat, none⟩)) := (by simpa using P1 (K := K) B4S H5 h0 h1 b o)
@[simp] theorem D3T {k : IntKind} {i : Int} {len cap : Nat} (h0 : 0 ≤ i) (h1 : i < len) (b o : Nat) (K : Value → WP) : A0 PR (Instr.indexAt 48 (.slice (some ⟨b, o, none⟩) len cap) (.int k i)) K = K (.pointer (some ⟨b, o + i.toNat, none⟩)) := (by simpa using P1 (K := K) B9x p6 h0 h1 b o)
@[simp] theorem D3Q {k : IntKind} {i : Int} {len cap : Nat} (h0 : 0 ≤ i) (h1 : i < len) (b o : Nat) (K : Value → WP) : A0 PR (Instr.indexAt 76 (.slice (some ⟨b, o, none⟩) len cap) (.int k i)) K = K (.pointer (some ⟨b, o + i.toNat * 4, none⟩)) := (P1 (K := K) C32 A67 h0 h1 b o)
@[simp] theorem D3B {k : IntKind} {i : Int} {len cap : Nat} (h0 : 0 ≤ i) (h1 : i < len) (b o : Nat) (K : Value → WP) : A0 PR (Instr.indexAt 86 (.slice (some ⟨b, o, none⟩) len cap) (.int k i)) K = K (.pointer (some ⟨b, o + i.toNat, none⟩)) := (by simpa using P1 (K := K) B7W C41 h0 h1 b o)
@[simp] theorem D27 {k : IntKind} {i : Int} {len cap : Nat} (h0 : 0 ≤ i) (h1 : i < len) (b o : Nat) (K : Value → WP) : A0 PR (Instr.indexAt 90 (.slice (some ⟨b, o, none⟩) len cap) (.int k i)) K = K (.pointer (some ⟨b, o + i.toNat * 2, none⟩)) := (P1 (K := K) B1g A32 h0 h1 b o)
@[simp] theorem C60 {k : IntKind} {i : Int} {len cap : Nat} (h0 : 0 ≤ i) (h1 : i < len) (b o : Nat) (K : Value → WP) : A0 PR (Instr.indexAt 94 (.slice (some ⟨b, o, none⟩) len cap) (.int k i)) K = K (.pointer (some ⟨b, o + i.toNat * 4, none⟩)) := (P1 (K := K) B0L A2A h0 h1 b o)
@[simp] theorem D0v (a : Option Addr) (n c : Nat) (K : Value → WP) : A0 PR (A7 .len #[127] 0 [.slice a n c]) K = K (.int .i64 n) := r8 A3z a n c
@[simp] theorem D1K (a : Option Addr) (n c : Nat) (K : Value → WP) : A0 PR (A7 .len #[176] 0 [.slice a n c]) K = K (.int .i64 n) := r8 C0m a n c
@[simp] theorem D0f (a : Option Addr) (n c : Nat) (K : Value → WP) : A0 PR (A7 .len #[208] 0 [.slice a n c]) K = K (.int .i64 n) := r8 B50 a n c
@[simp] theorem D1c (a : Option Addr) (n c : Nat) (K : Value → WP) : A0 PR (A7 .len #[229] 0 [.slice a n c]) K = K (.int .i64 n) := r8 B9Z a n c
@[simp] theorem D2H (a : Option Addr) (n c : Nat) (K : Value → WP) : A0 PR (A7 .len #[24] 0 [.slice a n c]) K = K (.int .i64 n) := r8 C8J a n c
@[simp] theorem D0q (a : Option Addr) (n c : Nat) (K : Value → WP) : A0 PR (A7 .len #[307] 0 [.slice a n c]) K = K (.int .i64 n) := r8 B98 a n c
@[simp] theorem D2v (a : Option Addr) (n c : Nat) (K : Value → WP) : A0 PR (A7 .len #[32] 0 [.slice a n c]) K = K (.int .i64 n) := r8 A9n a n c
@[simp] theorem D07 (a : Option Addr) (n c : Nat) (K : Value → WP) : A0 PR (A7 .len #[320] 0 [.slice a n c]) K = K (.int .i64 n) := r8 C0M a n c
@[simp] theorem D2f (a : Option Addr) (n c : Nat) (K : Value → WP) : A0 PR (A7 .len #[33] 0 [.slice a n c]) K = K (.int .i64 n) := r8 B6u a n c
@[simp] theorem D2m (a : Option Addr) (n c : Nat) (K : Value → WP) : A0 PR (A7 .len #[34] 0 [.slice a n c]) K = K (.int .i64 n) := r8 B4S a n c
@[simp] theorem D2Q (a : Option Addr) (n c : Nat) (K : Value → WP) : A0 PR (A7 .len #[48] 0 [.slice a n c]) K = K (.int .i64 n) := r8 B9x a n c
@[simp] theorem D19 (a : Option Addr) (n c : Nat) (K : Value → WP) : A0 PR (A7 .len #[76] 0 [.slice a n c]) K = K (.int .i64 n) := r8 C32 a n c
@[simp] theorem D2p (a : Option Addr) (n c : Nat) (K : Value → WP) : A0 PR (A7 .len #[86] 0 [.slice a n c]) K = K (.int .i64 n) := r8 B7W a n c
@[simp] theorem D3J (s : ByteArray) (K : Value → WP) : A0 PR (A7 .len #[9] 0 [.string s]) K = K (.int .i64 s.size) := C78 p6 s
@[simp] theorem D23 (a : Option Addr) (n c : Nat) (K : Value → WP) : A0 PR (A7 .len #[90] 0 [.slice a n c]) K = K (.int .i64 n) := r8 B1g a n c
@[simp] theorem D2l (a : Option Addr) (n c : Nat) (K : Value → WP) : A0 PR (A7 .len #[94] 0 [.slice a n c]) K = K (.int .i64 n) := r8 B0L a n c
@[simp] theorem D18 (a : Addr) (K : Value → WP) (w : World) : A6 PR (Instr.loadAt 129 (.pointer (some a))) K w = rdc (w.cell? a) K (far PR 129 a K) w := B7T A5x rfl a
@[simp] theorem D2A (b o : Nat) (K : Value → WP) (w : World) : A6 PR (Instr.loadAt 160 (.pointer (some ⟨b, o, none⟩))) K w = rdl (j2 w b o 4) K (far PR 160 ⟨b, o, none⟩ K) w := B5x A2A rfl b o
@[simp] theorem D3Z (a : Addr) (K : Value → WP) (w : World) : A6 PR (Instr.loadAt 3 (.pointer (some a))) K w = rdc (w.cell? a) K (far PR 3 a K) w := B7T H5 rfl a
@[simp] theorem D2L (v : Value) (K : Value → WP) : A0 PR (Instr.makeInterface 246 v) K = K (.iface 246 v) := B5G C5Z (by intro ms h; cases h) v
@[simp] theorem D2Z (v : Value) (K : Value → WP) : A0 PR (Instr.makeInterface 247 v) K = K (.iface 247 v) := B5G C5a (by intro ms h; cases h) v
@[simp] theorem C88 (b o : Nat) (K : Value → WP) : A0 PR (Instr.sliceAt 126 (.pointer (some ⟨b, o, none⟩)) none none none) K = K (.slice (some ⟨b, o, none⟩) 38 38) := C2e C0N ty5 b o
@[simp] theorem D3N {k1 : IntKind} {hi : Int} {s : ByteArray} (h0 : 0 ≤ hi) (h1 : hi ≤ s.size) (K : Value → WP) : A0 PR (Instr.sliceAt 9 (.string s) none (some (.int k1 hi)) none) K = K (.string (s.extract 0 hi.toNat)) := C1Z p6 h0 h1
@[simp] theorem D29 {k1 : IntKind} {lo : Int} {s : ByteArray} (h0 : 0 ≤ lo) (h1 : lo ≤ s.size) (K : Value → WP) : A0 PR (Instr.sliceAt 9 (.string s) (some (.int k1 lo)) none none) K = K (.string (s.extract lo.toNat s.size)) := C29 p6 h0 h1
@[simp] theorem D3k {k1 k2 : IntKind} {lo hi : Int} {s : ByteArray} (h0 : 0 ≤ lo) (h1 : lo ≤ hi) (h2 : hi ≤ s.size) (K : Value → WP) : A0 PR (Instr.sliceAt 9 (.string s) (some (.int k1 lo)) (some (.int k2 hi)) none) K = K (.string (s.extract lo.toNat hi.toNat)) := C4f p6 h0 h1 h2
@[simp] theorem D2j {k1 : IntKind} {hi : Int} {len cap : Nat} (a : Option Addr) (h0 : 0 ≤ hi) (h1 : hi ≤ cap) (K : Value → WP) : A0 PR (Instr.sliceAt 90 (.slice a len cap) none (some (.int k1 hi)) none) K = K (slc a 0 hi.toNat cap 2) := C4W B1g A32 a h0 h1
@[simp] theorem D2y {k1 : IntKind} {lo : Int} {len cap : Nat} (a : Option Addr) (h0 : 0 ≤ lo) (h1 : lo ≤ len) (K : Value → WP) : A0 PR (Instr.sliceAt 90 (.slice a len cap) (some (.int k1 lo)) none none) K = K (slc a lo.toNat len cap 2) := C3S B1g A32 a h0 h1
theorem C5S : TI PR 151 Tryz.t151.desc 1 8 (.map none) := ⟨Tryz.underlying151, Tryz.t151, by kernel_rfl, rfl, rfl, rfl⟩
theorem B56 : TI PR 180 Tryz.t179.desc 1 16 .nilIface := ⟨Tryz.underlying180, Tryz.t180, by kernel_rfl, rfl, rfl, rfl⟩
theorem B57 : TI PR 181 Tryz.t181.desc 1 8 (.map none) := ⟨Tryz.underlying181, Tryz.t181, by kernel_rfl, rfl, rfl, rfl⟩
end Go.Proofs.YtpbmephflllolaaGreat
namespace Go.Proofs.YtpbmephflllolaaGreat
open Go
@[simp] theorem C2r (a b : ByteArray) : (a == b) = decide (a = b) := by
 obtain ⟨x⟩ := a; obtain ⟨y⟩ := b
 have h : ((⟨x⟩ : ByteArray) == ⟨y⟩) = (x == y) := rfl
 rw [h]
 by_cases e : x = y
 ·subst e; simp
 ·simp [e]
@[simp] theorem C89 (a : Array UInt8) : (ByteArray.mk a).size = a.size := rfl
theorem A2D (ns : List Int) : (T1 ns).data.toList = ns.map fun n => UInt8.ofNat n.toNat := by
 have : ∀ (l : List Int) (r : ByteArray), (l.foldl (fun r n => r.push (UInt8.ofNat n.toNat)) r).data.toList = r.data.toList ++ l.map fun n => UInt8.ofNat n.toNat := by
  intro l
  induction l with
  | nil => intro r; simp
  | cons x l ih => intro r; rw [List.foldl_cons, ih]; simp [ByteArray.push]
 have h := this ns ByteArray.empty
 rw [show ByteArray.empty.data.toList = [] from rfl, List.nil_append] at h
 exact h
@[simp] theorem A9u (ns : List Int) : (T1 ns).size = ns.length := by
 have := congrArg List.length (A2D ns)
 rw [List.length_map] at this
 exact this
class TS (t : TypeId) (z : outParam Value) : Prop where
 ti : ∃ d m, TI PR t d 1 m z ∧ S5 d = false
class TG (t : TypeId) (n : outParam Nat) (z : outParam Value) : Prop where
 ti : ∃ d m, TI PR t d n m z ∧ S5 d = true
class TA (t : TypeId) (n : outParam Nat) (z : outParam Value) : Prop where
 ti : ∃ d m, TI PR t d n m z
class SL (t : TypeId) (e : outParam TypeId) (k by' : outParam Nat) (z : outParam Value) : Prop where
 ti : (∃ n m z', TI PR t (.slice e) n m z') ∧ (∃ d, TI PR e d k by' z) ∧ z.cells.size = k
instance TS.ta {t : TypeId} {z : Value} [h : TS t z] : TA t 1 z := ⟨let ⟨d, m, h, _⟩ := h.ti; ⟨d, m, h⟩⟩
instance TG.ta {t : TypeId} {n : Nat} {z : Value} [h : TG t n z] : TA t n z := ⟨let ⟨d, m, h, _⟩ := h.ti; ⟨d, m, h⟩⟩
def rdq (x : Option (List Value)) (G : List Value → WP) (F : WP) : WP := match x with | some l => G l | none => F
@[simp] theorem A46 (l : List Value) (G : List Value → WP) (F : WP) : rdq (some l) G F = G l := id rfl
@[congr] theorem D0s {x x' : Option (List Value)} {G : List Value → WP} {F : WP} (h : x = x') {q : Nat} (hq : a8 = q) : rdq x G F = rdq x' G F := by rw [h]
@[simp] theorem D2W (xs : List Value) : T8 xs 0 0 = some [] := by simp [T8]
@[simp] theorem D0M (x : Value) (xs : List Value) (n : Nat) : T8 (x :: xs) 0 (n + 1) = (T8 xs 0 n).map (x :: ·) := by
 simp only [T8, Nat.zero_add, List.length_cons, List.drop_zero, List.take_succ_cons]
 by_cases h : n ≤ xs.length
 ·rw [if_pos h, if_pos (by omega)]; rfl
 ·rw [if_neg h, if_neg (by omega)]; rfl
theorem B4y {α : Type} {l : List α} {f : α → List Value} {k i : Nat} {x : α} (hk : ∀ x, (f x).length = k) (hx : l[i]? = some x) : T8 (l.flatMap f) (i * k) k = some (f x) := by
 obtain ⟨hlt, hx'⟩ := List.getElem?_eq_some_iff.1 hx
 have h1 : (i + 1) * k ≤ l.length * k := Nat.mul_le_mul_right k hlt
 rw [Nat.add_mul] at h1
 rw [T8, if_pos (by rw [U1 hk]; omega), B0N hk, List.drop_eq_getElem_cons hlt, List.flatMap_cons, hx']
 rw [List.take_left' (hk x)]
inductive Sel (r : Res) : List Res → List Res → Prop where
 | here {H : List Res} : Sel r (r :: H) H
 | there {x : Res} {H H' : List Res} : Sel r H H' → Sel r (x :: H) (x :: H')
theorem Sel.perm {r : Res} {H Hr : List Res} (h : Sel r H Hr) : H.Perm (r :: Hr) := by
 induction h with
 | here => exact .refl _
 | there _ ih => exact (ih.cons _).trans (.swap ..)
theorem Sel.sub {r : Res} {H Hr : List Res} (h : Sel r H Hr) : Hr.Sublist H := by
 induction h with
 | here => exact List.sublist_cons_self ..
 | there _ ih => exact ih.cons_cons _
theorem A1 {r : Res} {H : List Res} : r ∈ r :: H := List.mem_cons_self ..
theorem uH {r r' : Res} {H : List Res} : Up r r' (r :: H) (r' :: H) := Up.here
theorem uT {r r' x : Res} {H H' : List Res} (h : Up r r' H H') : Up r r' (x :: H) (x :: H') := Up.there h
theorem A2 {r x : Res} {H : List Res} (h : r ∈ H) : r ∈ x :: H := List.mem_cons_of_mem _ h
inductive Sels : List Res → List Res → Prop where
 | nil {H : List Res} : Sels [] H
 | cons {r : Res} {rs H Hr : List Res} : Sel r H Hr → Sels rs Hr → Sels (r :: rs) H
theorem Sels.sub {rs H : List Res} (h : Sels rs H) : ∃ H', H.Perm H' ∧ rs.Sublist H' := by
 induction h with
 | nil => exact ⟨_, .refl _, List.nil_sublist _⟩
 | cons h1 _ ih => obtain ⟨H', h2, h3⟩ := ih; exact ⟨_ :: H', h1.perm.trans (h2.cons _), h3.cons_cons _⟩
theorem Sels.lw {κ : Bool} {S : List Nat} {w0 w : World} {rs H : List Res} (h : Sels rs H) (hw : LW κ S w0 H w) : LW κ S w0 rs w := let ⟨_, h1, h2⟩ := h.sub; (hw.perm h1).sub h2
theorem Sels.tw {κ : Bool} {S : List Nat} {w0 : World} {rs H : List Res} {K : WP} (h : Sels rs H) (hk : TW κ S w0 rs K) : TW κ S w0 H K := fun w hw => hk w (h.lw hw)
inductive Part : List Res → List Res → List Res → Prop where
 | nil {H : List Res} : Part [] H H
 | cons {r : Res} {rs H H1 Hk : List Res} : Sel r H H1 → Part rs H1 Hk → Part (r :: rs) H Hk
theorem Part.perm {Hc H Hk : List Res} (h : Part Hc H Hk) : H.Perm (Hc ++ Hk) := by
 induction h with
 | nil => exact .refl _
 | cons h1 _ ih => exact h1.perm.trans (ih.cons _)
theorem F2 {κ : Bool} {X : Nat → Prop} {S : List Nat} {w0 : World} {H Hk Hc : List Res} {K : Value → WP} {f : FuncId} {args : List Value} {α : Type} {φ : α → Value → Prop} {Hn : α → List Res} (he : B0 PR f)
  (hf : ∀ w, LW κ S w0 (Hc ++ Hk) w → LW false (C7 Hc) w Hc w → Fn PR B3 f args.toArray w (Rn (C7 Hc) w φ Hn)) (hp : Part Hc H Hk) (hK : ∀ a v, φ a v → TW κ S w0 (Hn a ++ Hk) (K v)) : TW κ S w0 H (B1 PR X f args K) :=
 B3C he hp.perm (fun w hw => let h := hw.perm hp.perm; hf w h (h.sub (List.sublist_append_left _ _)).self) hK
theorem C0 {κ : Bool} {S : List Nat} {w0 : World} {H : List Res} {α : Type} {φ : α → Value → Prop} {Hn : α → List Res} {v : Value} (a : α) (h : φ a v) (hs : Sels (Hn a) H) : TW κ S w0 H (Rn S w0 φ Hn v) := fun w hw => ⟨a, h, hs.lw hw.low⟩
theorem C5f {κ : Bool} {S : List Nat} {w0 : World} {H : List Res} {F : Value → WP} {A : (Value → WP) → WP} {α : Type} (φ : α → Prop) (Hh : α → List Res) (v1 : α → Value) (hF : ∀ x, φ x → TW κ S w0 (Hh x) (F (v1 x)))
  (hA : ∀ J : Value → WP, (∀ x, φ x → TW κ S w0 (Hh x) (J (v1 x))) → TW κ S w0 H (A J)) : TW κ S w0 H (kt (n := 1) F A) := hA F hF
theorem C0b {κ : Bool} {S : List Nat} {w0 : World} {H : List Res} {F : Value → Value → WP} {A : (Value → Value → WP) → WP} {α : Type} (φ : α → Prop) (Hh : α → List Res) (v1 v2 : α → Value) (hF : ∀ x, φ x → TW κ S w0 (Hh x) (F (v1 x) (v2 x)))
  (hA : ∀ J : Value → Value → WP, (∀ x, φ x → TW κ S w0 (Hh x) (J (v1 x) (v2 x))) → TW κ S w0 H (A J)) : TW κ S w0 H (kt (n := 2) F A) := hA F hF
theorem E3.form {w : World} {v : Value} {n : Nat} {xs : List Value} (h : E3 w v n xs) : ∃ a c, v = .slice a n c ∧ (0 < n → ∃ b o, a = some ⟨b, o, none⟩ ∧ L9 w b o xs) := by
 rcases h with ⟨rfl, rfl, a, c, rfl⟩ | ⟨b, o, c, rfl, hr⟩
 ·exact ⟨a, c, rfl, fun h => absurd h (by omega)⟩
 ·exact ⟨_, c, rfl, fun _ => ⟨b, o, rfl, hr⟩⟩
theorem L9.at {w : World} {b o k : Nat} {α : Type} {l : List α} {f : α → List Value} (h : L9 w b o (l.flatMap f)) (hk : ∀ x, (f x).length = k) {i : Nat} {x : α} (hx : l[i]? = some x) : j2 w b (o + i * k) k = some (f x) := by
 have h1 : L9 w b (o + i * k) (f x) := fun j hj => by
  rw [hk] at hj
  have h2 := A4M hk l i j hj
  rw [hx] at h2
  have h3 : (l.flatMap f)[i * k + j]? = some ((f x)[j]'(by rw [hk]; exact hj)) := by rw [h2]; simp [List.getElem?_eq_getElem, hk, hj]
  rw [Nat.add_assoc, h.get h3]; simp [List.getElem?_eq_getElem, hk, hj]
 have := A4E h1
 rwa [hk] at this
theorem L9.cellAt {w : World} {b o k : Nat} {α : Type} {l : List α} {f : α → List Value} (h : L9 w b o (l.flatMap f)) (hk : ∀ x, (f x).length = k) {i j : Nat} {x : α} {u : Value} (hx : l[i]? = some x) (hu : (f x)[j]? = some u) : w.cell? ⟨b, o + i * k + j, none⟩ = some u := by
 have hj : j < k := by rw [← hk x]; exact (List.getElem?_eq_some_iff.1 hu).1
 have h2 := A4M hk l i j hj
 rw [hx] at h2
 rw [Nat.add_assoc]
 exact h.get (by rw [h2]; exact hu)
theorem L9.one {w : World} {b o : Nat} {α : Type} {l : List α} {f : α → Value} (h : L9 w b o (l.map f)) {i : Nat} {x : α} (hx : l[i]? = some x) : w.cell? ⟨b, o + i, none⟩ = some (f x) := h.get (by simp [hx])
section
variable {κ : Bool} {X : Nat → Prop} {S : List Nat} {w0 : World} {H H' Hr : List Res} {K : Value → WP} {K0 : WP} {t e : TypeId} {n k by' : Nat} {z : Value}
theorem C9S {s : Sem Value} {v : Value} (h : ∀ w, LW κ S w0 H w → A6 PR s K w = K v w) : TW κ S w0 H (A6 PR s K) = TW κ S w0 H (K v) := TW.congr h
theorem B2g {s : Sem Value} {v : Value} (hK : TW κ S w0 H (K v)) (h : ∀ w, LW κ S w0 H w → A6 PR s K w = K v w) : TW κ S w0 H (A6 PR s K) := fun w hw => by rw [h w hw]; exact hK w hw
theorem C2B {r : Res} (hs : Sel r H Hr) (h : TW κ S w0 Hr K0) : TW κ S w0 H K0 := h.sub hs.sub
theorem A2E {v : Value} {q : Nat} {xs : List Value} (hm : Res.own e k v q xs ∈ H) (hq : 0 < q) (h : ∀ g c, v = .slice (some ⟨g, 0, none⟩) q c → TW κ S w0 H K0) : TW κ S w0 H K0 := fun w hw => by
 rcases (hw.hold _ hm).2 with ⟨_, rfl⟩ | ⟨g, c, _, rfl, _⟩
 ·omega
 ·exact h g c rfl w hw
@[simp] theorem D3K [h : TS t z] {b o : Nat} {c : Array Value} {T : TypeId} {f : Nat × Nat} (hm : Res.pt b (.cells c T f) ∈ H) :
  TW κ S w0 H (A6 PR (Instr.loadAt t (.pointer (some ⟨b, o, none⟩))) K) = TW κ S w0 H (rdc c[o]? K (far PR t ⟨b, o, none⟩ K)) := let ⟨_, _, h, hd⟩ := h.ti; C53 h hd hm
@[simp] theorem D20 [h : TS t z] {g o : Nat} {k q c : Nat} {xs : List Value} (hm : Res.own e k (.slice (some ⟨g, 0, none⟩) q c) q xs ∈ H) :
  TW κ S w0 H (A6 PR (Instr.loadAt t (.pointer (some ⟨g, o, none⟩))) K) = TW κ S w0 H (rdc xs[o]? K (A6 PR (Instr.loadAt t (.pointer (some ⟨g, o, none⟩))) K)) := by
 cases hv : xs[o]? with
 | none => rfl
 | some v => exact let ⟨_, _, h, hd⟩ := h.ti; C4C h hd hm hv
@[simp] theorem D16 [h : TS t z] {b o : Nat} {v : Value} (hc : w0.cell? ⟨b, o, none⟩ = some v) (hS : b ∉ S) :
  TW κ S w0 H (A6 PR (Instr.loadAt t (.pointer (some ⟨b, o, none⟩))) K) = TW κ S w0 H (K v) := let ⟨_, _, h, hd⟩ := h.ti; C4Z h hd hc hS
@[simp] theorem D2k [h : TG t n z] {b o : Nat} {c : Array Value} {T : TypeId} {f : Nat × Nat} (hm : Res.pt b (.cells c T f) ∈ H) :
  TW κ S w0 H (A6 PR (Instr.loadAt t (.pointer (some ⟨b, o, none⟩))) K) = TW κ S w0 H (rdq (T8 c.toList o n) (fun l => K (.agg l.toArray)) (A6 PR (Instr.loadAt t (.pointer (some ⟨b, o, none⟩))) K)) := by
 cases hl : T8 c.toList o n with
 | none => rfl
 | some l => exact let ⟨_, _, h, hd⟩ := h.ti; C3k h hd hm hl
@[simp] theorem D1W [h : TG t n z] {g o : Nat} {k q c : Nat} {xs : List Value} (hm : Res.own e k (.slice (some ⟨g, 0, none⟩) q c) q xs ∈ H) :
  TW κ S w0 H (A6 PR (Instr.loadAt t (.pointer (some ⟨g, o, none⟩))) K) = TW κ S w0 H (rdq (T8 xs o n) (fun l => K (.agg l.toArray)) (A6 PR (Instr.loadAt t (.pointer (some ⟨g, o, none⟩))) K)) := by
 cases hl : T8 xs o n with
 | none => rfl
 | some l => exact let ⟨_, _, h, hd⟩ := h.ti; C1a h hd hm hl
@[simp] theorem D1D [h : TG t n z] {b o : Nat} {l : List Value} (hc : j2 w0 b o n = some l) (hS : b ∉ S) :
  TW κ S w0 H (A6 PR (Instr.loadAt t (.pointer (some ⟨b, o, none⟩))) K) = TW κ S w0 H (K (.agg l.toArray)) := let ⟨_, _, h, hd⟩ := h.ti; C2f h hd hc hS
@[simp] theorem C75 [h : TS t z] {b o : Nat} {c : Array Value} {T : TypeId} {f : Nat × Nat} (hm : Res.pt b (.cells c T f) ∈ H) {v : Value} (hv : c[o]? = some v) :
  TW κ S w0 H (A6 PR (D5 [.c t (.pointer (some ⟨b, o, none⟩))]) K) = TW κ S w0 H (K v) := let ⟨_, _, h, hd⟩ := h.ti; C7D h hd hm hv
@[simp] theorem D3Y [h : TG t n z] {b o : Nat} {c : Array Value} {T : TypeId} {f : Nat × Nat} (hm : Res.pt b (.cells c T f) ∈ H) :
  TW κ S w0 H (A6 PR (D5 [.c t (.pointer (some ⟨b, o, none⟩))]) K) = TW κ S w0 H (rdq (T8 c.toList o n) (fun l => K (.agg l.toArray)) (A6 PR (D5 [.c t (.pointer (some ⟨b, o, none⟩))]) K)) := by
 cases hl : T8 c.toList o n with
 | none => rfl
 | some l => exact let ⟨_, _, h, hd⟩ := h.ti; C7W h hd hm hl
@[simp] theorem D3E [h : TG t n z] {b o : Nat} {c : Array Value} {T : TypeId} {f : Nat × Nat} {x : Value} (hm : Res.pt b (.cells c T f) ∈ H) :
  TW κ S w0 H (A6 PR (D5 [.c t (.pointer (some ⟨b, o, none⟩)), .v x]) K) = TW κ S w0 H (rdq (T8 c.toList o n) (fun l => K (.tuple #[.agg l.toArray, x])) (A6 PR (D5 [.c t (.pointer (some ⟨b, o, none⟩)), .v x]) K)) := by
 cases hl : T8 c.toList o n with
 | none => rfl
 | some l =>
   obtain ⟨_, _, h, hd⟩ := h.ti
   refine TW.congr fun w hw => ?_
   rw [A46]
   have hr := A0N hl (L9.bl (hw.pt hm)); have h2 := l8 hr
   refine T3 ?_ K
   have := p9 h hd h2.1 h2.2
   simp only [Instr.loadAt, Instr.sureAddr, Sem.run_bind, Sem.run_pure, Result.andThen_ok] at this
   simp [D5, A2v, RV.sem, asAddr, this, one]
@[simp] theorem D3P [h : TG t n z] {b o : Nat} {c : Array Value} {T : TypeId} {f : Nat × Nat} {x y : Value} (hm : Res.pt b (.cells c T f) ∈ H) :
  TW κ S w0 H (A6 PR (D5 [.c t (.pointer (some ⟨b, o, none⟩)), .v x, .v y]) K) = TW κ S w0 H (rdq (T8 c.toList o n) (fun l => K (.tuple #[.agg l.toArray, x, y])) (A6 PR (D5 [.c t (.pointer (some ⟨b, o, none⟩)), .v x, .v y]) K)) := by
 cases hl : T8 c.toList o n with
 | none => rfl
 | some l =>
   obtain ⟨_, _, h, hd⟩ := h.ti
   refine TW.congr fun w hw => ?_
   rw [A46]
   have hr := A0N hl (L9.bl (hw.pt hm)); have h2 := l8 hr
   refine T3 ?_ K
   have := p9 h hd h2.1 h2.2
   simp only [Instr.loadAt, Instr.sureAddr, Sem.run_bind, Sem.run_pure, Result.andThen_ok] at this
   simp [D5, A2v, RV.sem, asAddr, this, one]
@[simp] theorem D0F [h : TS t z] {b o : Nat} {c : Array Value} {T : TypeId} {f : Nat × Nat} {v : Value} {l : List Rd} (hm : Res.pt b (.cells c T f) ∈ H) (hv : c[o]? = some v) :
  TW κ S w0 H (watch PR ((none, Instr.loadAt t (.pointer (some ⟨b, o, none⟩)), v) :: l) K0) = TW κ S w0 H (watch PR l K0) := let ⟨_, _, h, hd⟩ := h.ti; B0w fun w hw => A1n h hd (by rw [L6 (hw.pt hm)]; exact hv)
@[simp] theorem C8S [h : TS t z] {b o : Nat} {v : Value} {l : List Rd} (hc : w0.cell? ⟨b, o, none⟩ = some v) (hS : b ∉ S) :
  TW κ S w0 H (watch PR ((none, Instr.loadAt t (.pointer (some ⟨b, o, none⟩)), v) :: l) K0) = TW κ S w0 H (watch PR l K0) := let ⟨_, _, h, hd⟩ := h.ti; B0w fun w hw => A1n h hd (hw.ks.cell hS hc)
@[simp] theorem D37 [h : TA t n z] {v : Value} {b o : Nat} {c : Array Value} {T : TypeId} (hv : v.cells.size = n)
  (hu : Up (.pt b (.cells c T (0, 0))) (.pt b (.cells (E8 c o v.cells.toList) T (0, 0))) H H') (hs : o + n ≤ c.size) (hp : v.cells.toList.all plain = true) :
  TW κ S w0 H (B6 PR X (Instr.storeAt t (.pointer (some ⟨b, o, none⟩)) v) K0) = TW κ S w0 H' K0 := let ⟨_, _, h⟩ := h.ti; D2D h hv hu hs hp
theorem A4l [h : TA t n z] {v : Value} {g o q c : Nat} {xs : List Value} (hu : Up (.own e k (.slice (some ⟨g, 0, none⟩) q c) q xs) (.own e k (.slice (some ⟨g, 0, none⟩) q c) q (A5B xs o v.cells.toList)) H H')
  (hv : v.cells.size = n) (hs : o + n ≤ xs.length) (hp : v.cells.toList.all plain = true) (hK : TW κ S w0 H' K0) :
  TW κ S w0 H (B6 PR X (Instr.storeAt t (.pointer (some ⟨g, o, none⟩)) v) K0) := let ⟨_, _, h⟩ := h.ti; C4N h hv hu hs hp hK
theorem A5 [h : TA t n z] (hK : ∀ b, TW κ S w0 (.pt b (.cells z.cells t) :: H) (K (.pointer (some ⟨b, 0, none⟩)))) : TW κ S w0 H (B2 PR X (Instr.alloc t true (.tuple #[])) K) := let ⟨_, _, h⟩ := h.ti; D2z h hK
theorem B7m {k1 k2 : IntKind} {l : Int} [h : SL t e k by' z] (h0 : 0 ≤ l) (hb : l * by' ≤ 140737488355328) (hc : l ≤ 9223372036854775807) (hk : 0 < k)
  (hK : ∀ b, TW κ S w0 (.own e k (.slice (some ⟨b, 0, none⟩) l.toNat l.toNat) l.toNat (Builtin.zeroCells z.cells l.toNat).toList :: H) (K (.slice (some ⟨b, 0, none⟩) l.toNat l.toNat))) :
  TW κ S w0 H (B2 PR X (Instr.makeSlice t (.int k1 l) (.int k2 l)) K) := let ⟨⟨_, _, _, h1⟩, ⟨_, h2⟩, h3⟩ := h.ti; D24 h1 h2 h3 hk h0 rfl hb hc hK
theorem D1 [h : SL t e k by' z] (hK : ∀ b, TW κ S w0 (.own e k (.slice (some ⟨b, 0, none⟩) 0 0) 0 [] :: H) (K (.slice (some ⟨b, 0, none⟩) 0 0))) : TW κ S w0 H (B2 PR X (Instr.buildSlice t 0 #[]) K) :=
 let ⟨⟨_, _, _, h1⟩, ⟨_, h2⟩, h3⟩ := h.ti; C8k h1 h2 hK
theorem C3K {m n q : Nat} (hq : 0 < n) : ∀ (vs : List Value) (i : Nat) (cs : Array Value), (∀ v ∈ vs, v.cells.size = n) → (i + vs.length) * n ≤ cs.size →
  Instr.fill (fun i => some (i * n, n)) cs ((List.range' i vs.length).zip vs) = some (E8 cs (i * n) (vs.flatMap fun v => v.cells.toList)) := by
 intro vs
 induction vs with
 | nil => intro i cs _ _; simp [Instr.fill]
 | cons v vs ih =>
  intro i cs hv hs
  simp only [List.length_cons] at hs
  have hv0 : v.cells.size = n := hv v (by simp)
  have e1 : (i + (vs.length + 1)) * n = i * n + n + vs.length * n := by rw [Nat.add_mul, Nat.add_mul]; omega
  simp only [List.length_cons, List.range'_succ, List.zip_cons_cons]
  rw [B7 rfl hv0 (by omega), ih (i + 1) _ (fun u hu => hv u (by simp [hu])) (by rw [B9]; (have : (i + 1 + vs.length) * n = i * n + n + vs.length * n := by (rw [Nat.add_mul, Nat.add_mul]; omega)); omega)]
  have spl_spl : ∀ (l l' : List Value) (c : Array Value) (o : Nat), E8 (E8 c o l) (o + l.length) l' = E8 c o (l ++ l') := by
   intro l
   induction l with
   | nil => intro l' c o; simp
   | cons u l ih => intro l' c o; simp only [B7E, List.cons_append, List.length_cons]; rw [← ih]; congr 1; omega
  rw [List.flatMap_cons, ← spl_spl]
  congr 2
  have : v.cells.toList.length = n := by simp [hv0]
  rw [this, Nat.add_mul]; omega
theorem B6D {len : Nat} {parts : Array (Nat × Value)} (vs : List Value) [h : SL t e k by' z] (hk : 0 < k) (h0 : 0 < len) (hb : len * k ≤ 2 ^ 24) (hp : parts.toList = (List.range' 0 len).zip vs) (hl : vs.length = len) (hv : ∀ v ∈ vs, v.cells.size = k)
  (hK : ∀ b, TW κ S w0 (.own e k (.slice (some ⟨b, 0, none⟩) len len) len (vs.flatMap fun v => v.cells.toList) :: H) (K (.slice (some ⟨b, 0, none⟩) len len))) :
  TW κ S w0 H (B2 PR X (Instr.buildSlice t len parts) K) := by
 obtain ⟨⟨_, _, _, h1⟩, ⟨_, h2⟩, h3⟩ := h.ti
 have hlen : (vs.flatMap fun v => v.cells.toList).length = len * k := by
  rw [← hl]; clear hp hl hK hb h0
  induction vs with
  | nil => simp
  | cons v vs ih =>
   have := hv v (by simp)
   rw [List.flatMap_cons, List.length_append, ih fun u hu => hv u (by simp [hu])]
   simp only [Array.length_toList, List.length_cons, this]; rw [Nat.add_mul]; omega
 have hf := C3K (m := 0) (q := 0) hk vs 0 ((Array.range (len * k)).map (z.cells[· % z.cells.size]!)) hv (by simp [hl])
 rw [hl, ← hp] at hf
 have hz : E8 ((Array.range (len * k)).map (z.cells[· % z.cells.size]!)) (0 * k) (vs.flatMap fun v => v.cells.toList) = (vs.flatMap fun v => v.cells.toList).toArray := by
  apply Array.toList_inj.1
  rw [A2F _ _ _ (by simp [-List.length_flatMap, hlen])]
  simp only [Nat.zero_mul, List.take_zero, List.nil_append, hlen, Nat.zero_add]
  rw [List.drop_eq_nil_of_le (by simp)]; simp
 refine D15 h1 h2 hb (by have : 0 < len * k := Nat.mul_pos h0 hk; omega) (hf.trans (by rw [hz])) (by simp [-List.length_flatMap, hlen]) ?_
 simpa using hK
theorem D0 {v0 : Value} [h : SL t e k by' z] (hk : 0 < k := by decide) (hb : 1 * k ≤ 2 ^ 24 := by decide) (h0 : v0.cells.size = k := by simp) (hK : ∀ b, TW κ S w0 (.own e k (.slice (some ⟨b, 0, none⟩) 1 1) 1 (v0.cells.toList) :: H) (K (.slice (some ⟨b, 0, none⟩) 1 1))) :
  TW κ S w0 H (B2 PR X (Instr.buildSlice t 1 #[(0, v0)]) K) := B6D [v0] hk (by omega) hb rfl rfl (by intro v hv; simp only [List.mem_cons, List.not_mem_nil, or_false] at hv; subst hv; assumption) (by simpa using hK)
theorem D3 {v0 v1 : Value} [h : SL t e k by' z] (hk : 0 < k := by decide) (hb : 2 * k ≤ 2 ^ 24 := by decide) (h0 : v0.cells.size = k := by simp) (h1 : v1.cells.size = k := by simp) (hK : ∀ b, TW κ S w0 (.own e k (.slice (some ⟨b, 0, none⟩) 2 2) 2 (v0.cells.toList ++ v1.cells.toList) :: H) (K (.slice (some ⟨b, 0, none⟩) 2 2))) :
  TW κ S w0 H (B2 PR X (Instr.buildSlice t 2 #[(0, v0), (1, v1)]) K) := B6D [v0, v1] hk (by omega) hb rfl rfl (by intro v hv; simp only [List.mem_cons, List.not_mem_nil, or_false] at hv; rcases hv with rfl | rfl <;> assumption) (by simpa using hK)
theorem D2 {v0 v1 v2 : Value} [h : SL t e k by' z] (hk : 0 < k := by decide) (hb : 3 * k ≤ 2 ^ 24 := by decide) (h0 : v0.cells.size = k := by simp) (h1 : v1.cells.size = k := by simp) (h2 : v2.cells.size = k := by simp) (hK : ∀ b, TW κ S w0 (.own e k (.slice (some ⟨b, 0, none⟩) 3 3) 3 (v0.cells.toList ++ v1.cells.toList ++ v2.cells.toList) :: H) (K (.slice (some ⟨b, 0, none⟩) 3 3))) :
  TW κ S w0 H (B2 PR X (Instr.buildSlice t 3 #[(0, v0), (1, v1), (2, v2)]) K) := B6D [v0, v1, v2] hk (by omega) hb rfl rfl (by intro v hv; simp only [List.mem_cons, List.not_mem_nil, or_false] at hv; rcases hv with rfl | rfl | rfl <;> assumption) (by simpa using hK)
theorem D4 {v0 v1 v2 v3 v4 : Value} [h : SL t e k by' z] (hk : 0 < k := by decide) (hb : 5 * k ≤ 2 ^ 24 := by decide) (h0 : v0.cells.size = k := by simp) (h1 : v1.cells.size = k := by simp) (h2 : v2.cells.size = k := by simp) (h3 : v3.cells.size = k := by simp) (h4 : v4.cells.size = k := by simp) (hK : ∀ b, TW κ S w0 (.own e k (.slice (some ⟨b, 0, none⟩) 5 5) 5 (v0.cells.toList ++ v1.cells.toList ++ v2.cells.toList ++ v3.cells.toList ++ v4.cells.toList) :: H) (K (.slice (some ⟨b, 0, none⟩) 5 5))) :
  TW κ S w0 H (B2 PR X (Instr.buildSlice t 5 #[(0, v0), (1, v1), (2, v2), (3, v3), (4, v4)]) K) := B6D [v0, v1, v2, v3, v4] hk (by omega) hb rfl rfl (by intro v hv; simp only [List.mem_cons, List.not_mem_nil, or_false] at hv; rcases hv with rfl | rfl | rfl | rfl | rfl <;> assumption) (by simpa using hK)
theorem C9 {v0 v1 v2 v3 v4 v5 : Value} [h : SL t e k by' z] (hk : 0 < k := by decide) (hb : 6 * k ≤ 2 ^ 24 := by decide) (h0 : v0.cells.size = k := by simp) (h1 : v1.cells.size = k := by simp) (h2 : v2.cells.size = k := by simp) (h3 : v3.cells.size = k := by simp) (h4 : v4.cells.size = k := by simp) (h5 : v5.cells.size = k := by simp) (hK : ∀ b, TW κ S w0 (.own e k (.slice (some ⟨b, 0, none⟩) 6 6) 6 (v0.cells.toList ++ v1.cells.toList ++ v2.cells.toList ++ v3.cells.toList ++ v4.cells.toList ++ v5.cells.toList) :: H) (K (.slice (some ⟨b, 0, none⟩) 6 6))) :
  TW κ S w0 H (B2 PR X (Instr.buildSlice t 6 #[(0, v0), (1, v1), (2, v2), (3, v3), (4, v4), (5, v5)]) K) := B6D [v0, v1, v2, v3, v4, v5] hk (by omega) hb rfl rfl (by intro v hv; simp only [List.mem_cons, List.not_mem_nil, or_false] at hv; rcases hv with rfl | rfl | rfl | rfl | rfl | rfl <;> assumption) (by simpa using hK)
theorem P2.form {w : World} {e : TypeId} {k n : Nat} {v : Value} {xs : List Value} (h : P2 w e k v n xs) : ∃ a c, v = .slice a n c := by
 rcases h.2 with ⟨rfl, rfl⟩ | ⟨g, cap, cur, rfl, _⟩
 ·exact ⟨_, _, rfl⟩
 ·exact ⟨_, _, rfl⟩
theorem C1N {q : Nat} {xs : List Value} {A : Value → WP} (h : ∀ a c, TW κ S w0 (.own e k (.slice a q c) q xs :: H) (A (.slice a q c))) (v : Value) : TW κ S w0 (.own e k v q xs :: H) (A v) := fun w hw => by
 obtain ⟨a, c, rfl⟩ := P2.form (hw.hold _ A1)
 exact h a c w hw
theorem Y5 {ty : TypeId} {v x : Value} {q r : Nat} {xs news : List Value} [h : SL t e k by' z] (hs : Sel (.own e k v q xs) H Hr) (hx : K3 κ S w0 H x r news) (hk : 0 < k) (hl : news.length = r * k) (hp : news.all plain = true)
  (h63 : q + r ≤ maxLen) (hby : (q + r) * by' ≤ 140737488355328) (hK : ∀ a c, TW κ S w0 (.own e k (.slice a (q + r) c) (q + r) (xs ++ news) :: Hr) (K (.slice a (q + r) c))) : TW κ S w0 H (B2 PR X (A7 .append #[t, t] ty [v, x]) K) := by
 obtain ⟨⟨_, _, _, h1⟩, ⟨_, h2⟩, h3⟩ := h.ti
 refine TW.perm ?_ hs.perm
 exact C8e (H'' := fun v' => .own e k v' (q + r) (xs ++ news) :: Hr) h1 h2 h3 hk (fun v' => .here) (fun w hw => hx w (hw.perm hs.perm.symm)) hl hp h63 hby (C1N hK)
end
end Go.Proofs.YtpbmephflllolaaGreat
namespace Go.Proofs.YtpbmephflllolaaGreat
open Go
instance : TS 3 (.int .i64 0) := ⟨_, _, H5, rfl⟩
instance : TS 4 (.bool false) := ⟨_, _, ty4, rfl⟩
instance : TS 5 (.int .u8 0) := ⟨_, _, ty5, rfl⟩
instance : TS 9 (.string (ByteArray.mk #[])) := ⟨_, _, p6, rfl⟩
instance : TS 21 (.int .i32 0) := ⟨_, _, C7l, rfl⟩
instance : TG 23 5 (.agg #[(.int .i64 0), (.int .i64 0), (.int .i64 0), (.int .i64 0), (.int .i64 0)]) := ⟨_, _, A3c, rfl⟩
instance : TS 25 .nilFunc := ⟨_, _, C7y, rfl⟩
instance : TS 28 (.int .i64 0) := ⟨_, _, A8g, rfl⟩
instance : TS 32 (.slice none 0 0) := ⟨_, _, A9n, rfl⟩
instance : SL 32 75 2 16 (.agg #[(.int .i64 0), (.int .i64 0)]) := ⟨⟨_, _, _, A9n⟩, ⟨_, B0F⟩, rfl⟩
instance : TS 33 (.slice none 0 0) := ⟨_, _, B6u, rfl⟩
instance : SL 33 94 1 24 (.slice none 0 0) := ⟨⟨_, _, _, B6u⟩, ⟨_, B0L⟩, rfl⟩
instance : TS 34 (.slice none 0 0) := ⟨_, _, B4S, rfl⟩
instance : SL 34 3 1 8 (.int .i64 0) := ⟨⟨_, _, _, B4S⟩, ⟨_, H5⟩, rfl⟩
instance : TG 36 8 (.agg #[(.int .i64 0), (.int .i64 0), (.int .i64 0), (.int .i64 0), (.int .i64 0), (.slice none 0 0), (.slice none 0 0), (.slice none 0 0)]) := ⟨_, _, B3p, rfl⟩
instance : TG 39 4 (.agg #[(.int .i64 0), (.int .i64 0), (.bool false), (.int .i64 0)]) := ⟨_, _, A63, rfl⟩
instance : TG 42 4 (.agg #[(.int .i64 0), (.string (ByteArray.mk #[])), (.slice none 0 0), (.int .i64 0)]) := ⟨_, _, A67, rfl⟩
instance : TS 48 (.slice none 0 0) := ⟨_, _, B9x, rfl⟩
instance : SL 48 9 1 16 (.string (ByteArray.mk #[])) := ⟨⟨_, _, _, B9x⟩, ⟨_, p6⟩, rfl⟩
instance : TG 56 6 (.agg #[(.int .i64 0), (.string (ByteArray.mk #[])), (.string (ByteArray.mk #[])), (.int .i64 0), (.int .i64 0), (.int .i64 0)]) := ⟨_, _, A4Z, rfl⟩
instance : TG 58 7 (.agg #[(.int .i64 0), (.string (ByteArray.mk #[])), (.string (ByteArray.mk #[])), (.int .i64 0), (.int .i64 0), (.int .i64 0), (.int .i64 0)]) := ⟨_, _, B4Q, rfl⟩
instance : TG 75 2 (.agg #[(.int .i64 0), (.int .i64 0)]) := ⟨_, _, B0F, rfl⟩
instance : SL 76 42 4 56 (.agg #[(.int .i64 0), (.string (ByteArray.mk #[])), (.slice none 0 0), (.int .i64 0)]) := ⟨⟨_, _, _, C32⟩, ⟨_, A67⟩, rfl⟩
instance : TS 86 (.slice none 0 0) := ⟨_, _, B7W, rfl⟩
instance : SL 86 93 1 8 (.pointer none) := ⟨⟨_, _, _, B7W⟩, ⟨_, C41⟩, rfl⟩
instance : TS 90 (.slice none 0 0) := ⟨_, _, B1g, rfl⟩
instance : SL 90 217 2 16 (.agg #[(.int .u64 0), (.int .i64 0)]) := ⟨⟨_, _, _, B1g⟩, ⟨_, A32⟩, rfl⟩
instance : TS 93 (.pointer none) := ⟨_, _, C41, rfl⟩
instance : TS 94 (.slice none 0 0) := ⟨_, _, B0L, rfl⟩
instance : SL 94 160 4 40 (.agg #[(.int .i64 0), (.string (ByteArray.mk #[])), (.int .i64 0), (.int .i64 0)]) := ⟨⟨_, _, _, B0L⟩, ⟨_, A2A⟩, rfl⟩
instance : TG 106 4 (.agg #[(.string (ByteArray.mk #[])), (.int .i64 0), (.bool false), (.int .i64 0)]) := ⟨_, _, A8W, rfl⟩
instance : TG 119 3 (.agg #[(.int .i64 0), (.int .i64 0), (.int .i64 0)]) := ⟨_, _, A8d, rfl⟩
instance : TG 122 3 (.agg #[(.string (ByteArray.mk #[])), (.string (ByteArray.mk #[])), (.int .i64 0)]) := ⟨_, _, B0k, rfl⟩
instance : TG 124 3 (.agg #[(.string (ByteArray.mk #[])), (.string (ByteArray.mk #[])), (.int .i64 0)]) := ⟨_, _, B0y, rfl⟩
instance : TG 126 38 (.agg #[(.int .u8 0), (.int .u8 0), (.int .u8 0), (.int .u8 0), (.int .u8 0), (.int .u8 0), (.int .u8 0), (.int .u8 0), (.int .u8 0), (.int .u8 0), (.int .u8 0), (.int .u8 0), (.int .u8 0), (.int .u8 0), (.int .u8 0), (.int .u8 0), (.int .u8 0), (.int .u8 0), (.int .u8 0), (.int .u8 0), (.int .u8 0), (.int .u8 0), (.int .u8 0), (.int .u8 0), (.int .u8 0), (.int .u8 0), (.int .u8 0), (.int .u8 0), (.int .u8 0), (.int .u8 0), (.int .u8 0), (.int .u8 0), (.int .u8 0), (.int .u8 0), (.int .u8 0), (.int .u8 0), (.int .u8 0), (.int .u8 0)]) := ⟨_, _, C0N, rfl⟩
instance : TS 127 (.slice none 0 0) := ⟨_, _, A3z, rfl⟩
instance : SL 127 5 1 1 (.int .u8 0) := ⟨⟨_, _, _, A3z⟩, ⟨_, ty5⟩, rfl⟩
instance : TS 129 (.int .u64 0) := ⟨_, _, A5x, rfl⟩
instance : TS 149 .nilFunc := ⟨_, _, C9K, rfl⟩
instance : TG 153 2 (.agg #[(.int .i64 0), (.int .i64 0)]) := ⟨_, _, B27, rfl⟩
instance : TG 160 4 (.agg #[(.int .i64 0), (.string (ByteArray.mk #[])), (.int .i64 0), (.int .i64 0)]) := ⟨_, _, A2A, rfl⟩
instance : TS 176 (.slice none 0 0) := ⟨_, _, C0m, rfl⟩
instance : TS 185 (.pointer none) := ⟨_, _, B5z, rfl⟩
instance : TG 189 2 (.agg #[(.pointer none), (.slice none 0 0)]) := ⟨_, _, C5P, rfl⟩
instance : TS 208 (.slice none 0 0) := ⟨_, _, B50, rfl⟩
instance : SL 208 211 2 16 (.agg #[(.int .u64 0), (.int .i64 0)]) := ⟨⟨_, _, _, B50⟩, ⟨_, A8V⟩, rfl⟩
instance : TG 211 2 (.agg #[(.int .u64 0), (.int .i64 0)]) := ⟨_, _, A8V, rfl⟩
instance : TG 217 2 (.agg #[(.int .u64 0), (.int .i64 0)]) := ⟨_, _, A32, rfl⟩
instance : TS 218 .nilFunc := ⟨_, _, C9N, rfl⟩
instance : SL 229 153 2 16 (.agg #[(.int .i64 0), (.int .i64 0)]) := ⟨⟨_, _, _, B9Z⟩, ⟨_, B27⟩, rfl⟩
instance : TG 233 5 (.agg #[(.string (ByteArray.mk #[])), (.string (ByteArray.mk #[])), (.string (ByteArray.mk #[])), (.int .i64 0), (.int .i64 0)]) := ⟨_, _, A59, rfl⟩
instance : TG 235 3 (.agg #[(.int .i64 0), (.int .i64 0), (.int .i64 0)]) := ⟨_, _, B0g, rfl⟩
instance : TG 275 3 (.agg #[(.string (ByteArray.mk #[])), (.string (ByteArray.mk #[])), (.int .i64 0)]) := ⟨_, _, B0f, rfl⟩
instance : TG 278 3 (.agg #[(.string (ByteArray.mk #[])), (.string (ByteArray.mk #[])), (.int .i64 0)]) := ⟨_, _, B02, rfl⟩
instance : TG 296 2 (.agg #[.nilFunc, (.int .i64 0)]) := ⟨_, _, B0n, rfl⟩
instance : TS 300 .nilFunc := ⟨_, _, C92, rfl⟩
instance : TS 302 (.int .u64 0) := ⟨_, _, C5m, rfl⟩
instance : TS 307 (.slice none 0 0) := ⟨_, _, B98, rfl⟩
instance : SL 320 296 2 16 (.agg #[.nilFunc, (.int .i64 0)]) := ⟨⟨_, _, _, C0M⟩, ⟨_, B0n⟩, rfl⟩
@[simp] theorem D0K (a : Option Addr) (x y : Operand) (K : Value → WP) : A6 PR (N1 .eql 185 x y (.pointer a) (.pointer none)) K = K (.bool a.isNone) := funext fun w => B9y a x y K w
@[simp] theorem D0V (a : Option Addr) (x y : Operand) (K : Value → WP) : A6 PR (N1 .eql 27 x y (.pointer a) (.pointer none)) K = K (.bool a.isNone) := funext fun w => C22 a x y K w
@[simp] theorem D2Y (a0 b0 : Int) (a1 b1 : Int) (a2 b2 : Bool) (a3 b3 : Int) (x y : Operand) (K : Value → WP) : A6 PR (N1 .eql 39 x y (.agg #[.int .i64 a0, .int .i64 a1, .bool a2, .int .i64 a3]) (.agg #[.int .i64 b0, .int .i64 b1, .bool b2, .int .i64 b3])) K = K (.bool (decide (a0 = b0) && (decide (a1 = b1) && ((a2 == b2) && (decide (a3 = b3) && true))))) := funext fun w => C3n a0 b0 a1 b1 a2 b2 a3 b3 x y K w
@[simp] theorem D0c (a : Option Addr) (x y : Operand) (K : Value → WP) : A6 PR (N1 .neq 27 x y (.pointer a) (.pointer none)) K = K (.bool (!a.isNone)) := funext fun w => C2A a x y K w
@[simp] theorem D22 (a0 b0 : Int) (a1 b1 : Int) (a2 b2 : Bool) (a3 b3 : Int) (x y : Operand) (K : Value → WP) : A6 PR (N1 .neq 39 x y (.agg #[.int .i64 a0, .int .i64 a1, .bool a2, .int .i64 a3]) (.agg #[.int .i64 b0, .int .i64 b1, .bool b2, .int .i64 b3])) K = K (.bool !(decide (a0 = b0) && (decide (a1 = b1) && ((a2 == b2) && (decide (a3 = b3) && true))))) := funext fun w => C5F a0 b0 a1 b1 a2 b2 a3 b3 x y K w
@[simp] theorem D2g (a0 b0 : Int) (a1 b1 : Int) (x y : Operand) (K : Value → WP) : A6 PR (N1 .neq 75 x y (.agg #[.int .i64 a0, .int .i64 a1]) (.agg #[.int .i64 b0, .int .i64 b1])) K = K (.bool !(decide (a0 = b0) && (decide (a1 = b1) && true))) := funext fun w => C4Q a0 b0 a1 b1 x y K w
end Go.Proofs.YtpbmephflllolaaGreat
namespace Go.Proofs.YtpbmephflllolaaGreat
open Go
def B4K (n i : Nat) : List Value := [.int .i64 (i : Int), .int .u64 (8 * ((n : Int) - 1 - i))]
abbrev C2g (b : Nat) : Value := .func (.func 141) #[] #[.pointer (some ⟨b, 0, none⟩)]
theorem B6J (w : World) (n : Int) : Fn PR B3 99 #[.int .i64 n] w (Rn [] w (fun b v => v = C2g b) fun b => [.pt b (.cells #[.int .i64 n] 3)]) := by
 refine B4C (TW.go (κ := false) (S := []) ?_)
 unfold A7S
 (have zz:=trivial;repeat((first|clear zz|with_reducible first|refine A3 ?_|refine A4 fun _=>?_|refine A5 fun _=>?_);try simp(disch:=first|omega|assumption|((repeat(first|exact A1|exact uH|apply A2|apply uT));first|done|fail)|(simp;first|done|omega|fail))[]))
 rename_i b
 exact k7 b rfl (by simp)
theorem B6s (b : Nat) {n : Nat} (hn : n ≤ 8) : A36 (C2g b) [.pt b (.cells #[.int .i64 (n : Int)] 3)] (fun _ _ => True) ((List.range n).map (B4K n)) := by
 refine ⟨_, _, _, rfl, fun l J E hJ hE stJ stE hy w0 h0 => ?_⟩
 refine B08 (B1A (TW.at (κ := true) ?_ (hJ _ _ _ h0).1))
 unfold A3n
 (have zz:=trivial;repeat((first|clear zz|with_reducible first|refine A3 ?_|refine A4 fun _=>?_|refine A5 fun _=>?_);try simp(disch:=first|omega|assumption|((repeat(first|exact A1|exact uH|apply A2|apply uT));first|done|fail)|(simp;first|done|omega|fail))[]))
 refine A42 n (fun i => i) (fun _ => _) hJ stJ h0 fun i a hi hJi _ L hL => ?_
 by_cases hlt : i < n
 ·(have zz:=trivial;repeat((first|clear zz|with_reducible first|refine A3 ?_|refine A4 fun _=>?_|refine A5 fun _=>?_);try simp(disch:=first|omega|assumption|((repeat(first|exact A1|exact uH|apply A2|apply uT));first|done|fail)|(simp;first|done|omega|fail))[hlt]))
  refine A54 hJ hE stJ hy hJi (by simpa using hlt) (by simp [B4K]) (fun w3 h => ?_) (fun w3 h => ?_)
  ·(have zz:=trivial;repeat((first|clear zz|with_reducible first|refine A3 ?_|refine A4 fun _=>?_|refine A5 fun _=>?_);try simp(disch:=first|omega|assumption|((repeat(first|exact A1|exact uH|apply A2|apply uT));first|done|fail)|(simp;first|done|omega|fail))[]))
   exact fun w' hw' => hL hlt w' (stJ _ _ _ _ _ h hw')
  ·(have zz:=trivial;repeat((first|clear zz|with_reducible first|refine A3 ?_|refine A4 fun _=>?_|refine A5 fun _=>?_);try simp(disch:=first|omega|assumption|((repeat(first|exact A1|exact uH|apply A2|apply uT));first|done|fail)|(simp;first|done|omega|fail))[]))
   exact A3Y stE h
 ·obtain rfl : i = n := by omega
  (have zz:=trivial;repeat((first|clear zz|with_reducible first|refine A3 ?_|refine A4 fun _=>?_|refine A5 fun _=>?_);try simp(disch:=first|omega|assumption|((repeat(first|exact A1|exact uH|apply A2|apply uT));first|done|fail)|(simp;first|done|omega|fail))[]))
  exact A29 stJ (by simpa using hJi)
def C3 (s : ByteArray) (i : Nat) : Nat := (s.data.getD i 0).toNat
def Y3 (s : ByteArray) (a : Nat) : Nat → Nat
 | 0 => 0
 | i + 1 => Y3 s a i * 256 + C3 s (a + i)
theorem M7 (s : ByteArray) (i : Nat) : C3 s i < 256 := (s.data.getD i 0).toNat_lt
theorem A47 (s : ByteArray) (a i : Nat) : Y3 s a i < 256 ^ i := by
 induction i with
 | zero => simp [Y3]
 | succ i ih =>
  have := M7 s (a + i)
  simp only [Y3, Nat.pow_succ]
  omega
theorem r9 {s : ByteArray} {i : Nat} (h : i < s.size) : ∃ b : UInt8, s[i]? = some b ∧ b.toNat = C3 s i := by
 refine ⟨s[i], by simp [h], ?_⟩
 have h' : i < s.data.size := h
 have e : s.data.getD i 0 = s[i] := by rw [Array.getD_eq_getD_getElem?, Array.getElem?_eq_getElem h']; rfl
 rw [C3, e]
def r3 (s : ByteArray) (a n : Int) : Bool := decide (1 ≤ n ∧ n ≤ 8 ∧ 0 ≤ a ∧ a ≤ s.size - n)
def A2L (s : ByteArray) (a n : Int) : Int := if r3 s a n = true then (Y3 s a.toNat n.toNat : Nat) else 0
theorem A3B (w : World) (s : ByteArray) (hs : s.size < 2 ^ 63) (a n : Int) :
  Fn PR B3 148 #[.string s, .int .i64 a, .int .i64 n] w (fun v w' => v = .tuple #[.int .u64 (A2L s a n), .bool (r3 s a n)] ∧ C1 [] w w') := by
 refine Fn.pure (B6U (TW.go (κ := false) (S := []) ?_))
 unfold A9V
 by_cases hok : r3 s a n = true
 case neg =>
  have hv : A2L s a n = 0 := if_neg hok
  have hok' : r3 s a n = false := by simpa using hok
  rw [hv, hok']
  have hc : n < 1 ∨ 8 < n ∨ a < 0 ∨ (s.size : Int) - n < a := by
   simp only [r3, decide_eq_true_eq] at hok; omega
  by_cases h1 : n < 1
  ·(have zz:=trivial;repeat((first|clear zz|with_reducible first|refine A3 ?_|refine A4 fun _=>?_|refine A5 fun _=>?_);try simp(disch:=first|omega|assumption|((repeat(first|exact A1|exact uH|apply A2|apply uT));first|done|fail)|(simp;first|done|omega|fail))[h1])); exact A9 rfl
  by_cases h2 : 8 < n
  ·(have zz:=trivial;repeat((first|clear zz|with_reducible first|refine A3 ?_|refine A4 fun _=>?_|refine A5 fun _=>?_);try simp(disch:=first|omega|assumption|((repeat(first|exact A1|exact uH|apply A2|apply uT));first|done|fail)|(simp;first|done|omega|fail))[h1, h2])); exact A9 rfl
  by_cases h3 : a < 0
  ·(have zz:=trivial;repeat((first|clear zz|with_reducible first|refine A3 ?_|refine A4 fun _=>?_|refine A5 fun _=>?_);try simp(disch:=first|omega|assumption|((repeat(first|exact A1|exact uH|apply A2|apply uT));first|done|fail)|(simp;first|done|omega|fail))[h1, h2, h3])); exact A9 rfl
  have h4 : (s.size : Int) - n < a := by omega
  (have zz:=trivial;repeat((first|clear zz|with_reducible first|refine A3 ?_|refine A4 fun _=>?_|refine A5 fun _=>?_);try simp(disch:=first|omega|assumption|((repeat(first|exact A1|exact uH|apply A2|apply uT));first|done|fail)|(simp;first|done|omega|fail))[h1, h2, h3, h4])); exact A9 rfl
 have hv : A2L s a n = (Y3 s a.toNat n.toNat : Nat) := if_pos hok
 rw [hv, hok]
 simp only [r3, decide_eq_true_eq] at hok
 obtain ⟨m, rfl⟩ : ∃ m : Nat, n = m := ⟨n.toNat, by omega⟩
 obtain ⟨k, rfl⟩ : ∃ k : Nat, a = k := ⟨a.toNat, by omega⟩
 have h1 : ¬ (m : Int) < 1 := by omega
 have h2 : ¬ 8 < (m : Int) := by omega
 have h4 : ¬ (s.size : Int) - m < k := by omega
 have h5 : ¬ (k : Int) < 0 := by omega
 (have zz:=trivial;repeat((first|clear zz|with_reducible first|refine A3 ?_|refine A4 fun _=>?_|refine A5 fun _=>?_);try simp(disch:=first|omega|assumption|((repeat(first|exact A1|exact uH|apply A2|apply uT));first|done|fail)|(simp;first|done|omega|fail))[h1, h2, h4, h5]))
 rename_i bs ba bv
 refine G3 A5y (fun w' _ => B6J w' m) ?_
 rintro b v rfl
 refine A2a (B6s b (n := m) (by omega)) (by simp [B4K]) (fun _ (_ : Unit) => True) (fun i _ => [.pt bv (.cells #[.int .u64 ((Y3 s k i * 256 ^ (m - i) : Nat) : Int)] 129), .pt ba (.cells #[.int .i64 (k : Int)] 3), .pt bs (.cells #[.string s] 9)])
  (fun _ (_ : Unit) => False) (fun _ => []) () trivial ?_ ?_ ?_ ?_ (by simp [Y3])
 ·intros; trivial
 ·rintro i hi _ F _ K' hK _
  have hi' : i < m := by simpa using hi
  obtain ⟨by0, hb0, hb1⟩ := r9 (s := s) (i := k + i) (by omega)
  have hidx : ((k : Int) + i).toNat = k + i := by omega
  have hbl := M7 s (k + i)
  rw [← hidx] at hb0
  have hsh : (0 : Int) ≤ 8 * ((m : Int) - 1 - i) := by omega
  simp only [List.getElem_map, List.getElem_range, B4K, VF.app]
  (have zz:=trivial;repeat((first|clear zz|with_reducible first|refine A3 ?_|refine A4 fun _=>?_|refine A5 fun _=>?_);try simp(disch:=first|omega|assumption|((repeat(first|exact A1|exact uH|apply A2|apply uT));first|done|fail)|(simp;first|done|omega|fail))[Z4]))
  refine TW.eqH ?_ (hK () trivial)
  have hlt : (Y3 s k i * 256 + C3 s (k + i)) * 256 ^ (m - 1 - i) < 2 ^ 64 := by
   have hA : Y3 s k (i + 1) < 256 ^ (i + 1) := A47 s k (i + 1)
   have h8 : 256 ^ (i + 1) * 256 ^ (m - 1 - i) ≤ 2 ^ 64 := by
    rw [← Nat.pow_add, show (2 : Nat) ^ 64 = 256 ^ 8 from rfl]
    exact Nat.pow_le_pow_right (by omega) (by omega)
   exact Nat.lt_of_lt_of_le (Nat.mul_lt_mul_of_pos_right hA (Nat.pow_pos (by omega))) h8
  have hval := C6f hbl hlt (by omega)
  rw [show m - (i + 1) = m - 1 - i from by omega]
  simp [Y3, ← hval]
  rw [hb1, show (8 * ((m : Int) - 1 - i)).toNat = 8 * (m - 1 - i) from by omega, show m - i = m - 1 - i + 1 from by omega]
 ·rintro _ _
  (have zz:=trivial;repeat((first|clear zz|with_reducible first|refine A3 ?_|refine A4 fun _=>?_|refine A5 fun _=>?_);try simp(disch:=first|omega|assumption|((repeat(first|exact A1|exact uH|apply A2|apply uT));first|done|fail)|(simp;first|done|omega|fail))[]))
  exact A9 (by simp)
 ·rintro _ _ h; exact h.elim
def A6P (v : Int) (n i : Nat) : Int := IntKind.u8.wrap (v.fdiv (2 ^ min (8 * ((n : Int) - 1 - i)).toNat IntKind.u64.bits))
def u9 (v : Int) (n i : Nat) : List Int := (List.range n).map fun j => if j < i then A6P v n j else 0
def E4 (v n : Int) : ByteArray := if 1 ≤ n ∧ n ≤ 8 then T1 (u9 v n.toNat n.toNat) else ByteArray.mk #[]
theorem C4M (v : Int) {n i : Nat} (h : i < n) : (u9 v n i).set i (A6P v n i) = u9 v n (i + 1) := by
 apply List.ext_getElem (by simp [u9])
 intro j h1 h2
 simp only [u9, List.length_set, List.length_map, List.length_range] at h1
 rw [List.getElem_set]
 simp only [u9, List.getElem_map, List.getElem_range]
 by_cases hij : i = j
 ·subst hij; simp
 ·by_cases hj : j < i
  ·simp [hij, hj, Nat.lt_succ_of_lt hj]
  ·have : ¬ j < i + 1 := by omega
   simp [hij, hj, this]
def A7D (v : Int) (n i : Nat) : Array Value := ((u9 v n i).map (Value.int .u8)).toArray
theorem C2V (v : Int) {m : Nat} (h : m ≤ 8) : Builtin.zeroCells (Value.int .u8 0).cells m = A7D v m 0 := by
 have : m = 0 ∨ m = 1 ∨ m = 2 ∨ m = 3 ∨ m = 4 ∨ m = 5 ∨ m = 6 ∨ m = 7 ∨ m = 8 := by omega
 rcases this with rfl | rfl | rfl | rfl | rfl | rfl | rfl | rfl | rfl <;>
  (apply Array.ext'; simp [Builtin.zeroCells, A7D, u9, List.range, List.range.loop])
@[simp] theorem C1E {v n : Int} (h1 : 1 ≤ n) (h2 : n ≤ 8) : (E4 v n).size = n.toNat := by simp [E4, h1, h2, u9]
theorem d9 (w : World) (v n : Int) :
  Fn PR B3 55 #[.int .u64 v, .int .i64 n] w (fun u w' => u = .string (E4 v n) ∧ C1 [] w w') := by
 refine Fn.pure (B6N (TW.go (κ := false) (S := []) ?_))
 unfold A9s
 by_cases hok : 1 ≤ n ∧ n ≤ 8
 case neg =>
  have hv : E4 v n = ByteArray.mk #[] := if_neg hok
  rw [hv]
  by_cases h1 : n < 1
  ·(have zz:=trivial;repeat((first|clear zz|with_reducible first|refine A3 ?_|refine A4 fun _=>?_|refine A5 fun _=>?_);try simp(disch:=first|omega|assumption|((repeat(first|exact A1|exact uH|apply A2|apply uT));first|done|fail)|(simp;first|done|omega|fail))[h1])); exact A9 rfl
  ·have h2 : 8 < n := by omega
   (have zz:=trivial;repeat((first|clear zz|with_reducible first|refine A3 ?_|refine A4 fun _=>?_|refine A5 fun _=>?_);try simp(disch:=first|omega|assumption|((repeat(first|exact A1|exact uH|apply A2|apply uT));first|done|fail)|(simp;first|done|omega|fail))[h1, h2])); exact A9 rfl
 have hv : E4 v n = T1 (u9 v n.toNat n.toNat) := if_pos hok
 rw [hv]
 obtain ⟨m, rfl⟩ : ∃ m : Nat, n = m := ⟨n.toNat, by omega⟩
 have h1 : ¬ (m : Int) < 1 := by omega
 have h2 : ¬ 8 < (m : Int) := by omega
 (have zz:=trivial;repeat((first|clear zz|with_reducible first|refine A3 ?_|refine A4 fun _=>?_|refine A5 fun _=>?_);try simp(disch:=first|omega|assumption|((repeat(first|exact A1|exact uH|apply A2|apply uT));first|done|fail)|(simp;first|done|omega|fail))[h1, h2]))
 refine B7m (by omega) (by omega) (by omega) (by omega) fun bs => ?_
 rw [Int.toNat_natCast, C2V v (by omega)]
 (have zz:=trivial;repeat((first|clear zz|with_reducible first|refine A3 ?_|refine A4 fun _=>?_|refine A5 fun _=>?_);try simp(disch:=first|omega|assumption|((repeat(first|exact A1|exact uH|apply A2|apply uT));first|done|fail)|(simp;first|done|omega|fail))[h1, h2]))
 rename_i bv bb
 refine G3 A5y (fun w' _ => B6J w' m) ?_
 rintro b v rfl
 refine A2a (B6s b (n := m) (by omega)) (by simp [B4K]) (fun _ (_ : Unit) => True) (fun i _ => [.pt bb (.cells #[.slice (some ⟨bs, 0, none⟩) m m] 127),
   .own 5 1 (.slice (some ⟨bs, 0, none⟩) m m) m (A7D v m i).toList, .pt bv (.cells #[.int .u64 v] 129)])
  (fun _ (_ : Unit) => False) (fun _ => []) () trivial ?_ ?_ ?_ ?_ (by simp)
 ·intros; trivial
 ·rintro i hi _ F _ K' hK _
  have hi' : i < m := by simpa using hi
  have hsh : (0 : Int) ≤ 8 * ((m : Int) - 1 - i) := by omega
  simp only [List.getElem_map, List.getElem_range, B4K, VF.app]
  (have zz:=trivial;repeat((first|clear zz|with_reducible first|refine A3 ?_|refine A4 fun _=>?_|refine A5 fun _=>?_);try simp(disch:=first|omega|assumption|((repeat(first|exact A1|exact uH|apply A2|apply uT));first|done|fail)|(simp;first|done|omega|fail))[]))
  refine A4l (by (repeat constructor)) (by simp) (by simp [A7D, u9]; omega) (by simp) ?_
  refine TW.eqH ?_ (hK () trivial)
  have e : A5B (A7D v m i).toList i [.int .u8 (A6P v m i)] = (A7D v m (i + 1)).toList := by
   rw [B6S (by simp [A7D, u9]; omega)]; simp [A7D, ← C4M v hi', List.map_set]
  rw [← e]; simp [A6P]
 ·rintro _ _
  (have zz:=trivial;repeat((first|clear zz|with_reducible first|refine A3 ?_|refine A4 fun _=>?_|refine A5 fun _=>?_);try simp(disch:=first|omega|assumption|((repeat(first|exact A1|exact uH|apply A2|apply uT));first|done|fail)|(simp;first|done|omega|fail))[]))
  have hlen : (u9 v m m).length = m := by simp [u9]
  have := fun w' K (hr : L9 w' bs 0 ((u9 v m m).map (Value.int .u8))) => @B1T K w' bs 0 m _ hr
  rw [hlen] at this
  rw [C9S fun w' hw' => this w' _ (by simpa [A7D] using hw'.ownr (e := 5) (k := 1) (q := m) (c := m) (xs := (A7D v m m).toList) (by (repeat constructor)))]
  simp only [C8s]
  exact A9 rfl
 ·rintro _ _ h; exact h.elim
end Go.Proofs.YtpbmephflllolaaGreat
