/- The proof of a given statement, a part of it (ShStd ShOctet Ins Tc Tn Oct). No condition but what each lemma says. -/
import Derived.Test.YtpbmephflllolaaGreatC8
set_option linter.unusedVariables false
set_option linter.unusedSimpArgs false
namespace Go.Proofs.YtpbmephflllolaaGreat
open Go
def M5 (X : Nat → Prop) (t0 t1 : Value) (R : Value → WP) : WP :=
 A0 PR (E2 t0) fun t5 =>
 A0 PR (Instr.fieldAt 85 t5 2) fun t6 =>
 A6 PR (convert 79 83 t1) fun t8 =>
 B1 PR X 72 [t6, t8] fun t9 =>
 R (.tuple #[])
theorem M2 : A9 PR 36 := A7 Tryz.func36 (by kernel_rfl) rfl
theorem W5 {X : Nat → Prop} {t0 t1 : Value} {R : Value → WP} {w : World} (h : M5 X t0 t1 R w) : Fn PR X 36 #[t0, t1] w R := C9 (args := [t0, t1]) mixed Tryz.func36 (by kernel_rfl) h
def P5 (X : Nat → Prop) (t0 : Value) (R : Value → WP) : WP :=
 jn (n := 1) (fun t2 =>
 B2 PR X (Instr.buildSlice 32 0 #[]) fun t5 =>
 B2 PR X (A8 .append #[32, 32] 32 [t5, t0]) fun t7 =>
 R t7) fun J1 =>
 A6 PR (J9 .eql 32 (.tmp 3) (.const (.slice none 0 0)) t0 (.slice none 0 0)) fun t4 =>
 C3 t4 (
 R (.slice none 0 0)) (
 J1 (.slice none 0 0))
theorem G4 : A9 PR 49 := A7 Tryz.func49 (by kernel_rfl) rfl
theorem j4 {X : Nat → Prop} {t0 : Value} {R : Value → WP} {w : World} (h : P5 X t0 R w) : Fn PR X 49 #[t0] w R := C9 (args := [t0]) mixed Tryz.func49 (by kernel_rfl) h
def N0 (X : Nat → Prop) (t0 : Value) (R : Value → WP) : WP :=
 A0 PR (E2 t0) fun t4 =>
 A0 PR (Instr.fieldAt 85 t4 2) fun t5 =>
 B1 PR X 91 [t5] fun t6 =>
 A6 PR (convert 83 79 t6) fun t7 =>
 R t7
theorem M6 : A9 PR 50 := A7 Tryz.func50 (by kernel_rfl) rfl
theorem Y8 {X : Nat → Prop} {t0 : Value} {R : Value → WP} {w : World} (h : N0 X t0 R w) : Fn PR X 50 #[t0] w R := C9 (args := [t0]) mixed Tryz.func50 (by kernel_rfl) h
def P6 (X : Nat → Prop) (t0 t1 : Value) (R : Value → WP) : WP :=
 jn (n := 1) (fun t4 =>
 jn (n := 2) (fun t4_1 t13 =>
 R (.bool true)) fun J1 =>
 A0 PR (A8 .len #[32] 0 [t0]) fun t12 =>
 lp (n := 2) (fun L2 t4_2 t13_1 =>
 A0 PR (binOp .lss 3 t13_1 t12) fun t14 =>
 jn (n := 0) (
 jn (n := 1) (fun t4_3 =>
 A0 PR (binOp .add 3 t13_1 (.int .i64 1)) fun t25 =>
 L2 t4_3 t25) fun J3 =>
 drw <|
 A0 PR (Instr.indexAt 32 t0 t13_1) fun t18 =>
 A6 PR (Instr.loadAt 75 t18) fun t19 =>
 A0 PR (Instr.indexAt 32 t1 t13_1) fun t22 =>
 A6 PR (Instr.loadAt 75 t22) fun t23 =>
 A6 PR (J9 .neq 75 (.tmp 19) (.tmp 23) t19 t23) fun t24 =>
 C3 t24 (
 R (.bool false)) (
 J3 t4_2)) fun J4 =>
 C3 t14 (
 J4) (
 J1 t4_2 t13_1)) t4 (.int .i64 0)) fun J5 =>
 A0 PR (A8 .len #[32] 0 [t0]) fun t7 =>
 A0 PR (A8 .len #[32] 0 [t1]) fun t9 =>
 A0 PR (binOp .neq 3 t7 t9) fun t10 =>
 C3 t10 (
 R (.bool false)) (
 J5 (.bool false))
theorem g5 : A9 PR 65 := A7 Tryz.func65 (by kernel_rfl) rfl
theorem g9 {X : Nat → Prop} {t0 t1 : Value} {R : Value → WP} {w : World} (h : P6 X t0 t1 R w) : Fn PR X 65 #[t0, t1] w R := C9 (args := [t0, t1]) mixed Tryz.func65 (by kernel_rfl) h
def A1Q (X : Nat → Prop) (t0 t1 : Value) (R : Value → WP) : WP :=
 B1 PR X 120 [t0] fun t8 =>
 B1 PR X 120 [t1] fun t10 =>
 jn (n := 1) (fun t4 =>
 jn (n := 1) (fun t4_1 =>
 jn (n := 1) (fun t4_2 =>
 jn (n := 1) (fun t4_3 =>
 R (.int .i64 0)) fun J1 =>
 A0 PR (binOp .gtr 3 t0 t1) fun t19 =>
 C3 t19 (
 R (.int .i64 1)) (
 J1 t4_2)) fun J2 =>
 A0 PR (binOp .lss 3 t0 t1) fun t16 =>
 C3 t16 (
 R (.int .i64 (-1))) (
 J2 t4_1)) fun J3 =>
 C3 t10 (
 R (.int .i64 1)) (
 J3 t4)) fun J4 =>
 C3 t8 (
 jn (n := 1) (fun t4_4 =>
 R (.int .i64 (-1))) fun J5 =>
 C3 t10 (
 R (.int .i64 0)) (
 J5 (.int .i64 0))) (
 J4 (.int .i64 0))
theorem A52 : A9 PR 69 := A7 Tryz.func69 (by kernel_rfl) rfl
theorem A6c {X : Nat → Prop} {t0 t1 : Value} {R : Value → WP} {w : World} (h : A1Q X t0 t1 R w) : Fn PR X 69 #[t0, t1] w R := C9 (args := [t0, t1]) mixed Tryz.func69 (by kernel_rfl) h
theorem A7k {X : Nat → Prop} {t0 t1 : Value} {K : Value → WP} {w : World} (h : Fn PR X 69 #[t0, t1] w K) : B1 PR X 69 [t0, t1] K w := Or.inl ⟨A52, h⟩
def A1S (X : Nat → Prop) (t0 : Value) (R : Value → WP) : WP :=
 A0 PR (E2 t0) fun t3 =>
 A0 PR (Instr.fieldAt 101 t3 1) fun t4 =>
 B1 PR X 135 [t4] fun t5 =>
 R (.tuple #[])
theorem A50 : A9 PR 86 := A7 Tryz.func86 (by kernel_rfl) rfl
theorem A6a {X : Nat → Prop} {t0 : Value} {R : Value → WP} {w : World} (h : A1S X t0 R w) : Fn PR X 86 #[t0] w R := C9 (args := [t0]) mixed Tryz.func86 (by kernel_rfl) h
def M1 (X : Nat → Prop) (t0 : Value) (R : Value → WP) : WP :=
 B2 PR X (Instr.box 86 t0) fun t1 =>
 A0 PR (Instr.makeFunc (.func 136) #[] #[t1]) fun t3 =>
 R t3
theorem U9 : A9 PR 88 := A7 Tryz.func88 (by kernel_rfl) rfl
theorem V1 {X : Nat → Prop} {t0 : Value} {R : Value → WP} {w : World} (h : M1 X t0 R w) : Fn PR X 88 #[t0] w R := C9 (args := [t0]) mixed Tryz.func88 (by kernel_rfl) h
def y8 (X : Nat → Prop) (t0 : Value) (R : Value → WP) : WP :=
 A0 PR (E2 t0) fun t3 =>
 A0 PR (Instr.fieldAt 101 t3 1) fun t4 =>
 B1 PR X 137 [t4] fun t5 =>
 R (.tuple #[])
theorem A4D : A9 PR 89 := A7 Tryz.func89 (by kernel_rfl) rfl
theorem A5T {X : Nat → Prop} {t0 : Value} {R : Value → WP} {w : World} (h : y8 X t0 R w) : Fn PR X 89 #[t0] w R := C9 (args := [t0]) mixed Tryz.func89 (by kernel_rfl) h
def Y4 (X : Nat → Prop) (t0 t1 : Value) (R : Value → WP) : WP :=
 B1 PR X 139 [t0] fun t7 =>
 A0 PR (E2 t0) fun t10 =>
 A0 PR (Instr.fieldAt 187 t10 1) fun t11 =>
 A6 PR (Instr.loadAt 127 t11) fun t12 =>
 B2 PR X (A8 .append #[127, 9] 127 [t12, t1]) fun t14 =>
 A0 PR (E2 t0) fun t15 =>
 A0 PR (Instr.fieldAt 187 t15 1) fun t16 =>
 B9 PR X (Instr.storeAt 127 t16 t14) <|
 A0 PR (A8 .len #[9] 0 [t1]) fun t18 =>
 R (.tuple #[t18, .nilIface])
theorem K8 : A9 PR 95 := A7 Tryz.func95 (by kernel_rfl) rfl
theorem z7 {X : Nat → Prop} {t0 t1 : Value} {R : Value → WP} {w : World} (h : Y4 X t0 t1 R w) : Fn PR X 95 #[t0, t1] w R := C9 (args := [t0, t1]) mixed Tryz.func95 (by kernel_rfl) h
def k7 (X : Nat → Prop) (t0 : Value) (R : Value → WP) : WP :=
 drw <|
 A0 PR (E2 t0) fun t4 =>
 A0 PR (Instr.fieldAt 187 t4 1) fun t5 =>
 A6 PR (Instr.loadAt 127 t5) fun t6 =>
 A0 PR (E2 t0) fun t9 =>
 A0 PR (Instr.fieldAt 187 t9 1) fun t10 =>
 A6 PR (Instr.loadAt 127 t10) fun t11 =>
 A0 PR (A8 .len #[127] 0 [t11]) fun t12 =>
 B2 PR X (A8 .unsafeSliceData #[127] 249 [t6]) fun t7 =>
 watch PR [(none, (Instr.loadAt 127 t10), t11)] <|
 B2 PR X (A8 .unsafeString #[249, 3] 9 [t7, t12]) fun t13 =>
 R t13
theorem A1a : A9 PR 96 := A7 Tryz.func96 (by kernel_rfl) rfl
theorem A1y {X : Nat → Prop} {t0 : Value} {R : Value → WP} {w : World} (h : k7 X t0 R w) : Fn PR X 96 #[t0] w R := C9 (args := [t0]) mixed Tryz.func96 (by kernel_rfl) h
def U6 (X : Nat → Prop) (t0 t1 : Value) (R : Value → WP) : WP :=
 B1 PR X 157 [t0] fun t7 =>
 B1 PR X 158 [t7, t1] fun t10 =>
 R t7
theorem r5 : A9 PR 107 := A7 Tryz.func107 (by kernel_rfl) rfl
theorem s0 {X : Nat → Prop} {t0 t1 : Value} {R : Value → WP} {w : World} (h : U6 X t0 t1 R w) : Fn PR X 107 #[t0, t1] w R := C9 (args := [t0, t1]) mixed Tryz.func107 (by kernel_rfl) h
def S4 (X : Nat → Prop) (t0 : Value) (R : Value → WP) : WP :=
 jn (n := 1) (fun t2 =>
 B2 PR X (Instr.buildSlice 94 0 #[]) fun t5 =>
 B2 PR X (A8 .append #[94, 94] 94 [t5, t0]) fun t7 =>
 R t7) fun J1 =>
 A6 PR (J9 .eql 94 (.tmp 3) (.const (.slice none 0 0)) t0 (.slice none 0 0)) fun t4 =>
 C3 t4 (
 R (.slice none 0 0)) (
 J1 (.slice none 0 0))
theorem Q8 : A9 PR 111 := A7 Tryz.func111 (by kernel_rfl) rfl
theorem p5 {X : Nat → Prop} {t0 : Value} {R : Value → WP} {w : World} (h : S4 X t0 R w) : Fn PR X 111 #[t0] w R := C9 (args := [t0]) mixed Tryz.func111 (by kernel_rfl) h
def A2k (X : Nat → Prop) (t0 : Value) (R : Value → WP) : WP :=
 A0 PR (binOp .neq 3 t0 t0) fun t5 =>
 R t5
theorem A7s : A9 PR 120 := A7 Tryz.func120 (by kernel_rfl) rfl
theorem A8Y {X : Nat → Prop} {t0 : Value} {R : Value → WP} {w : World} (h : A2k X t0 R w) : Fn PR X 120 #[t0] w R := C9 (args := [t0]) mixed Tryz.func120 (by kernel_rfl) h
theorem A3C {X : Nat → Prop} {t0 : Value} {K : Value → WP} {w : World} (h : Fn PR X 120 #[t0] w K) : B1 PR X 120 [t0] K w := Or.inl ⟨A7s, h⟩
def T4 (X : Nat → Prop) (t0 t1 : Value) (R : Value → WP) : WP :=
 B1 PR X 170 [t0, t1] fun t7 =>
 A0 PR (binOp .geq 3 t7 (.int .i64 0)) fun t8 =>
 R t8
theorem n7 : A9 PR 121 := A7 Tryz.func121 (by kernel_rfl) rfl
theorem r6 {X : Nat → Prop} {t0 t1 : Value} {R : Value → WP} {w : World} (h : T4 X t0 t1 R w) : Fn PR X 121 #[t0, t1] w R := C9 (args := [t0, t1]) mixed Tryz.func121 (by kernel_rfl) h
def f5 (X : Nat → Prop) (t0 : Value) (R : Value → WP) : WP :=
 B1 PR X 177 [] fun t2 =>
 jn (n := 0) (
 B1 PR X 181 [t0] fun t12 =>
 R (.tuple #[])) fun J1 =>
 A0 PR (E2 t0) fun t4 =>
 A0 PR (Instr.fieldAt 99 t4 0) fun t5 =>
 B1 PR X 178 [t5, (.int .i32 0), (.int .i32 1)] fun t6 =>
 C3 t6 (
 jn (n := 0) (
 R (.tuple #[])) fun J2 =>
 C3 (.bool true) (
 B1 PR X 179 [] fun t7 =>
 A6 PR (convert 283 83 t0) fun t9 =>
 B1 PR X 180 [t9] fun t10 =>
 J2) (
 J2)) (
 J1)
theorem A0s : A9 PR 135 := A7 Tryz.func135 (by kernel_rfl) rfl
theorem A1P {X : Nat → Prop} {t0 : Value} {R : Value → WP} {w : World} (h : f5 X t0 R w) : Fn PR X 135 #[t0] w R := C9 (args := [t0]) mixed Tryz.func135 (by kernel_rfl) h
def L0 (X : Nat → Prop) (t0 t1 : Value) (R : Value → WP) : WP :=
 A6 PR (Instr.loadAt 86 t1) fun t4 =>
 A0 PR (A8 .len #[86] 0 [t4]) fun t5 =>
 A0 PR (binOp .sub 3 t5 (.int .i64 1)) fun t6 =>
 lp (n := 1) (fun L1 t3 =>
 jn (n := 0) (
 jn (n := 0) (
 A0 PR (binOp .sub 3 t3 (.int .i64 1)) fun t10 =>
 L1 t10) fun J2 =>
 A6 PR (Instr.loadAt 86 t1) fun t13 =>
 A0 PR (Instr.indexAt 86 t13 t3) fun t15 =>
 A6 PR (Instr.loadAt 93 t15) fun t16 =>
 H9 PR X t0 [t3, t16] fun t17 =>
 A0 PR (Op.unary .not t17) fun t18 =>
 C3 t18 (
 R (.tuple #[])) (
 J2)) fun J3 =>
 A0 PR (binOp .geq 3 t3 (.int .i64 0)) fun t8 =>
 C3 t8 (
 J3) (
 R (.tuple #[]))) t6
theorem S8 : A9 PR 136 := A7 Tryz.func136 (by kernel_rfl) rfl
theorem T5 {X : Nat → Prop} {t0 t1 : Value} {R : Value → WP} {w : World} (h : L0 X t0 t1 R w) : Fn PR X 136 #[t0, t1] w R := C9 (args := [t0, t1]) mixed Tryz.func136 (by kernel_rfl) h
theorem T8 {X : Nat → Prop} {t0 t1 : Value} {K : Value → WP} {w : World} (h : Fn PR X 136 #[t0, t1] w K) : w7 PR X 136 [t0, t1] K w := ⟨S8, h⟩
def c8 (X : Nat → Prop) (t0 : Value) (R : Value → WP) : WP :=
 jn (n := 0) (
 A0 PR (E2 t0) fun t12 =>
 A0 PR (Instr.fieldAt 99 t12 0) fun t13 =>
 B1 PR X 183 [t13, (.int .i32 (-1))] fun t14 =>
 jn (n := 0) (
 B1 PR X 179 [] fun t20 =>
 R (.tuple #[])) fun J1 =>
 A0 PR (binOp .neq 21 t14 (.int .i32 0)) fun t16 =>
 C3 t16 (
 B1 PR X 184 [t0, t14] fun t19 =>
 J1) (
 J1)) fun J2 =>
 C3 (.bool true) (
 A0 PR (E2 t0) fun t4 =>
 A0 PR (Instr.fieldAt 99 t4 0) fun t5 =>
 A6 PR (Instr.loadAt 21 t5) fun t6 =>
 A6 PR (convert 283 83 t0) fun t8 =>
 B1 PR X 182 [t8] fun t9 =>
 B1 PR X 177 [] fun t10 =>
 J2) (
 J2)
theorem A0P : A9 PR 137 := A7 Tryz.func137 (by kernel_rfl) rfl
theorem A0T {X : Nat → Prop} {t0 : Value} {R : Value → WP} {w : World} (h : c8 X t0 R w) : Fn PR X 137 #[t0] w R := C9 (args := [t0]) mixed Tryz.func137 (by kernel_rfl) h
def e6 (X : Nat → Prop) (t0 : Value) (R : Value → WP) : WP :=
 A0 PR (E2 t0) fun t3 =>
 A0 PR (Instr.fieldAt 187 t3 0) fun t4 =>
 A6 PR (Instr.loadAt 185 t4) fun t5 =>
 A6 PR (J9 .eql 185 (.tmp 5) (.const (.pointer none)) t5 (.pointer none)) fun t6 =>
 C3 t6 (
 A6 PR (convert 185 83 t0) fun t9 =>
 B1 PR X 185 [t9] fun t10 =>
 A6 PR (convert 83 185 t10) fun t11 =>
 A0 PR (E2 t0) fun t12 =>
 A0 PR (Instr.fieldAt 187 t12 0) fun t13 =>
 B9 PR X (Instr.storeAt 185 t13 t11) <|
 R (.tuple #[])) (
 A0 PR (E2 t0) fun t15 =>
 A0 PR (Instr.fieldAt 187 t15 0) fun t16 =>
 A6 PR (Instr.loadAt 185 t16) fun t17 =>
 A6 PR (J9 .neq 185 (.tmp 17) (.tmp 18) t17 t0) fun t19 =>
 C3 t19 (
 E6) (
 R (.tuple #[])))
theorem A0U : A9 PR 139 := A7 Tryz.func139 (by kernel_rfl) rfl
theorem A0l {X : Nat → Prop} {t0 : Value} {R : Value → WP} {w : World} (h : e6 X t0 R w) : Fn PR X 139 #[t0] w R := C9 (args := [t0]) mixed Tryz.func139 (by kernel_rfl) h
def Z3 (X : Nat → Prop) (t0 : Value) (R : Value → WP) : WP :=
 B1 PR X 202 [(.slice none 0 0), t0] fun t4 =>
 R t4
theorem y3 : A9 PR 157 := A7 Tryz.func157 (by kernel_rfl) rfl
theorem y6 {X : Nat → Prop} {t0 : Value} {R : Value → WP} {w : World} (h : Z3 X t0 R w) : Fn PR X 157 #[t0] w R := C9 (args := [t0]) mixed Tryz.func157 (by kernel_rfl) h
theorem Z5 : A9 PR 158 := A7 Tryz.func158 (by kernel_rfl) rfl
def A5p (X : Nat → Prop) (t0 : Value) (R : Value → WP) : WP :=
 jn (n := 2) (fun t2 t8 =>
 R (.int .i64 0)) fun J1 =>
 A0 PR (A8 .len #[34] 0 [t0]) fun t7 =>
 lp (n := 2) (fun L2 t2_1 t8_1 =>
 A0 PR (binOp .lss 3 t8_1 t7) fun t9 =>
 jn (n := 0) (
 jn (n := 1) (fun t2_2 =>
 A0 PR (binOp .add 3 t8_1 (.int .i64 1)) fun t16 =>
 L2 t2_2 t16) fun J3 =>
 A0 PR (Instr.indexAt 34 t0 t8_1) fun t10 =>
 A6 PR (Instr.loadAt 3 t10) fun t11 =>
 A0 PR (binOp .neq 3 t11 (.int .i64 0)) fun t14 =>
 C3 t14 (
 R t11) (
 J3 t2_1)) fun J4 =>
 C3 t9 (
 J4) (
 J1 t2_1 t8_1)) (.int .i64 0) (.int .i64 0)
theorem B0L : A9 PR 161 := A7 Tryz.func161 (by kernel_rfl) rfl
theorem B2A {X : Nat → Prop} {t0 : Value} {R : Value → WP} {w : World} (h : A5p X t0 R w) : Fn PR X 161 #[t0] w R := C9 (args := [t0]) mixed Tryz.func161 (by kernel_rfl) h
theorem B2T {X : Nat → Prop} {t0 : Value} {K : Value → WP} {w : World} (h : Fn PR X 161 #[t0] w K) : B1 PR X 161 [t0] K w := Or.inl ⟨B0L, h⟩
def x8 (X : Nat → Prop) (t0 t1 : Value) (R : Value → WP) : WP :=
 B1 PR X 205 [t0] fun t8 =>
 B1 PR X 205 [t1] fun t10 =>
 jn (n := 1) (fun t4 =>
 jn (n := 1) (fun t4_1 =>
 jn (n := 1) (fun t4_2 =>
 jn (n := 1) (fun t4_3 =>
 R (.int .i64 0)) fun J1 =>
 A0 PR (binOp .gtr 129 t0 t1) fun t19 =>
 C3 t19 (
 R (.int .i64 1)) (
 J1 t4_2)) fun J2 =>
 A0 PR (binOp .lss 129 t0 t1) fun t16 =>
 C3 t16 (
 R (.int .i64 (-1))) (
 J2 t4_1)) fun J3 =>
 C3 t10 (
 R (.int .i64 1)) (
 J3 t4)) fun J4 =>
 C3 t8 (
 jn (n := 1) (fun t4_4 =>
 R (.int .i64 (-1))) fun J5 =>
 C3 t10 (
 R (.int .i64 0)) (
 J5 (.int .i64 0))) (
 J4 (.int .i64 0))
theorem A3x : A9 PR 162 := A7 Tryz.func162 (by kernel_rfl) rfl
theorem A39 {X : Nat → Prop} {t0 t1 : Value} {R : Value → WP} {w : World} (h : x8 X t0 t1 R w) : Fn PR X 162 #[t0, t1] w R := C9 (args := [t0, t1]) mixed Tryz.func162 (by kernel_rfl) h
theorem A5P {X : Nat → Prop} {t0 t1 : Value} {K : Value → WP} {w : World} (h : Fn PR X 162 #[t0, t1] w K) : B1 PR X 162 [t0, t1] K w := Or.inl ⟨A3x, h⟩
def W1 (X : Nat → Prop) (t0 t1 : Value) (R : Value → WP) : WP :=
 jn (n := 2) (fun t4 t8 =>
 R (.int .i64 (-1))) fun J1 =>
 A0 PR (A8 .len #[229] 0 [t0]) fun t7 =>
 lp (n := 2) (fun L2 t4_1 t8_1 =>
 A0 PR (binOp .lss 3 t8_1 t7) fun t9 =>
 jn (n := 0) (
 jn (n := 1) (fun t4_2 =>
 A0 PR (binOp .add 3 t8_1 (.int .i64 1)) fun t18 =>
 L2 t4_2 t18) fun J3 =>
 A0 PR (Instr.indexAt 229 t0 t8_1) fun t14 =>
 A6 PR (Instr.loadAt 153 t14) fun t15 =>
 H9 PR X t1 [t15] fun t16 =>
 C3 t16 (
 R t8_1) (
 J3 t4_1)) fun J4 =>
 C3 t9 (
 J4) (
 J1 t4_1 t8_1)) (.int .i64 0) (.int .i64 0)
theorem u5 : A9 PR 170 := A7 Tryz.func170 (by kernel_rfl) rfl
theorem y5 {X : Nat → Prop} {t0 t1 : Value} {R : Value → WP} {w : World} (h : W1 X t0 t1 R w) : Fn PR X 170 #[t0, t1] w R := C9 (args := [t0, t1]) mixed Tryz.func170 (by kernel_rfl) h
def N2 (X : Nat → Prop) (t0 t1 : Value) (R : Value → WP) : WP :=
 B2 PR X (Instr.box 208 t0) fun t2 =>
 jn (n := 0) (
 A6 PR (Instr.loadAt 208 t2) fun t12 =>
 V8 (R t12)) fun J1 =>
 rng (N := 1) PR X (fun t7 K2 =>
 B2 PR (fun _ => False) (Instr.alloc 211 true (.tuple #[])) fun t5 =>
 B9 PR (fun _ => False) (Instr.storeAt 211 t5 t7) <|
 bgn <|
 A6 PR (Instr.loadAt 208 t2) fun t8 =>
 A6 PR (Instr.loadAt 211 t5) fun t9 =>
 B2 PR (fun _ => False) (Instr.buildSlice 208 1 #[(0, t9)]) fun t10 =>
 B2 PR (fun _ => False) (A8 .append #[208, 208] 208 [t8, t10]) fun t11 =>
 B9 PR (fun _ => False) (Instr.storeAt 208 t2 t11) <|
 K2 none) t1 (fun j => match j with | none => (J1) | some (.exit i) => (match Nat.beq i 0 with | true => (J1) | false => (E6)) | some .ret => (V8 (R (.slice none 0 0))) | some _ => E6)
theorem W6 : A9 PR 202 := A7 Tryz.func202 (by kernel_rfl) rfl
theorem Z2 {X : Nat → Prop} {t0 t1 : Value} {R : Value → WP} {w : World} (h : N2 X t0 t1 R w) : Fn PR X 202 #[t0, t1] w R := C9 (args := [t0, t1]) mixed Tryz.func202 (by kernel_rfl) h
def A0Y (X : Nat → Prop) (t0 : Value) (R : Value → WP) : WP :=
 A0 PR (binOp .neq 129 t0 t0) fun t5 =>
 R t5
theorem A46 : A9 PR 205 := A7 Tryz.func205 (by kernel_rfl) rfl
theorem A6B {X : Nat → Prop} {t0 : Value} {R : Value → WP} {w : World} (h : A0Y X t0 R w) : Fn PR X 205 #[t0] w R := C9 (args := [t0]) mixed Tryz.func205 (by kernel_rfl) h
theorem A05 {X : Nat → Prop} {t0 : Value} {K : Value → WP} {w : World} (h : Fn PR X 205 #[t0] w K) : B1 PR X 205 [t0] K w := Or.inl ⟨A46, h⟩
def N6 (X : Nat → Prop) (t0 t1 : Value) (R : Value → WP) : WP :=
 jn (n := 2) (fun t4 t8 =>
 R (.int .i64 (-1))) fun J1 =>
 A0 PR (A8 .len #[32] 0 [t0]) fun t7 =>
 lp (n := 2) (fun L2 t4_1 t8_1 =>
 A0 PR (binOp .lss 3 t8_1 t7) fun t9 =>
 jn (n := 0) (
 jn (n := 1) (fun t4_2 =>
 A0 PR (binOp .add 3 t8_1 (.int .i64 1)) fun t18 =>
 L2 t4_2 t18) fun J3 =>
 A0 PR (Instr.indexAt 32 t0 t8_1) fun t14 =>
 A6 PR (Instr.loadAt 75 t14) fun t15 =>
 H9 PR X t1 [t15] fun t16 =>
 C3 t16 (
 R t8_1) (
 J3 t4_1)) fun J4 =>
 C3 t9 (
 J4) (
 J1 t4_1 t8_1)) (.int .i64 0) (.int .i64 0)
theorem Z9 : A9 PR 222 := A7 Tryz.func222 (by kernel_rfl) rfl
theorem d3 {X : Nat → Prop} {t0 t1 : Value} {R : Value → WP} {w : World} (h : N6 X t0 t1 R w) : Fn PR X 222 #[t0, t1] w R := C9 (args := [t0, t1]) mixed Tryz.func222 (by kernel_rfl) h
def A4Z (X : Nat → Prop) (t0 t1 : Value) (R : Value → WP) : WP :=
 jn (n := 2) (fun t5 t6 =>
 R t5) fun J1 =>
 lp (n := 2) (fun L2 t5_1 t6_1 =>
 jn (n := 0) (
 A0 PR (binOp .add 3 t5_1 t6_1) fun t14 =>
 A0 PR (convert 3 130 t14) fun t15 =>
 A0 PR (binOp .shr 130 t15 (.int .u64 1)) fun t16 =>
 A0 PR (convert 130 3 t16) fun t17 =>
 H9 PR X t1 [t17] fun t20 =>
 A0 PR (Op.unary .not t20) fun t21 =>
 C3 t21 (
 A0 PR (binOp .add 3 t17 (.int .i64 1)) fun t23 =>
 L2 t23 t6_1) (
 L2 t5_1 t17)) fun J3 =>
 A0 PR (binOp .lss 3 t5_1 t6_1) fun t11 =>
 C3 t11 (
 J3) (
 J1 t5_1 t6_1)) (.int .i64 0) t0
theorem A85 : A9 PR 224 := A7 Tryz.func224 (by kernel_rfl) rfl
theorem B0U {X : Nat → Prop} {t0 t1 : Value} {R : Value → WP} {w : World} (h : A4Z X t0 t1 R w) : Fn PR X 224 #[t0, t1] w R := C9 (args := [t0, t1]) mixed Tryz.func224 (by kernel_rfl) h
theorem A03 : A9 PR 267 := A7 Tryz.func267 (by kernel_rfl) rfl
end Go.Proofs.YtpbmephflllolaaGreat
namespace Go.Proofs.YtpbmephflllolaaGreat
open Go
def A7J (X : Nat → Prop) (t0 t1 : Value) (R : Value → WP) : WP :=
 B2 PR X (Instr.box 129 t0) fun t2 =>
 jn (n := 1) (fun t4 =>
 B2 PR X (Instr.makeSlice 127 t1 t1) fun t15 =>
 B2 PR X (Instr.alloc 127 true (.tuple #[])) fun t5 =>
 B9 PR X (Instr.storeAt 127 t5 t15) <|
 jn (n := 0) (
 A6 PR (Instr.loadAt 127 t5) fun t27 =>
 A6 PR (convert 127 9 t27) fun t28 =>
 V8 (R t28)) fun J1 =>
 B1 PR X 99 [t1] fun t17 =>
 rng (N := 2) PR X (fun t18 t19 K2 =>
 bgn <|
 A6 PR (Instr.loadAt 127 t5) fun t20 =>
 A6 PR (Instr.loadAt 129 t2) fun t22 =>
 A0 PR (binOp .shr 129 t22 t19) fun t24 =>
 A0 PR (convert 129 5 t24) fun t25 =>
 A0 PR (Instr.indexAt 127 t20 t18) fun t26 =>
 B9 PR (fun _ => False) (Instr.storeAt 5 t26 t25) <|
 K2 none) t17 (fun j => match j with | none => (J1) | some (.exit i) => (match Nat.beq i 0 with | true => (J1) | false => (E6)) | some .ret => (V8 (R t4)) | some _ => E6)) fun J3 =>
 A0 PR (binOp .lss 3 t1 (.int .i64 1)) fun t9 =>
 gj t9 false (fun J => J t1) fun t11 =>
 gj t9 false (fun J => A0 PR (binOp .gtr 3 t11 (.int .i64 8)) J) fun t12 =>
 A0 PR (do pure (if ← asBool t9 then (.bool true) else t12)) fun t13 =>
 C3 t13 (
 V8 (R (.string (ByteArray.mk #[])))) (
 J3 (.string (ByteArray.mk #[])))
theorem G0 : A9 PR 55 := A7 Tryz.func55 (by kernel_rfl) rfl
theorem B3u {X : Nat → Prop} {t0 t1 : Value} {R : Value → WP} {w : World} (h : A7J X t0 t1 R w) : Fn PR X 55 #[t0, t1] w R := C9 (args := [t0, t1]) mixed Tryz.func55 (by kernel_rfl) h
def A4Y (X : Nat → Prop) (t0 : Value) (R : Value → WP) : WP :=
 B2 PR X (Instr.box 3 t0) fun t1 =>
 A0 PR (Instr.makeFunc (.func 141) #[] #[t1]) fun t3 =>
 R t3
theorem A3Y : A9 PR 99 := A7 Tryz.func99 (by kernel_rfl) rfl
theorem B0n {X : Nat → Prop} {t0 : Value} {R : Value → WP} {w : World} (h : A4Y X t0 R w) : Fn PR X 99 #[t0] w R := C9 (args := [t0]) mixed Tryz.func99 (by kernel_rfl) h
def A1v (X : Nat → Prop) (t0 t1 : Value) (R : Value → WP) : WP :=
 A6 PR (Instr.loadAt 3 t1) fun t4 =>
 lp (n := 1) (fun L1 t5 =>
 A0 PR (binOp .lss 3 t5 t4) fun t6 =>
 jn (n := 0) (
 jn (n := 0) (
 A0 PR (binOp .add 3 t5 (.int .i64 1)) fun t18 =>
 L1 t18) fun J2 =>
 A6 PR (Instr.loadAt 3 t1) fun t10 =>
 A0 PR (binOp .sub 3 t10 (.int .i64 1)) fun t11 =>
 A0 PR (binOp .sub 3 t11 t5) fun t13 =>
 A0 PR (binOp .mul 3 (.int .i64 8) t13) fun t14 =>
 A0 PR (convert 3 130 t14) fun t15 =>
 H9 PR X t0 [t5, t15] fun t16 =>
 A0 PR (Op.unary .not t16) fun t17 =>
 C3 t17 (
 R (.tuple #[])) (
 J2)) fun J3 =>
 C3 t6 (
 J3) (
 R (.tuple #[]))) (.int .i64 0)
theorem A64 : A9 PR 141 := A7 Tryz.func141 (by kernel_rfl) rfl
theorem A7u {X : Nat → Prop} {t0 t1 : Value} {R : Value → WP} {w : World} (h : A1v X t0 t1 R w) : Fn PR X 141 #[t0, t1] w R := C9 (args := [t0, t1]) mixed Tryz.func141 (by kernel_rfl) h
theorem A7d {X : Nat → Prop} {t0 t1 : Value} {K : Value → WP} {w : World} (h : Fn PR X 141 #[t0, t1] w K) : w7 PR X 141 [t0, t1] K w := ⟨A64, h⟩
def A7D (X : Nat → Prop) (t0 t1 t2 : Value) (R : Value → WP) : WP :=
 B2 PR X (Instr.box 9 t0) fun t3 =>
 B2 PR X (Instr.box 3 t1) fun t4 =>
 jn (n := 2) (fun t6 t7 =>
 B2 PR X (Instr.alloc 129 true (.tuple #[])) fun t8 =>
 jn (n := 0) (
 A6 PR (Instr.loadAt 129 t8) fun t43 =>
 V8 (R (.tuple #[t43, (.bool true)]))) fun J1 =>
 B1 PR X 99 [t2] fun t30 =>
 rng (N := 2) PR X (fun t31 t32 K2 =>
 bgn <|
 drw <|
 A6 PR (Instr.loadAt 129 t8) fun t33 =>
 A6 PR (Instr.loadAt 9 t3) fun t34 =>
 A6 PR (Instr.loadAt 3 t4) fun t35 =>
 A0 PR (binOp .add 3 t35 t31) fun t37 =>
 A0 PR (Instr.index 9 t34 t37) fun t38 =>
 A0 PR (convert 5 129 t38) fun t39 =>
 A0 PR (binOp .shl 129 t39 t32) fun t41 =>
 A0 PR (binOp .or 129 t33 t41) fun t42 =>
 B9 PR (fun _ => False) (Instr.storeAt 129 t8 t42) <|
 K2 none) t30 (fun j => match j with | none => (J1) | some (.exit i) => (match Nat.beq i 0 with | true => (J1) | false => (E6)) | some .ret => (V8 (R (.tuple #[t6, t7]))) | some _ => E6)) fun J3 =>
 A0 PR (binOp .lss 3 t2 (.int .i64 1)) fun t12 =>
 gj t12 false (fun J => J t2) fun t14 =>
 gj t12 false (fun J => A0 PR (binOp .gtr 3 t14 (.int .i64 8)) J) fun t15 =>
 A0 PR (do pure (if ← asBool t12 then (.bool true) else t15)) fun t16 =>
 gj t16 false (fun J => A6 PR (Instr.loadAt 3 t4) J) fun t18 =>
 gj t16 false (fun J => A0 PR (binOp .lss 3 t18 (.int .i64 0)) J) fun t19 =>
 A0 PR (do pure (if ← asBool t16 then (.bool true) else t19)) fun t20 =>
 gj t20 false (fun J => A6 PR (Instr.loadAt 3 t4) J) fun t22 =>
 gj t20 false (fun J => A6 PR (Instr.loadAt 9 t3) J) fun t23 =>
 gj t20 false (fun J => A0 PR (A8 .len #[9] 0 [t23]) J) fun t24 =>
 gj t20 false (fun J => J t2) fun t25 =>
 gj t20 false (fun J => A0 PR (binOp .sub 3 t24 t25) J) fun t26 =>
 gj t20 false (fun J => A0 PR (binOp .gtr 3 t22 t26) J) fun t27 =>
 A0 PR (do pure (if ← asBool t20 then (.bool true) else t27)) fun t28 =>
 C3 t28 (
 V8 (R (.tuple #[(.int .u64 0), (.bool false)]))) (
 J3 (.int .u64 0) (.bool false))
theorem P7 : A9 PR 148 := A7 Tryz.func148 (by kernel_rfl) rfl
theorem B3C {X : Nat → Prop} {t0 t1 t2 : Value} {R : Value → WP} {w : World} (h : A7D X t0 t1 t2 R w) : Fn PR X 148 #[t0, t1, t2] w R := C9 (args := [t0, t1, t2]) mixed Tryz.func148 (by kernel_rfl) h
end Go.Proofs.YtpbmephflllolaaGreat
namespace Go.Proofs.YtpbmephflllolaaGreat
open Go
theorem A5Q : TI PR 119 Tryz.t118.desc 3 24 (.agg #[(.int .i64 0), (.int .i64 0), (.int .i64 0)]) := ⟨Tryz.underlying119, Tryz.t119, by kernel_rfl, rfl, rfl, rfl⟩
theorem A7b : TI PR 122 Tryz.t121.desc 3 40 (.agg #[(.string (ByteArray.mk #[])), (.string (ByteArray.mk #[])), (.int .i64 0)]) := ⟨Tryz.underlying122, Tryz.t122, by kernel_rfl, rfl, rfl, rfl⟩
theorem A7P : TI PR 124 Tryz.t121.desc 3 40 (.agg #[(.string (ByteArray.mk #[])), (.string (ByteArray.mk #[])), (.int .i64 0)]) := ⟨Tryz.underlying124, Tryz.t124, by kernel_rfl, rfl, rfl, rfl⟩
theorem B5r : TI PR 126 Tryz.t126.desc 38 38 (.agg #[(.int .u8 0), (.int .u8 0), (.int .u8 0), (.int .u8 0), (.int .u8 0), (.int .u8 0), (.int .u8 0), (.int .u8 0), (.int .u8 0), (.int .u8 0), (.int .u8 0), (.int .u8 0), (.int .u8 0), (.int .u8 0), (.int .u8 0), (.int .u8 0), (.int .u8 0), (.int .u8 0), (.int .u8 0), (.int .u8 0), (.int .u8 0), (.int .u8 0), (.int .u8 0), (.int .u8 0), (.int .u8 0), (.int .u8 0), (.int .u8 0), (.int .u8 0), (.int .u8 0), (.int .u8 0), (.int .u8 0), (.int .u8 0), (.int .u8 0), (.int .u8 0), (.int .u8 0), (.int .u8 0), (.int .u8 0), (.int .u8 0)]) := ⟨Tryz.underlying126, Tryz.t126, by kernel_rfl, rfl, rfl, rfl⟩
theorem A17 : TI PR 127 Tryz.t127.desc 1 24 (.slice none 0 0) := ⟨Tryz.underlying127, Tryz.t127, by kernel_rfl, rfl, rfl, rfl⟩
theorem A3J : TI PR 129 Tryz.t129.desc 1 8 (.int .u64 0) := ⟨Tryz.underlying129, Tryz.t129, by kernel_rfl, rfl, rfl, rfl⟩
theorem B6Q : TI PR 144 Tryz.t144.desc 4 32 (.agg #[.nilFunc, .nilFunc, .nilFunc, .nilFunc]) := ⟨Tryz.underlying144, Tryz.t144, by kernel_rfl, rfl, rfl, rfl⟩
theorem C4D : TI PR 149 Tryz.t149.desc 1 8 .nilFunc := ⟨Tryz.underlying149, Tryz.t149, by kernel_rfl, rfl, rfl, rfl⟩
theorem A0y : TI PR 160 Tryz.t159.desc 4 40 (.agg #[(.int .i64 0), (.string (ByteArray.mk #[])), (.int .i64 0), (.int .i64 0)]) := ⟨Tryz.underlying160, Tryz.t160, by kernel_rfl, rfl, rfl, rfl⟩
theorem B6C : TI PR 176 Tryz.t94.desc 1 24 (.slice none 0 0) := ⟨Tryz.underlying176, Tryz.t176, by kernel_rfl, rfl, rfl, rfl⟩
theorem A7Z : TI PR 187 Tryz.t186.desc 2 32 (.agg #[(.pointer none), (.slice none 0 0)]) := ⟨Tryz.underlying187, Tryz.t187, by kernel_rfl, rfl, rfl, rfl⟩
theorem C0d : TI PR 189 Tryz.t188.desc 2 32 (.agg #[(.pointer none), (.slice none 0 0)]) := ⟨Tryz.underlying189, Tryz.t189, by kernel_rfl, rfl, rfl, rfl⟩
theorem A4y : TI PR 211 Tryz.t210.desc 2 16 (.agg #[(.int .u64 0), (.int .i64 0)]) := ⟨Tryz.underlying211, Tryz.t211, by kernel_rfl, rfl, rfl, rfl⟩
theorem C3T : TI PR 218 Tryz.t218.desc 1 8 .nilFunc := ⟨Tryz.underlying218, Tryz.t218, by kernel_rfl, rfl, rfl, rfl⟩
theorem A8c : TI PR 28 Tryz.t3.desc 1 8 (.int .i64 0) := ⟨Tryz.underlying28, Tryz.t28, by kernel_rfl, rfl, rfl, rfl⟩
theorem A7Q : TI PR 296 Tryz.t295.desc 2 16 (.agg #[.nilFunc, (.int .i64 0)]) := ⟨Tryz.underlying296, Tryz.t296, by kernel_rfl, rfl, rfl, rfl⟩
theorem H3 : TI PR 3 Tryz.t3.desc 1 8 (.int .i64 0) := ⟨Tryz.underlying3, Tryz.t3, by kernel_rfl, rfl, rfl, rfl⟩
theorem C4g : TI PR 300 Tryz.t300.desc 1 8 .nilFunc := ⟨Tryz.underlying300, Tryz.t300, by kernel_rfl, rfl, rfl, rfl⟩
theorem C0Y : TI PR 302 Tryz.t129.desc 1 8 (.int .u64 0) := ⟨Tryz.underlying302, Tryz.t302, by kernel_rfl, rfl, rfl, rfl⟩
theorem A2H : TI PR 39 Tryz.t38.desc 4 32 (.agg #[(.int .i64 0), (.int .i64 0), (.bool false), (.int .i64 0)]) := ⟨Tryz.underlying39, Tryz.t39, by kernel_rfl, rfl, rfl, rfl⟩
theorem A3v : TI PR 42 Tryz.t41.desc 4 56 (.agg #[(.int .i64 0), (.string (ByteArray.mk #[])), (.slice none 0 0), (.int .i64 0)]) := ⟨Tryz.underlying42, Tryz.t42, by kernel_rfl, rfl, rfl, rfl⟩
theorem B6j : TI PR 48 Tryz.t48.desc 1 24 (.slice none 0 0) := ⟨Tryz.underlying48, Tryz.t48, by kernel_rfl, rfl, rfl, rfl⟩
theorem A2s : TI PR 56 Tryz.t55.desc 6 64 (.agg #[(.int .i64 0), (.string (ByteArray.mk #[])), (.string (ByteArray.mk #[])), (.int .i64 0), (.int .i64 0), (.int .i64 0)]) := ⟨Tryz.underlying56, Tryz.t56, by kernel_rfl, rfl, rfl, rfl⟩
theorem B0f : TI PR 58 Tryz.t57.desc 7 72 (.agg #[(.int .i64 0), (.string (ByteArray.mk #[])), (.string (ByteArray.mk #[])), (.int .i64 0), (.int .i64 0), (.int .i64 0), (.int .i64 0)]) := ⟨Tryz.underlying58, Tryz.t58, by kernel_rfl, rfl, rfl, rfl⟩
theorem A6K : TI PR 75 Tryz.t74.desc 2 16 (.agg #[(.int .i64 0), (.int .i64 0)]) := ⟨Tryz.underlying75, Tryz.t75, by kernel_rfl, rfl, rfl, rfl⟩
theorem A8Z : TI PR 94 Tryz.t94.desc 1 24 (.slice none 0 0) := ⟨Tryz.underlying94, Tryz.t94, by kernel_rfl, rfl, rfl, rfl⟩
theorem B2H : TI PR 208 Tryz.t208.desc 1 24 (.slice none 0 0) := ⟨Tryz.underlying208, Tryz.t208, by kernel_rfl, rfl, rfl, rfl⟩
theorem A7E : TI PR 32 Tryz.t32.desc 1 24 (.slice none 0 0) := ⟨Tryz.underlying32, Tryz.t32, by kernel_rfl, rfl, rfl, rfl⟩
theorem B6U : TI PR 34 Tryz.t34.desc 1 24 (.slice none 0 0) := ⟨Tryz.underlying34, Tryz.t34, by kernel_rfl, rfl, rfl, rfl⟩
theorem ty9 : TI PR 9 Tryz.t9.desc 1 16 (.string (ByteArray.mk #[])) := ⟨Tryz.underlying9, Tryz.t9, by kernel_rfl, rfl, rfl, rfl⟩
theorem B9S : TI PR 76 Tryz.t76.desc 1 24 (.slice none 0 0) := ⟨Tryz.underlying76, Tryz.t76, by kernel_rfl, rfl, rfl, rfl⟩
theorem B3F : TI PR 86 Tryz.t86.desc 1 24 (.slice none 0 0) := ⟨Tryz.underlying86, Tryz.t86, by kernel_rfl, rfl, rfl, rfl⟩
theorem B9A : TI PR 93 Tryz.t93.desc 1 8 (.pointer none) := ⟨Tryz.underlying93, Tryz.t93, by kernel_rfl, rfl, rfl, rfl⟩
theorem B9H : TI PR 90 Tryz.t90.desc 1 24 (.slice none 0 0) := ⟨Tryz.underlying90, Tryz.t90, by kernel_rfl, rfl, rfl, rfl⟩
theorem B2E : TI PR 217 Tryz.t210.desc 2 16 (.agg #[(.int .u64 0), (.int .i64 0)]) := ⟨Tryz.underlying217, Tryz.t217, by kernel_rfl, rfl, rfl, rfl⟩
theorem B2Q : TI PR 103 Tryz.t102.desc 4 40 (.agg #[(.int .i32 0), (.int .u32 0), (.slice none 0 0), (.int .i64 0)]) := ⟨Tryz.underlying103, Tryz.t103, by kernel_rfl, rfl, rfl, rfl⟩
@[simp] theorem C4a {v0 : Value} (h0 : v0.cells.size = 1) (K : Value → WP) : A0 PR (Instr.build 103 #[(1, v0)]) K = K (.agg (F1 #[(.int .i32 0), (.int .u32 0), (.slice none 0 0), (.int .i64 0)] 2 v0.cells.toList)) := F6 (pl := #[(0, 2), (2, 1), (3, 1)]) B2Q (fun w => by kernel_rfl) (by rw [B7 rfl h0 (by simp [C0])]; rfl)
@[simp] theorem C6M  (K : Value → WP) : A0 PR (Instr.build 119 #[]) K = K (.agg #[(.int .i64 0), (.int .i64 0), (.int .i64 0)]) := F6 (pl := #[(0, 1), (1, 1), (2, 1)]) A5Q (fun w => by kernel_rfl) rfl
@[simp] theorem C2r {v0 v1 : Value} (h0 : v0.cells.size = 1) (h1 : v1.cells.size = 1) (K : Value → WP) : A0 PR (Instr.build 119 #[(0, v0), (1, v1)]) K = K (.agg (F1 (F1 #[(.int .i64 0), (.int .i64 0), (.int .i64 0)] 0 v0.cells.toList) 1 v1.cells.toList)) := F6 (pl := #[(0, 1), (1, 1), (2, 1)]) A5Q (fun w => by kernel_rfl) (by rw [B7 rfl h0 (by simp [C0]), B7 rfl h1 (by simp [C0])]; rfl)
@[simp] theorem C0y {v0 v1 v2 : Value} (h0 : v0.cells.size = 1) (h1 : v1.cells.size = 1) (h2 : v2.cells.size = 1) (K : Value → WP) : A0 PR (Instr.build 119 #[(0, v0), (1, v1), (2, v2)]) K = K (.agg (F1 (F1 (F1 #[(.int .i64 0), (.int .i64 0), (.int .i64 0)] 0 v0.cells.toList) 1 v1.cells.toList) 2 v2.cells.toList)) := F6 (pl := #[(0, 1), (1, 1), (2, 1)]) A5Q (fun w => by kernel_rfl) (by rw [B7 rfl h0 (by simp [C0]), B7 rfl h1 (by simp [C0]), B7 rfl h2 (by simp [C0])]; rfl)
@[simp] theorem C58  (K : Value → WP) : A0 PR (Instr.build 122 #[]) K = K (.agg #[(.string (ByteArray.mk #[])), (.string (ByteArray.mk #[])), (.int .i64 0)]) := F6 (pl := #[(0, 1), (1, 1), (2, 1)]) A7b (fun w => by kernel_rfl) rfl
@[simp] theorem C05 {v0 v1 v2 : Value} (h0 : v0.cells.size = 1) (h1 : v1.cells.size = 1) (h2 : v2.cells.size = 1) (K : Value → WP) : A0 PR (Instr.build 122 #[(0, v0), (1, v1), (2, v2)]) K = K (.agg (F1 (F1 (F1 #[(.string (ByteArray.mk #[])), (.string (ByteArray.mk #[])), (.int .i64 0)] 0 v0.cells.toList) 1 v1.cells.toList) 2 v2.cells.toList)) := F6 (pl := #[(0, 1), (1, 1), (2, 1)]) A7b (fun w => by kernel_rfl) (by rw [B7 rfl h0 (by simp [C0]), B7 rfl h1 (by simp [C0]), B7 rfl h2 (by simp [C0])]; rfl)
@[simp] theorem C5w  (K : Value → WP) : A0 PR (Instr.build 124 #[]) K = K (.agg #[(.string (ByteArray.mk #[])), (.string (ByteArray.mk #[])), (.int .i64 0)]) := F6 (pl := #[(0, 1), (1, 1), (2, 1)]) A7P (fun w => by kernel_rfl) rfl
@[simp] theorem C1U {v0 v1 v2 : Value} (h0 : v0.cells.size = 1) (h1 : v1.cells.size = 1) (h2 : v2.cells.size = 1) (K : Value → WP) : A0 PR (Instr.build 124 #[(0, v0), (1, v1), (2, v2)]) K = K (.agg (F1 (F1 (F1 #[(.string (ByteArray.mk #[])), (.string (ByteArray.mk #[])), (.int .i64 0)] 0 v0.cells.toList) 1 v1.cells.toList) 2 v2.cells.toList)) := F6 (pl := #[(0, 1), (1, 1), (2, 1)]) A7P (fun w => by kernel_rfl) (by rw [B7 rfl h0 (by simp [C0]), B7 rfl h1 (by simp [C0]), B7 rfl h2 (by simp [C0])]; rfl)
theorem B2P : TI PR 137 Tryz.t136.desc 7 88 (.agg #[(.int .i64 0), (.int .i64 0), (.int .i64 0), (.int .i64 0), (.int .i64 0), (.slice none 0 0), (.slice none 0 0)]) := ⟨Tryz.underlying137, Tryz.t137, by kernel_rfl, rfl, rfl, rfl⟩
@[simp] theorem C24 {v0 v1 : Value} (h0 : v0.cells.size = 5) (h1 : v1.cells.size = 1) (K : Value → WP) : A0 PR (Instr.build 137 #[(0, v0), (2, v1)]) K = K (.agg (F1 (F1 #[(.int .i64 0), (.int .i64 0), (.int .i64 0), (.int .i64 0), (.int .i64 0), (.slice none 0 0), (.slice none 0 0)] 0 v0.cells.toList) 6 v1.cells.toList)) := F6 (pl := #[(0, 5), (5, 1), (6, 1)]) B2P (fun w => by kernel_rfl) (by rw [B7 rfl h0 (by simp [C0]), B7 rfl h1 (by simp [C0])]; rfl)
theorem A9v : TI PR 153 Tryz.t153.desc 2 16 (.agg #[(.int .i64 0), (.int .i64 0)]) := ⟨Tryz.underlying153, Tryz.t153, by kernel_rfl, rfl, rfl, rfl⟩
@[simp] theorem B8w {v0 v1 v2 v3 : Value} (h0 : v0.cells.size = 1) (h1 : v1.cells.size = 1) (h2 : v2.cells.size = 1) (h3 : v3.cells.size = 1) (K : Value → WP) : A0 PR (Instr.build 160 #[(0, v0), (1, v1), (2, v2), (3, v3)]) K = K (.agg (F1 (F1 (F1 (F1 #[(.int .i64 0), (.string (ByteArray.mk #[])), (.int .i64 0), (.int .i64 0)] 0 v0.cells.toList) 1 v1.cells.toList) 2 v2.cells.toList) 3 v3.cells.toList)) := F6 (pl := #[(0, 1), (1, 1), (2, 1), (3, 1)]) A0y (fun w => by kernel_rfl) (by rw [B7 rfl h0 (by simp [C0]), B7 rfl h1 (by simp [C0]), B7 rfl h2 (by simp [C0]), B7 rfl h3 (by simp [C0])]; rfl)
@[simp] theorem C4G {v0 : Value} (h0 : v0.cells.size = 1) (K : Value → WP) : A0 PR (Instr.build 160 #[(0, v0)]) K = K (.agg (F1 #[(.int .i64 0), (.string (ByteArray.mk #[])), (.int .i64 0), (.int .i64 0)] 0 v0.cells.toList)) := F6 (pl := #[(0, 1), (1, 1), (2, 1), (3, 1)]) A0y (fun w => by kernel_rfl) (by rw [B7 rfl h0 (by simp [C0])]; rfl)
@[simp] theorem C2Z {v0 v1 : Value} (h0 : v0.cells.size = 1) (h1 : v1.cells.size = 1) (K : Value → WP) : A0 PR (Instr.build 211 #[(0, v0), (1, v1)]) K = K (.agg (F1 (F1 #[(.int .u64 0), (.int .i64 0)] 0 v0.cells.toList) 1 v1.cells.toList)) := F6 (pl := #[(0, 1), (1, 1)]) A4y (fun w => by kernel_rfl) (by rw [B7 rfl h0 (by simp [C0]), B7 rfl h1 (by simp [C0])]; rfl)
theorem A1e : TI PR 23 Tryz.t22.desc 5 40 (.agg #[(.int .i64 0), (.int .i64 0), (.int .i64 0), (.int .i64 0), (.int .i64 0)]) := ⟨Tryz.underlying23, Tryz.t23, by kernel_rfl, rfl, rfl, rfl⟩
@[simp] theorem C6w  (K : Value → WP) : A0 PR (Instr.build 23 #[]) K = K (.agg #[(.int .i64 0), (.int .i64 0), (.int .i64 0), (.int .i64 0), (.int .i64 0)]) := F6 (pl := #[(0, 1), (1, 1), (2, 1), (3, 1), (4, 1)]) A1e (fun w => by kernel_rfl) rfl
@[simp] theorem B8g {v0 v1 v2 v3 v4 : Value} (h0 : v0.cells.size = 1) (h1 : v1.cells.size = 1) (h2 : v2.cells.size = 1) (h3 : v3.cells.size = 1) (h4 : v4.cells.size = 1) (K : Value → WP) : A0 PR (Instr.build 23 #[(0, v0), (1, v1), (2, v2), (3, v3), (4, v4)]) K = K (.agg (F1 (F1 (F1 (F1 (F1 #[(.int .i64 0), (.int .i64 0), (.int .i64 0), (.int .i64 0), (.int .i64 0)] 0 v0.cells.toList) 1 v1.cells.toList) 2 v2.cells.toList) 3 v3.cells.toList) 4 v4.cells.toList)) := F6 (pl := #[(0, 1), (1, 1), (2, 1), (3, 1), (4, 1)]) A1e (fun w => by kernel_rfl) (by rw [B7 rfl h0 (by simp [C0]), B7 rfl h1 (by simp [C0]), B7 rfl h2 (by simp [C0]), B7 rfl h3 (by simp [C0]), B7 rfl h4 (by simp [C0])]; rfl)
theorem C0f : TI PR 246 Tryz.t81.desc 0 0 (.agg #[]) := ⟨Tryz.underlying246, Tryz.t246, by kernel_rfl, rfl, rfl, rfl⟩
@[simp] theorem C54  (K : Value → WP) : A0 PR (Instr.build 246 #[]) K = K (.agg #[]) := F6 (pl := #[]) C0f (fun w => by kernel_rfl) rfl
theorem C0n : TI PR 247 Tryz.t81.desc 0 0 (.agg #[]) := ⟨Tryz.underlying247, Tryz.t247, by kernel_rfl, rfl, rfl, rfl⟩
@[simp] theorem C5s  (K : Value → WP) : A0 PR (Instr.build 247 #[]) K = K (.agg #[]) := F6 (pl := #[]) C0n (fun w => by kernel_rfl) rfl
@[simp] theorem C2K {v0 v1 : Value} (h0 : v0.cells.size = 1) (h1 : v1.cells.size = 1) (K : Value → WP) : A0 PR (Instr.build 296 #[(0, v0), (1, v1)]) K = K (.agg (F1 (F1 #[.nilFunc, (.int .i64 0)] 0 v0.cells.toList) 1 v1.cells.toList)) := F6 (pl := #[(0, 1), (1, 1)]) A7Q (fun w => by kernel_rfl) (by rw [B7 rfl h0 (by simp [C0]), B7 rfl h1 (by simp [C0])]; rfl)
@[simp] theorem C7A  (K : Value → WP) : A0 PR (Instr.build 39 #[]) K = K (.agg #[(.int .i64 0), (.int .i64 0), (.bool false), (.int .i64 0)]) := F6 (pl := #[(0, 1), (1, 1), (2, 1), (3, 1)]) A2H (fun w => by kernel_rfl) rfl
@[simp] theorem C6N {v0 : Value} (h0 : v0.cells.size = 1) (K : Value → WP) : A0 PR (Instr.build 39 #[(0, v0)]) K = K (.agg (F1 #[(.int .i64 0), (.int .i64 0), (.bool false), (.int .i64 0)] 0 v0.cells.toList)) := F6 (pl := #[(0, 1), (1, 1), (2, 1), (3, 1)]) A2H (fun w => by kernel_rfl) (by rw [B7 rfl h0 (by simp [C0])]; rfl)
@[simp] theorem C3J {v0 v1 : Value} (h0 : v0.cells.size = 1) (h1 : v1.cells.size = 1) (K : Value → WP) : A0 PR (Instr.build 39 #[(1, v0), (2, v1)]) K = K (.agg (F1 (F1 #[(.int .i64 0), (.int .i64 0), (.bool false), (.int .i64 0)] 1 v0.cells.toList) 2 v1.cells.toList)) := F6 (pl := #[(0, 1), (1, 1), (2, 1), (3, 1)]) A2H (fun w => by kernel_rfl) (by rw [B7 rfl h0 (by simp [C0]), B7 rfl h1 (by simp [C0])]; rfl)
@[simp] theorem C6D {v0 : Value} (h0 : v0.cells.size = 1) (K : Value → WP) : A0 PR (Instr.build 39 #[(1, v0)]) K = K (.agg (F1 #[(.int .i64 0), (.int .i64 0), (.bool false), (.int .i64 0)] 1 v0.cells.toList)) := F6 (pl := #[(0, 1), (1, 1), (2, 1), (3, 1)]) A2H (fun w => by kernel_rfl) (by rw [B7 rfl h0 (by simp [C0])]; rfl)
@[simp] theorem C5P {v0 : Value} (h0 : v0.cells.size = 1) (K : Value → WP) : A0 PR (Instr.build 39 #[(3, v0)]) K = K (.agg (F1 #[(.int .i64 0), (.int .i64 0), (.bool false), (.int .i64 0)] 3 v0.cells.toList)) := F6 (pl := #[(0, 1), (1, 1), (2, 1), (3, 1)]) A2H (fun w => by kernel_rfl) (by rw [B7 rfl h0 (by simp [C0])]; rfl)
@[simp] theorem C56 {v0 : Value} (h0 : v0.cells.size = 1) (K : Value → WP) : A0 PR (Instr.build 42 #[(0, v0)]) K = K (.agg (F1 #[(.int .i64 0), (.string (ByteArray.mk #[])), (.slice none 0 0), (.int .i64 0)] 0 v0.cells.toList)) := F6 (pl := #[(0, 1), (1, 1), (2, 1), (3, 1)]) A3v (fun w => by kernel_rfl) (by rw [B7 rfl h0 (by simp [C0])]; rfl)
@[simp] theorem C6f  (K : Value → WP) : A0 PR (Instr.build 56 #[]) K = K (.agg #[(.int .i64 0), (.string (ByteArray.mk #[])), (.string (ByteArray.mk #[])), (.int .i64 0), (.int .i64 0), (.int .i64 0)]) := F6 (pl := #[(0, 1), (1, 1), (2, 1), (3, 1), (4, 1), (5, 1)]) A2s (fun w => by kernel_rfl) rfl
@[simp] theorem B60 {v0 v1 v2 v3 v4 v5 : Value} (h0 : v0.cells.size = 1) (h1 : v1.cells.size = 1) (h2 : v2.cells.size = 1) (h3 : v3.cells.size = 1) (h4 : v4.cells.size = 1) (h5 : v5.cells.size = 1) (K : Value → WP) : A0 PR (Instr.build 56 #[(0, v0), (1, v1), (2, v2), (3, v3), (4, v4), (5, v5)]) K = K (.agg (F1 (F1 (F1 (F1 (F1 (F1 #[(.int .i64 0), (.string (ByteArray.mk #[])), (.string (ByteArray.mk #[])), (.int .i64 0), (.int .i64 0), (.int .i64 0)] 0 v0.cells.toList) 1 v1.cells.toList) 2 v2.cells.toList) 3 v3.cells.toList) 4 v4.cells.toList) 5 v5.cells.toList)) := F6 (pl := #[(0, 1), (1, 1), (2, 1), (3, 1), (4, 1), (5, 1)]) A2s (fun w => by kernel_rfl) (by rw [B7 rfl h0 (by simp [C0]), B7 rfl h1 (by simp [C0]), B7 rfl h2 (by simp [C0]), B7 rfl h3 (by simp [C0]), B7 rfl h4 (by simp [C0]), B7 rfl h5 (by simp [C0])]; rfl)
@[simp] theorem C0c {v0 v1 v2 v3 : Value} (h0 : v0.cells.size = 1) (h1 : v1.cells.size = 1) (h2 : v2.cells.size = 1) (h3 : v3.cells.size = 1) (K : Value → WP) : A0 PR (Instr.build 56 #[(0, v0), (1, v1), (2, v2), (5, v3)]) K = K (.agg (F1 (F1 (F1 (F1 #[(.int .i64 0), (.string (ByteArray.mk #[])), (.string (ByteArray.mk #[])), (.int .i64 0), (.int .i64 0), (.int .i64 0)] 0 v0.cells.toList) 1 v1.cells.toList) 2 v2.cells.toList) 5 v3.cells.toList)) := F6 (pl := #[(0, 1), (1, 1), (2, 1), (3, 1), (4, 1), (5, 1)]) A2s (fun w => by kernel_rfl) (by rw [B7 rfl h0 (by simp [C0]), B7 rfl h1 (by simp [C0]), B7 rfl h2 (by simp [C0]), B7 rfl h3 (by simp [C0])]; rfl)
@[simp] theorem C6j  (K : Value → WP) : A0 PR (Instr.build 58 #[]) K = K (.agg #[(.int .i64 0), (.string (ByteArray.mk #[])), (.string (ByteArray.mk #[])), (.int .i64 0), (.int .i64 0), (.int .i64 0), (.int .i64 0)]) := F6 (pl := #[(0, 6), (6, 1)]) B0f (fun w => by kernel_rfl) rfl
@[simp] theorem C3Q {v0 v1 : Value} (h0 : v0.cells.size = 6) (h1 : v1.cells.size = 1) (K : Value → WP) : A0 PR (Instr.build 58 #[(0, v0), (1, v1)]) K = K (.agg (F1 (F1 #[(.int .i64 0), (.string (ByteArray.mk #[])), (.string (ByteArray.mk #[])), (.int .i64 0), (.int .i64 0), (.int .i64 0), (.int .i64 0)] 0 v0.cells.toList) 6 v1.cells.toList)) := F6 (pl := #[(0, 6), (6, 1)]) B0f (fun w => by kernel_rfl) (by rw [B7 rfl h0 (by simp [C0]), B7 rfl h1 (by simp [C0])]; rfl)
@[simp] theorem C5j {v0 : Value} (h0 : v0.cells.size = 6) (K : Value → WP) : A0 PR (Instr.build 58 #[(0, v0)]) K = K (.agg (F1 #[(.int .i64 0), (.string (ByteArray.mk #[])), (.string (ByteArray.mk #[])), (.int .i64 0), (.int .i64 0), (.int .i64 0), (.int .i64 0)] 0 v0.cells.toList)) := F6 (pl := #[(0, 6), (6, 1)]) B0f (fun w => by kernel_rfl) (by rw [B7 rfl h0 (by simp [C0])]; rfl)
@[simp] theorem C3N {v0 v1 : Value} (h0 : v0.cells.size = 1) (h1 : v1.cells.size = 1) (K : Value → WP) : A0 PR (Instr.build 75 #[(0, v0), (1, v1)]) K = K (.agg (F1 (F1 #[(.int .i64 0), (.int .i64 0)] 0 v0.cells.toList) 1 v1.cells.toList)) := F6 (pl := #[(0, 1), (1, 1)]) A6K (fun w => by kernel_rfl) (by rw [B7 rfl h0 (by simp [C0]), B7 rfl h1 (by simp [C0])]; rfl)
theorem B6b : TI PR 88 Tryz.t87.desc 7 72 (.agg #[(.int .i64 0), (.int .i64 0), (.int .i64 0), (.int .i64 0), (.int .i64 0), (.pointer none), (.slice none 0 0)]) := ⟨Tryz.underlying88, Tryz.t88, by kernel_rfl, rfl, rfl, rfl⟩
@[simp] theorem C46 {v0 : Value} (h0 : v0.cells.size = 5) (K : Value → WP) : A0 PR (Instr.build 88 #[(0, v0)]) K = K (.agg (F1 #[(.int .i64 0), (.int .i64 0), (.int .i64 0), (.int .i64 0), (.int .i64 0), (.pointer none), (.slice none 0 0)] 0 v0.cells.toList)) := F6 (pl := #[(0, 5), (5, 1), (6, 1)]) B6b (fun w => by kernel_rfl) (by rw [B7 rfl h0 (by simp [C0])]; rfl)
theorem B5k : TI PR 92 Tryz.t91.desc 2 48 (.agg #[(.slice none 0 0), (.slice none 0 0)]) := ⟨Tryz.underlying92, Tryz.t92, by kernel_rfl, rfl, rfl, rfl⟩
@[simp] theorem C6q  (K : Value → WP) : A0 PR (Instr.build 92 #[]) K = K (.agg #[(.slice none 0 0), (.slice none 0 0)]) := F6 (pl := #[(0, 1), (1, 1)]) B5k (fun w => by kernel_rfl) rfl
@[simp] theorem C3G {v0 v1 : Value} (h0 : v0.cells.size = 1) (h1 : v1.cells.size = 1) (K : Value → WP) : A0 PR (Instr.build 92 #[(0, v0), (1, v1)]) K = K (.agg (F1 (F1 #[(.slice none 0 0), (.slice none 0 0)] 0 v0.cells.toList) 1 v1.cells.toList)) := F6 (pl := #[(0, 1), (1, 1)]) B5k (fun w => by kernel_rfl) (by rw [B7 rfl h0 (by simp [C0]), B7 rfl h1 (by simp [C0])]; rfl)
theorem ty5 : TI PR 5 Tryz.t5.desc 1 1 (.int .u8 0) := ⟨Tryz.underlying5, Tryz.t5, by kernel_rfl, rfl, rfl, rfl⟩
theorem B57 : TI PR 229 Tryz.t229.desc 1 24 (.slice none 0 0) := ⟨Tryz.underlying229, Tryz.t229, by kernel_rfl, rfl, rfl, rfl⟩
theorem B5a : TI PR 320 Tryz.t320.desc 1 24 (.slice none 0 0) := ⟨Tryz.underlying320, Tryz.t320, by kernel_rfl, rfl, rfl, rfl⟩
theorem B4q {K : Value → WP} {w : World} {b o cap : Nat} {ns : List Int} (hr : K9 w b o (ns.map (Value.int .u8))) : A6 PR (convert 127 9 (.slice (some ⟨b, o, none⟩) ns.length cap)) K w = K (.string (A2E ns)) w := C3U A17 ty5 ty9 hr
@[simp] theorem C3n {k : IntKind} (a : Int) (K : Value → WP) : A0 PR (convert 129 3 (.int k a)) K = K (.int .i64 (IntKind.i64.wrap a)) := A1J H3 A3J
@[simp] theorem C35 {k : IntKind} (a : Int) (K : Value → WP) : A0 PR (convert 129 5 (.int k a)) K = K (.int .u8 (IntKind.u8.wrap a)) := A1J ty5 A3J
theorem C0k : TI PR 130 Tryz.t130.desc 1 8 (.int .u64 0) := ⟨Tryz.underlying130, Tryz.t130, by kernel_rfl, rfl, rfl, rfl⟩
@[simp] theorem C3a {k : IntKind} (a : Int) (K : Value → WP) : A0 PR (convert 130 3 (.int k a)) K = K (.int .i64 (IntKind.i64.wrap a)) := A1J H3 C0k
@[simp] theorem C4L {k : IntKind} (a : Int) (K : Value → WP) : A0 PR (convert 3 129 (.int k a)) K = K (.int .u64 (IntKind.u64.wrap a)) := A1J A3J H3
@[simp] theorem C4C {k : IntKind} (a : Int) (K : Value → WP) : A0 PR (convert 3 130 (.int k a)) K = K (.int .u64 (IntKind.u64.wrap a)) := A1J C0k H3
@[simp] theorem C3e {k : IntKind} (a : Int) (K : Value → WP) : A0 PR (convert 5 129 (.int k a)) K = K (.int .u64 (IntKind.u64.wrap a)) := A1J A3J ty5
@[simp] theorem C6a {k : IntKind} (a : Int) (K : Value → WP) : A0 PR (convert 5 3 (.int k a)) K = K (.int .i64 (IntKind.i64.wrap a)) := A1J H3 ty5
@[simp] theorem C43 {k : IntKind} (a : Int) (K : Value → WP) : A0 PR (convert 5 302 (.int k a)) K = K (.int .u64 (IntKind.u64.wrap a)) := A1J C0Y ty5
theorem B2K : TI PR 185 Tryz.t185.desc 1 8 (.pointer none) := ⟨Tryz.underlying185, Tryz.t185, by kernel_rfl, rfl, rfl, rfl⟩
@[simp] theorem B6s (a : Option Addr) (x y : Operand) (K : Value → WP) (w : World) : A6 PR (J9 .eql 185 x y (.pointer a) (.pointer none)) K w = K (.bool a.isNone) w := B0K B2K
theorem C2u : TI PR 27 Tryz.t27.desc 1 8 (.pointer none) := ⟨Tryz.underlying27, Tryz.t27, by kernel_rfl, rfl, rfl, rfl⟩
@[simp] theorem B7A (a : Option Addr) (x y : Operand) (K : Value → WP) (w : World) : A6 PR (J9 .eql 27 x y (.pointer a) (.pointer none)) K w = K (.bool a.isNone) w := B0K C2u
theorem ty4 : TI PR 4 Tryz.t4.desc 1 1 (.bool false) := ⟨Tryz.underlying4, Tryz.t4, by kernel_rfl, rfl, rfl, rfl⟩
@[simp] theorem C0H (a0 b0 : Int) (a1 b1 : Int) (a2 b2 : Bool) (a3 b3 : Int) (x y : Operand) (K : Value → WP) (w : World) : A6 PR (J9 .eql 39 x y (.agg #[.int .i64 a0, .int .i64 a1, .bool a2, .int .i64 a3]) (.agg #[.int .i64 b0, .int .i64 b1, .bool b2, .int .i64 b3])) K w = K (.bool (decide (a0 = b0) && (decide (a1 = b1) && ((a2 == b2) && (decide (a3 = b3) && true))))) w := C3b (by kernel_rfl) (A5A (e := 9999) A2H (by kernel_rfl) (Z8 rfl A8c rfl rfl rfl (x9 (e := 9998) A8c) (Z8 rfl H3 rfl rfl rfl (x9 (e := 9998) H3) (Z8 rfl ty4 rfl rfl rfl (B3g (e := 9998) ty4) (Z8 rfl H3 rfl rfl rfl (x9 (e := 9998) H3) (B0D))))))
theorem C61 : TI PR 66 Tryz.t66.desc 1 8 (.pointer none) := ⟨Tryz.underlying66, Tryz.t66, by kernel_rfl, rfl, rfl, rfl⟩
@[simp] theorem B7M (a : Option Addr) (x y : Operand) (K : Value → WP) (w : World) : A6 PR (J9 .eql 66 x y (.pointer a) (.pointer none)) K w = K (.bool a.isNone) w := B0K C61
@[simp] theorem B72 (a : Option Addr) (x y : Operand) (K : Value → WP) (w : World) : A6 PR (J9 .neq 27 x y (.pointer a) (.pointer none)) K w = K (.bool (!a.isNone)) w := C1B C2u
@[simp] theorem B9N (a0 b0 : Int) (a1 b1 : Int) (a2 b2 : Bool) (a3 b3 : Int) (x y : Operand) (K : Value → WP) (w : World) : A6 PR (J9 .neq 39 x y (.agg #[.int .i64 a0, .int .i64 a1, .bool a2, .int .i64 a3]) (.agg #[.int .i64 b0, .int .i64 b1, .bool b2, .int .i64 b3])) K w = K (.bool !(decide (a0 = b0) && (decide (a1 = b1) && ((a2 == b2) && (decide (a3 = b3) && true))))) w := C0N (by kernel_rfl) (A5A (e := 9999) A2H (by kernel_rfl) (Z8 rfl A8c rfl rfl rfl (x9 (e := 9998) A8c) (Z8 rfl H3 rfl rfl rfl (x9 (e := 9998) H3) (Z8 rfl ty4 rfl rfl rfl (B3g (e := 9998) ty4) (Z8 rfl H3 rfl rfl rfl (x9 (e := 9998) H3) (B0D))))))
@[simp] theorem B9T (a0 b0 : Int) (a1 b1 : Int) (x y : Operand) (K : Value → WP) (w : World) : A6 PR (J9 .neq 75 x y (.agg #[.int .i64 a0, .int .i64 a1]) (.agg #[.int .i64 b0, .int .i64 b1])) K w = K (.bool !(decide (a0 = b0) && (decide (a1 = b1) && true))) w := C0N (by kernel_rfl) (A5A (e := 9999) A6K (by kernel_rfl) (Z8 rfl H3 rfl rfl rfl (x9 (e := 9998) H3) (Z8 rfl H3 rfl rfl rfl (x9 (e := 9998) H3) (B0D))))
theorem B64 {cs : Array Value} {v : Value} (h : cs[0]? = some v) (K : Value → WP) : A0 PR (Instr.field 39 (.agg cs) 0) K = K v := B34 (i := 0) A2H rfl A8c rfl h
theorem B8D {cs : Array Value} {v : Value} (h : cs[3]? = some v) (K : Value → WP) : A0 PR (Instr.field 39 (.agg cs) 3) K = K v := B34 (i := 3) A2H rfl H3 rfl h
theorem C0S : TI PR 101 Tryz.t100.desc 2 8 (.agg #[(.int .i32 0), (.int .u32 0)]) := ⟨Tryz.underlying101, Tryz.t101, by kernel_rfl, rfl, rfl, rfl⟩
theorem C2j : TI PR 99 Tryz.t98.desc 2 8 (.agg #[(.int .i32 0), (.int .u32 0)]) := ⟨Tryz.underlying99, Tryz.t99, by kernel_rfl, rfl, rfl, rfl⟩
@[simp] theorem C3q (b o : Nat) (K : Value → WP) : A0 PR (Instr.fieldAt 101 (.pointer (some ⟨b, o, none⟩)) 1) K = K (.pointer (some ⟨b, o, none⟩)) := B5 (i := 1) C0S rfl ⟨_, _, _, _, C2j⟩ b o
@[simp] theorem C3W (b o : Nat) (K : Value → WP) : A0 PR (Instr.fieldAt 103 (.pointer (some ⟨b, o, none⟩)) 0) K = K (.pointer (some ⟨b, o, none⟩)) := B5 (i := 0) B2Q rfl ⟨_, _, _, _, C0S⟩ b o
@[simp] theorem C4r (b o : Nat) (K : Value → WP) : A0 PR (Instr.fieldAt 103 (.pointer (some ⟨b, o, none⟩)) 1) K = K (.pointer (some ⟨b, o + 2, none⟩)) := B5 (i := 1) B2Q rfl ⟨_, _, _, _, A8Z⟩ b o
@[simp] theorem C30 (b o : Nat) (K : Value → WP) : A0 PR (Instr.fieldAt 103 (.pointer (some ⟨b, o, none⟩)) 2) K = K (.pointer (some ⟨b, o + 3, none⟩)) := B5 (i := 2) B2Q rfl ⟨_, _, _, _, H3⟩ b o
@[simp] theorem C31 (b o : Nat) (K : Value → WP) : A0 PR (Instr.fieldAt 119 (.pointer (some ⟨b, o, none⟩)) 0) K = K (.pointer (some ⟨b, o, none⟩)) := B5 (i := 0) A5Q rfl ⟨_, _, _, _, H3⟩ b o
@[simp] theorem C3V (b o : Nat) (K : Value → WP) : A0 PR (Instr.fieldAt 119 (.pointer (some ⟨b, o, none⟩)) 1) K = K (.pointer (some ⟨b, o + 1, none⟩)) := B5 (i := 1) A5Q rfl ⟨_, _, _, _, H3⟩ b o
@[simp] theorem C3w (b o : Nat) (K : Value → WP) : A0 PR (Instr.fieldAt 119 (.pointer (some ⟨b, o, none⟩)) 2) K = K (.pointer (some ⟨b, o + 2, none⟩)) := B5 (i := 2) A5Q rfl ⟨_, _, _, _, H3⟩ b o
@[simp] theorem C37 (b o : Nat) (K : Value → WP) : A0 PR (Instr.fieldAt 122 (.pointer (some ⟨b, o, none⟩)) 0) K = K (.pointer (some ⟨b, o, none⟩)) := B5 (i := 0) A7b rfl ⟨_, _, _, _, ty9⟩ b o
@[simp] theorem C4N (b o : Nat) (K : Value → WP) : A0 PR (Instr.fieldAt 122 (.pointer (some ⟨b, o, none⟩)) 1) K = K (.pointer (some ⟨b, o + 1, none⟩)) := B5 (i := 1) A7b rfl ⟨_, _, _, _, ty9⟩ b o
@[simp] theorem C4e (b o : Nat) (K : Value → WP) : A0 PR (Instr.fieldAt 122 (.pointer (some ⟨b, o, none⟩)) 2) K = K (.pointer (some ⟨b, o + 2, none⟩)) := B5 (i := 2) A7b rfl ⟨_, _, _, _, H3⟩ b o
@[simp] theorem C4z (b o : Nat) (K : Value → WP) : A0 PR (Instr.fieldAt 124 (.pointer (some ⟨b, o, none⟩)) 0) K = K (.pointer (some ⟨b, o, none⟩)) := B5 (i := 0) A7P rfl ⟨_, _, _, _, ty9⟩ b o
@[simp] theorem C4q (b o : Nat) (K : Value → WP) : A0 PR (Instr.fieldAt 124 (.pointer (some ⟨b, o, none⟩)) 1) K = K (.pointer (some ⟨b, o + 1, none⟩)) := B5 (i := 1) A7P rfl ⟨_, _, _, _, ty9⟩ b o
@[simp] theorem C3g (b o : Nat) (K : Value → WP) : A0 PR (Instr.fieldAt 124 (.pointer (some ⟨b, o, none⟩)) 2) K = K (.pointer (some ⟨b, o + 2, none⟩)) := B5 (i := 2) A7P rfl ⟨_, _, _, _, H3⟩ b o
@[simp] theorem C4y (b o : Nat) (K : Value → WP) : A0 PR (Instr.fieldAt 137 (.pointer (some ⟨b, o, none⟩)) 0) K = K (.pointer (some ⟨b, o, none⟩)) := B5 (i := 0) B2P rfl ⟨_, _, _, _, A1e⟩ b o
@[simp] theorem C42 (b o : Nat) (K : Value → WP) : A0 PR (Instr.fieldAt 137 (.pointer (some ⟨b, o, none⟩)) 1) K = K (.pointer (some ⟨b, o + 5, none⟩)) := B5 (i := 1) B2P rfl ⟨_, _, _, _, A7E⟩ b o
theorem A9y : TI PR 135 Tryz.t135.desc 1 24 (.slice none 0 0) := ⟨Tryz.underlying135, Tryz.t135, by kernel_rfl, rfl, rfl, rfl⟩
@[simp] theorem C4T (b o : Nat) (K : Value → WP) : A0 PR (Instr.fieldAt 137 (.pointer (some ⟨b, o, none⟩)) 2) K = K (.pointer (some ⟨b, o + 6, none⟩)) := B5 (i := 2) B2P rfl ⟨_, _, _, _, A9y⟩ b o
theorem C0U : TI PR 139 Tryz.t138.desc 1 24 (.agg #[(.slice none 0 0)]) := ⟨Tryz.underlying139, Tryz.t139, by kernel_rfl, rfl, rfl, rfl⟩
@[simp] theorem C4Y (b o : Nat) (K : Value → WP) : A0 PR (Instr.fieldAt 139 (.pointer (some ⟨b, o, none⟩)) 0) K = K (.pointer (some ⟨b, o, none⟩)) := B5 (i := 0) C0U rfl ⟨_, _, _, _, A8Z⟩ b o
theorem B2D : TI PR 141 Tryz.t140.desc 2 32 (.agg #[(.slice none 0 0), (.int .i64 0)]) := ⟨Tryz.underlying141, Tryz.t141, by kernel_rfl, rfl, rfl, rfl⟩
@[simp] theorem C4m (b o : Nat) (K : Value → WP) : A0 PR (Instr.fieldAt 141 (.pointer (some ⟨b, o, none⟩)) 0) K = K (.pointer (some ⟨b, o, none⟩)) := B5 (i := 0) B2D rfl ⟨_, _, _, _, C0U⟩ b o
@[simp] theorem C4B (b o : Nat) (K : Value → WP) : A0 PR (Instr.fieldAt 141 (.pointer (some ⟨b, o, none⟩)) 1) K = K (.pointer (some ⟨b, o + 1, none⟩)) := B5 (i := 1) B2D rfl ⟨_, _, _, _, H3⟩ b o
@[simp] theorem C33 (b o : Nat) (K : Value → WP) : A0 PR (Instr.fieldAt 160 (.pointer (some ⟨b, o, none⟩)) 0) K = K (.pointer (some ⟨b, o, none⟩)) := B5 (i := 0) A0y rfl ⟨_, _, _, _, H3⟩ b o
@[simp] theorem C4c (b o : Nat) (K : Value → WP) : A0 PR (Instr.fieldAt 160 (.pointer (some ⟨b, o, none⟩)) 1) K = K (.pointer (some ⟨b, o + 1, none⟩)) := B5 (i := 1) A0y rfl ⟨_, _, _, _, ty9⟩ b o
@[simp] theorem C3z (b o : Nat) (K : Value → WP) : A0 PR (Instr.fieldAt 160 (.pointer (some ⟨b, o, none⟩)) 2) K = K (.pointer (some ⟨b, o + 2, none⟩)) := B5 (i := 2) A0y rfl ⟨_, _, _, _, H3⟩ b o
@[simp] theorem C4U (b o : Nat) (K : Value → WP) : A0 PR (Instr.fieldAt 160 (.pointer (some ⟨b, o, none⟩)) 3) K = K (.pointer (some ⟨b, o + 3, none⟩)) := B5 (i := 3) A0y rfl ⟨_, _, _, _, H3⟩ b o
@[simp] theorem C4K (b o : Nat) (K : Value → WP) : A0 PR (Instr.fieldAt 187 (.pointer (some ⟨b, o, none⟩)) 0) K = K (.pointer (some ⟨b, o, none⟩)) := B5 (i := 0) A7Z rfl ⟨_, _, _, _, B2K⟩ b o
@[simp] theorem C4x (b o : Nat) (K : Value → WP) : A0 PR (Instr.fieldAt 187 (.pointer (some ⟨b, o, none⟩)) 1) K = K (.pointer (some ⟨b, o + 1, none⟩)) := B5 (i := 1) A7Z rfl ⟨_, _, _, _, A17⟩ b o
@[simp] theorem C4j (b o : Nat) (K : Value → WP) : A0 PR (Instr.fieldAt 189 (.pointer (some ⟨b, o, none⟩)) 0) K = K (.pointer (some ⟨b, o, none⟩)) := B5 (i := 0) C0d rfl ⟨_, _, _, _, A7Z⟩ b o
@[simp] theorem C3y (b o : Nat) (K : Value → WP) : A0 PR (Instr.fieldAt 211 (.pointer (some ⟨b, o, none⟩)) 0) K = K (.pointer (some ⟨b, o, none⟩)) := B5 (i := 0) A4y rfl ⟨_, _, _, _, A3J⟩ b o
@[simp] theorem C3j (b o : Nat) (K : Value → WP) : A0 PR (Instr.fieldAt 211 (.pointer (some ⟨b, o, none⟩)) 1) K = K (.pointer (some ⟨b, o + 1, none⟩)) := B5 (i := 1) A4y rfl ⟨_, _, _, _, H3⟩ b o
@[simp] theorem C40 (b o : Nat) (K : Value → WP) : A0 PR (Instr.fieldAt 217 (.pointer (some ⟨b, o, none⟩)) 0) K = K (.pointer (some ⟨b, o, none⟩)) := B5 (i := 0) B2E rfl ⟨_, _, _, _, A3J⟩ b o
@[simp] theorem C3Y (b o : Nat) (K : Value → WP) : A0 PR (Instr.fieldAt 217 (.pointer (some ⟨b, o, none⟩)) 1) K = K (.pointer (some ⟨b, o + 1, none⟩)) := B5 (i := 1) B2E rfl ⟨_, _, _, _, H3⟩ b o
@[simp] theorem C6B (b o : Nat) (K : Value → WP) : A0 PR (Instr.fieldAt 23 (.pointer (some ⟨b, o, none⟩)) 0) K = K (.pointer (some ⟨b, o, none⟩)) := B5 (i := 0) A1e rfl ⟨_, _, _, _, H3⟩ b o
@[simp] theorem C5g (b o : Nat) (K : Value → WP) : A0 PR (Instr.fieldAt 23 (.pointer (some ⟨b, o, none⟩)) 1) K = K (.pointer (some ⟨b, o + 1, none⟩)) := B5 (i := 1) A1e rfl ⟨_, _, _, _, H3⟩ b o
@[simp] theorem C57 (b o : Nat) (K : Value → WP) : A0 PR (Instr.fieldAt 23 (.pointer (some ⟨b, o, none⟩)) 2) K = K (.pointer (some ⟨b, o + 2, none⟩)) := B5 (i := 2) A1e rfl ⟨_, _, _, _, H3⟩ b o
@[simp] theorem C5Z (b o : Nat) (K : Value → WP) : A0 PR (Instr.fieldAt 23 (.pointer (some ⟨b, o, none⟩)) 3) K = K (.pointer (some ⟨b, o + 3, none⟩)) := B5 (i := 3) A1e rfl ⟨_, _, _, _, H3⟩ b o
@[simp] theorem C6A (b o : Nat) (K : Value → WP) : A0 PR (Instr.fieldAt 23 (.pointer (some ⟨b, o, none⟩)) 4) K = K (.pointer (some ⟨b, o + 4, none⟩)) := B5 (i := 4) A1e rfl ⟨_, _, _, _, H3⟩ b o
theorem C3B : TI PR 25 Tryz.t25.desc 1 8 .nilFunc := ⟨Tryz.underlying25, Tryz.t25, by kernel_rfl, rfl, rfl, rfl⟩
@[simp] theorem C4f (b o : Nat) (K : Value → WP) : A0 PR (Instr.fieldAt 296 (.pointer (some ⟨b, o, none⟩)) 0) K = K (.pointer (some ⟨b, o, none⟩)) := B5 (i := 0) A7Q rfl ⟨_, _, _, _, C3B⟩ b o
@[simp] theorem C4w (b o : Nat) (K : Value → WP) : A0 PR (Instr.fieldAt 296 (.pointer (some ⟨b, o, none⟩)) 1) K = K (.pointer (some ⟨b, o + 1, none⟩)) := B5 (i := 1) A7Q rfl ⟨_, _, _, _, A8c⟩ b o
@[simp] theorem C51 (b o : Nat) (K : Value → WP) : A0 PR (Instr.fieldAt 39 (.pointer (some ⟨b, o, none⟩)) 3) K = K (.pointer (some ⟨b, o + 3, none⟩)) := B5 (i := 3) A2H rfl ⟨_, _, _, _, H3⟩ b o
@[simp] theorem C5e (b o : Nat) (K : Value → WP) : A0 PR (Instr.fieldAt 42 (.pointer (some ⟨b, o, none⟩)) 0) K = K (.pointer (some ⟨b, o, none⟩)) := B5 (i := 0) A3v rfl ⟨_, _, _, _, H3⟩ b o
@[simp] theorem C5c (b o : Nat) (K : Value → WP) : A0 PR (Instr.fieldAt 42 (.pointer (some ⟨b, o, none⟩)) 1) K = K (.pointer (some ⟨b, o + 1, none⟩)) := B5 (i := 1) A3v rfl ⟨_, _, _, _, ty9⟩ b o
@[simp] theorem C5x (b o : Nat) (K : Value → WP) : A0 PR (Instr.fieldAt 42 (.pointer (some ⟨b, o, none⟩)) 2) K = K (.pointer (some ⟨b, o + 2, none⟩)) := B5 (i := 2) A3v rfl ⟨_, _, _, _, A7E⟩ b o
@[simp] theorem C5D (b o : Nat) (K : Value → WP) : A0 PR (Instr.fieldAt 42 (.pointer (some ⟨b, o, none⟩)) 3) K = K (.pointer (some ⟨b, o + 3, none⟩)) := B5 (i := 3) A3v rfl ⟨_, _, _, _, H3⟩ b o
theorem B5l : TI PR 44 Tryz.t43.desc 5 64 (.agg #[(.int .i64 0), (.string (ByteArray.mk #[])), (.slice none 0 0), (.int .i64 0), (.int .i64 0)]) := ⟨Tryz.underlying44, Tryz.t44, by kernel_rfl, rfl, rfl, rfl⟩
@[simp] theorem C5V (b o : Nat) (K : Value → WP) : A0 PR (Instr.fieldAt 44 (.pointer (some ⟨b, o, none⟩)) 0) K = K (.pointer (some ⟨b, o, none⟩)) := B5 (i := 0) B5l rfl ⟨_, _, _, _, A3v⟩ b o
@[simp] theorem C52 (b o : Nat) (K : Value → WP) : A0 PR (Instr.fieldAt 44 (.pointer (some ⟨b, o, none⟩)) 1) K = K (.pointer (some ⟨b, o + 4, none⟩)) := B5 (i := 1) B5l rfl ⟨_, _, _, _, H3⟩ b o
@[simp] theorem C6T (b o : Nat) (K : Value → WP) : A0 PR (Instr.fieldAt 56 (.pointer (some ⟨b, o, none⟩)) 0) K = K (.pointer (some ⟨b, o, none⟩)) := B5 (i := 0) A2s rfl ⟨_, _, _, _, H3⟩ b o
@[simp] theorem C5m (b o : Nat) (K : Value → WP) : A0 PR (Instr.fieldAt 56 (.pointer (some ⟨b, o, none⟩)) 1) K = K (.pointer (some ⟨b, o + 1, none⟩)) := B5 (i := 1) A2s rfl ⟨_, _, _, _, ty9⟩ b o
@[simp] theorem C5T (b o : Nat) (K : Value → WP) : A0 PR (Instr.fieldAt 56 (.pointer (some ⟨b, o, none⟩)) 2) K = K (.pointer (some ⟨b, o + 2, none⟩)) := B5 (i := 2) A2s rfl ⟨_, _, _, _, ty9⟩ b o
@[simp] theorem C6J (b o : Nat) (K : Value → WP) : A0 PR (Instr.fieldAt 56 (.pointer (some ⟨b, o, none⟩)) 3) K = K (.pointer (some ⟨b, o + 3, none⟩)) := B5 (i := 3) A2s rfl ⟨_, _, _, _, H3⟩ b o
@[simp] theorem C48 (b o : Nat) (K : Value → WP) : A0 PR (Instr.fieldAt 56 (.pointer (some ⟨b, o, none⟩)) 4) K = K (.pointer (some ⟨b, o + 4, none⟩)) := B5 (i := 4) A2s rfl ⟨_, _, _, _, H3⟩ b o
@[simp] theorem C5l (b o : Nat) (K : Value → WP) : A0 PR (Instr.fieldAt 56 (.pointer (some ⟨b, o, none⟩)) 5) K = K (.pointer (some ⟨b, o + 5, none⟩)) := B5 (i := 5) A2s rfl ⟨_, _, _, _, H3⟩ b o
@[simp] theorem C6E (b o : Nat) (K : Value → WP) : A0 PR (Instr.fieldAt 58 (.pointer (some ⟨b, o, none⟩)) 0) K = K (.pointer (some ⟨b, o, none⟩)) := B5 (i := 0) B0f rfl ⟨_, _, _, _, A2s⟩ b o
@[simp] theorem C5B (b o : Nat) (K : Value → WP) : A0 PR (Instr.fieldAt 58 (.pointer (some ⟨b, o, none⟩)) 1) K = K (.pointer (some ⟨b, o + 6, none⟩)) := B5 (i := 1) B0f rfl ⟨_, _, _, _, H3⟩ b o
@[simp] theorem C6K (b o : Nat) (K : Value → WP) : A0 PR (Instr.fieldAt 75 (.pointer (some ⟨b, o, none⟩)) 0) K = K (.pointer (some ⟨b, o, none⟩)) := B5 (i := 0) A6K rfl ⟨_, _, _, _, H3⟩ b o
@[simp] theorem C5F (b o : Nat) (K : Value → WP) : A0 PR (Instr.fieldAt 75 (.pointer (some ⟨b, o, none⟩)) 1) K = K (.pointer (some ⟨b, o + 1, none⟩)) := B5 (i := 1) A6K rfl ⟨_, _, _, _, H3⟩ b o
theorem C29 : TI PR 85 Tryz.t84.desc 1 8 (.agg #[(.pointer none)]) := ⟨Tryz.underlying85, Tryz.t85, by kernel_rfl, rfl, rfl, rfl⟩
theorem C6e : TI PR 83 Tryz.t83.desc 1 8 (.pointer none) := ⟨Tryz.underlying83, Tryz.t83, by kernel_rfl, rfl, rfl, rfl⟩
@[simp] theorem C5G (b o : Nat) (K : Value → WP) : A0 PR (Instr.fieldAt 85 (.pointer (some ⟨b, o, none⟩)) 2) K = K (.pointer (some ⟨b, o, none⟩)) := B5 (i := 2) C29 rfl ⟨_, _, _, _, C6e⟩ b o
@[simp] theorem C5u (b o : Nat) (K : Value → WP) : A0 PR (Instr.fieldAt 88 (.pointer (some ⟨b, o, none⟩)) 0) K = K (.pointer (some ⟨b, o, none⟩)) := B5 (i := 0) B6b rfl ⟨_, _, _, _, A1e⟩ b o
@[simp] theorem C5y (b o : Nat) (K : Value → WP) : A0 PR (Instr.fieldAt 88 (.pointer (some ⟨b, o, none⟩)) 1) K = K (.pointer (some ⟨b, o + 5, none⟩)) := B5 (i := 1) B6b rfl ⟨_, _, _, _, C29⟩ b o
@[simp] theorem C6H (b o : Nat) (K : Value → WP) : A0 PR (Instr.fieldAt 88 (.pointer (some ⟨b, o, none⟩)) 2) K = K (.pointer (some ⟨b, o + 6, none⟩)) := B5 (i := 2) B6b rfl ⟨_, _, _, _, B3F⟩ b o
@[simp] theorem C5C (b o : Nat) (K : Value → WP) : A0 PR (Instr.fieldAt 92 (.pointer (some ⟨b, o, none⟩)) 0) K = K (.pointer (some ⟨b, o, none⟩)) := B5 (i := 0) B5k rfl ⟨_, _, _, _, A7E⟩ b o
@[simp] theorem C5r (b o : Nat) (K : Value → WP) : A0 PR (Instr.fieldAt 92 (.pointer (some ⟨b, o, none⟩)) 1) K = K (.pointer (some ⟨b, o + 1, none⟩)) := B5 (i := 1) B5k rfl ⟨_, _, _, _, B9H⟩ b o
theorem C3E : TI PR 21 Tryz.t21.desc 1 4 (.int .i32 0) := ⟨Tryz.underlying21, Tryz.t21, by kernel_rfl, rfl, rfl, rfl⟩
@[simp] theorem C5L (b o : Nat) (K : Value → WP) : A0 PR (Instr.fieldAt 99 (.pointer (some ⟨b, o, none⟩)) 0) K = K (.pointer (some ⟨b, o, none⟩)) := B5 (i := 0) C2j rfl ⟨_, _, _, _, C3E⟩ b o
theorem Y1 {k1 : IntKind} {i : Int} {s : ByteArray} {b : UInt8} (h0 : 0 ≤ i) (h1 : s[i.toNat]? = some b) (K : Value → WP) : A0 PR (Instr.index 9 (.string s) (.int k1 i)) K = K (.int .u8 b.toNat) := B9Q ty9 h0 h1
@[simp] theorem C67 {k : IntKind} {i : Int} {len cap : Nat} (h0 : 0 ≤ i) (h1 : i < len) (b o : Nat) (K : Value → WP) : A0 PR (Instr.indexAt 127 (.slice (some ⟨b, o, none⟩) len cap) (.int k i)) K = K (.pointer (some ⟨b, o + i.toNat, none⟩)) := (by simpa using N1 (K := K) A17 ty5 h0 h1 b o)
@[simp] theorem C7L {k : IntKind} {i : Int} {len cap : Nat} (h0 : 0 ≤ i) (h1 : i < len) (b o : Nat) (K : Value → WP) : A0 PR (Instr.indexAt 135 (.slice (some ⟨b, o, none⟩) len cap) (.int k i)) K = K (.pointer (some ⟨b, o + i.toNat * 2, none⟩)) := (N1 (K := K) A9y B2D h0 h1 b o)
theorem B6r : TI PR 143 Tryz.t143.desc 1 8 .nilFunc := ⟨Tryz.underlying143, Tryz.t143, by kernel_rfl, rfl, rfl, rfl⟩
@[simp] theorem C6g {k : IntKind} {i : Int} (h0 : 0 ≤ i) (h1 : i < (4 : Nat)) (b o : Nat) (K : Value → WP) : A0 PR (Instr.indexAt 144 (.pointer (some ⟨b, o, none⟩)) (.int k i)) K = K (.pointer (some ⟨b, o + i.toNat, none⟩)) := (by simpa using A9n (K := K) B6Q B6r h0 h1 b o)
@[simp] theorem C6c {k : IntKind} {i : Int} (h0 : 0 ≤ i) (h1 : i < (2 : Nat)) (b o : Nat) (K : Value → WP) : A0 PR (Instr.indexAt 153 (.pointer (some ⟨b, o, none⟩)) (.int k i)) K = K (.pointer (some ⟨b, o + i.toNat, none⟩)) := (by simpa using A9n (K := K) A9v H3 h0 h1 b o)
@[simp] theorem C6b {k : IntKind} {i : Int} {len cap : Nat} (h0 : 0 ≤ i) (h1 : i < len) (b o : Nat) (K : Value → WP) : A0 PR (Instr.indexAt 176 (.slice (some ⟨b, o, none⟩) len cap) (.int k i)) K = K (.pointer (some ⟨b, o + i.toNat * 4, none⟩)) := (N1 (K := K) B6C A0y h0 h1 b o)
@[simp] theorem C6l {k : IntKind} {i : Int} {len cap : Nat} (h0 : 0 ≤ i) (h1 : i < len) (b o : Nat) (K : Value → WP) : A0 PR (Instr.indexAt 208 (.slice (some ⟨b, o, none⟩) len cap) (.int k i)) K = K (.pointer (some ⟨b, o + i.toNat * 2, none⟩)) := (N1 (K := K) B2H A4y h0 h1 b o)
@[simp] theorem C6u {k : IntKind} {i : Int} {len cap : Nat} (h0 : 0 ≤ i) (h1 : i < len) (b o : Nat) (K : Value → WP) : A0 PR (Instr.indexAt 229 (.slice (some ⟨b, o, none⟩) len cap) (.int k i)) K = K (.pointer (some ⟨b, o + i.toNat * 2, none⟩)) := (N1 (K := K) B57 A9v h0 h1 b o)
theorem C16 : TI PR 24 Tryz.t24.desc 1 24 (.slice none 0 0) := ⟨Tryz.underlying24, Tryz.t24, by kernel_rfl, rfl, rfl, rfl⟩
@[simp] theorem C7x {k : IntKind} {i : Int} {len cap : Nat} (h0 : 0 ≤ i) (h1 : i < len) (b o : Nat) (K : Value → WP) : A0 PR (Instr.indexAt 24 (.slice (some ⟨b, o, none⟩) len cap) (.int k i)) K = K (.pointer (some ⟨b, o + i.toNat * 5, none⟩)) := (N1 (K := K) C16 B5l h0 h1 b o)
theorem B6H : TI PR 307 Tryz.t90.desc 1 24 (.slice none 0 0) := ⟨Tryz.underlying307, Tryz.t307, by kernel_rfl, rfl, rfl, rfl⟩
@[simp] theorem C6k {k : IntKind} {i : Int} {len cap : Nat} (h0 : 0 ≤ i) (h1 : i < len) (b o : Nat) (K : Value → WP) : A0 PR (Instr.indexAt 307 (.slice (some ⟨b, o, none⟩) len cap) (.int k i)) K = K (.pointer (some ⟨b, o + i.toNat * 2, none⟩)) := (N1 (K := K) B6H B2E h0 h1 b o)
@[simp] theorem C7g {k : IntKind} {i : Int} {len cap : Nat} (h0 : 0 ≤ i) (h1 : i < len) (b o : Nat) (K : Value → WP) : A0 PR (Instr.indexAt 32 (.slice (some ⟨b, o, none⟩) len cap) (.int k i)) K = K (.pointer (some ⟨b, o + i.toNat * 2, none⟩)) := (N1 (K := K) A7E A6K h0 h1 b o)
@[simp] theorem C7J {k : IntKind} {i : Int} {len cap : Nat} (h0 : 0 ≤ i) (h1 : i < len) (b o : Nat) (K : Value → WP) : A0 PR (Instr.indexAt 320 (.slice (some ⟨b, o, none⟩) len cap) (.int k i)) K = K (.pointer (some ⟨b, o + i.toNat * 2, none⟩)) := (N1 (K := K) B5a A7Q h0 h1 b o)
@[simp] theorem C7w {k : IntKind} {i : Int} {len cap : Nat} (h0 : 0 ≤ i) (h1 : i < len) (b o : Nat) (K : Value → WP) : A0 PR (Instr.indexAt 34 (.slice (some ⟨b, o, none⟩) len cap) (.int k i)) K = K (.pointer (some ⟨b, o + i.toNat, none⟩)) := (by simpa using N1 (K := K) B6U H3 h0 h1 b o)
@[simp] theorem C70 {k : IntKind} {i : Int} {len cap : Nat} (h0 : 0 ≤ i) (h1 : i < len) (b o : Nat) (K : Value → WP) : A0 PR (Instr.indexAt 48 (.slice (some ⟨b, o, none⟩) len cap) (.int k i)) K = K (.pointer (some ⟨b, o + i.toNat, none⟩)) := (by simpa using N1 (K := K) B6j ty9 h0 h1 b o)
@[simp] theorem C7k {k : IntKind} {i : Int} {len cap : Nat} (h0 : 0 ≤ i) (h1 : i < len) (b o : Nat) (K : Value → WP) : A0 PR (Instr.indexAt 76 (.slice (some ⟨b, o, none⟩) len cap) (.int k i)) K = K (.pointer (some ⟨b, o + i.toNat * 4, none⟩)) := (N1 (K := K) B9S A3v h0 h1 b o)
@[simp] theorem C7f {k : IntKind} {i : Int} {len cap : Nat} (h0 : 0 ≤ i) (h1 : i < len) (b o : Nat) (K : Value → WP) : A0 PR (Instr.indexAt 86 (.slice (some ⟨b, o, none⟩) len cap) (.int k i)) K = K (.pointer (some ⟨b, o + i.toNat, none⟩)) := (by simpa using N1 (K := K) B3F B9A h0 h1 b o)
@[simp] theorem C7r {k : IntKind} {i : Int} {len cap : Nat} (h0 : 0 ≤ i) (h1 : i < len) (b o : Nat) (K : Value → WP) : A0 PR (Instr.indexAt 94 (.slice (some ⟨b, o, none⟩) len cap) (.int k i)) K = K (.pointer (some ⟨b, o + i.toNat * 4, none⟩)) := (N1 (K := K) A8Z A0y h0 h1 b o)
@[simp] theorem C6Q (a : Option Addr) (n c : Nat) (K : Value → WP) : A0 PR (A8 .len #[127] 0 [.slice a n c]) K = K (.int .i64 n) := k6 A17 a n c
@[simp] theorem C5b (a : Option Addr) (n c : Nat) (K : Value → WP) : A0 PR (A8 .len #[135] 0 [.slice a n c]) K = K (.int .i64 n) := k6 A9y a n c
@[simp] theorem C5A (a : Option Addr) (n c : Nat) (K : Value → WP) : A0 PR (A8 .len #[176] 0 [.slice a n c]) K = K (.int .i64 n) := k6 B6C a n c
@[simp] theorem C6S (a : Option Addr) (n c : Nat) (K : Value → WP) : A0 PR (A8 .len #[208] 0 [.slice a n c]) K = K (.int .i64 n) := k6 B2H a n c
@[simp] theorem C5n (a : Option Addr) (n c : Nat) (K : Value → WP) : A0 PR (A8 .len #[229] 0 [.slice a n c]) K = K (.int .i64 n) := k6 B57 a n c
@[simp] theorem C7Q (a : Option Addr) (n c : Nat) (K : Value → WP) : A0 PR (A8 .len #[24] 0 [.slice a n c]) K = K (.int .i64 n) := k6 C16 a n c
@[simp] theorem C5a (a : Option Addr) (n c : Nat) (K : Value → WP) : A0 PR (A8 .len #[307] 0 [.slice a n c]) K = K (.int .i64 n) := k6 B6H a n c
@[simp] theorem C6s (a : Option Addr) (n c : Nat) (K : Value → WP) : A0 PR (A8 .len #[32] 0 [.slice a n c]) K = K (.int .i64 n) := k6 A7E a n c
@[simp] theorem C5N (a : Option Addr) (n c : Nat) (K : Value → WP) : A0 PR (A8 .len #[320] 0 [.slice a n c]) K = K (.int .i64 n) := k6 B5a a n c
@[simp] theorem C63 (a : Option Addr) (n c : Nat) (K : Value → WP) : A0 PR (A8 .len #[34] 0 [.slice a n c]) K = K (.int .i64 n) := k6 B6U a n c
@[simp] theorem C7F (a : Option Addr) (n c : Nat) (K : Value → WP) : A0 PR (A8 .len #[48] 0 [.slice a n c]) K = K (.int .i64 n) := k6 B6j a n c
@[simp] theorem C66 (a : Option Addr) (n c : Nat) (K : Value → WP) : A0 PR (A8 .len #[76] 0 [.slice a n c]) K = K (.int .i64 n) := k6 B9S a n c
@[simp] theorem C7C (a : Option Addr) (n c : Nat) (K : Value → WP) : A0 PR (A8 .len #[86] 0 [.slice a n c]) K = K (.int .i64 n) := k6 B3F a n c
@[simp] theorem C7u (s : ByteArray) (K : Value → WP) : A0 PR (A8 .len #[9] 0 [.string s]) K = K (.int .i64 s.size) := C3D ty9 s
@[simp] theorem C7U (a : Option Addr) (n c : Nat) (K : Value → WP) : A0 PR (A8 .len #[94] 0 [.slice a n c]) K = K (.int .i64 n) := k6 A8Z a n c
@[simp] theorem C7G (a : Addr) (K : Value → WP) (w : World) : A6 PR (Instr.loadAt 129 (.pointer (some a))) K w = rdc (w.cell? a) K (far PR 129 a K) w := B2Z A3J rfl a
@[simp] theorem C73 (a : Addr) (K : Value → WP) (w : World) : A6 PR (Instr.loadAt 3 (.pointer (some a))) K w = rdc (w.cell? a) K (far PR 3 a K) w := B2Z H3 rfl a
@[simp] theorem C6n (v : Value) (K : Value → WP) : A0 PR (Instr.makeInterface 246 v) K = K (.iface 246 v) := B05 C0f (by intro ms h; cases h) v
@[simp] theorem C64 (v : Value) (K : Value → WP) : A0 PR (Instr.makeInterface 247 v) K = K (.iface 247 v) := B05 C0n (by intro ms h; cases h) v
@[simp] theorem C4l (b o : Nat) (K : Value → WP) : A0 PR (Instr.sliceAt 126 (.pointer (some ⟨b, o, none⟩)) none none none) K = K (.slice (some ⟨b, o, none⟩) 38 38) := B8G B5r ty5 b o
@[simp] theorem C7l {k1 : IntKind} {hi : Int} {s : ByteArray} (h0 : 0 ≤ hi) (h1 : hi ≤ s.size) (K : Value → WP) : A0 PR (Instr.sliceAt 9 (.string s) none (some (.int k1 hi)) none) K = K (.string (s.extract 0 hi.toNat)) := B7e ty9 h0 h1
@[simp] theorem C7j {k1 : IntKind} {lo : Int} {s : ByteArray} (h0 : 0 ≤ lo) (h1 : lo ≤ s.size) (K : Value → WP) : A0 PR (Instr.sliceAt 9 (.string s) (some (.int k1 lo)) none none) K = K (.string (s.extract lo.toNat s.size)) := B7d ty9 h0 h1
@[simp] theorem C8A {k1 k2 : IntKind} {lo hi : Int} {s : ByteArray} (h0 : 0 ≤ lo) (h1 : lo ≤ hi) (h2 : hi ≤ s.size) (K : Value → WP) : A0 PR (Instr.sliceAt 9 (.string s) (some (.int k1 lo)) (some (.int k2 hi)) none) K = K (.string (s.extract lo.toNat hi.toNat)) := B9u ty9 h0 h1 h2
theorem C0Z : TI PR 151 Tryz.t151.desc 1 8 (.map none) := ⟨Tryz.underlying151, Tryz.t151, by kernel_rfl, rfl, rfl, rfl⟩
theorem B2S : TI PR 180 Tryz.t179.desc 1 16 .nilIface := ⟨Tryz.underlying180, Tryz.t180, by kernel_rfl, rfl, rfl, rfl⟩
theorem B2C : TI PR 181 Tryz.t181.desc 1 8 (.map none) := ⟨Tryz.underlying181, Tryz.t181, by kernel_rfl, rfl, rfl, rfl⟩
end Go.Proofs.YtpbmephflllolaaGreat
namespace Go.Proofs.YtpbmephflllolaaGreat
open Go
@[simp] theorem B8W (a b : ByteArray) : (a == b) = decide (a = b) := by
 obtain ⟨x⟩ := a; obtain ⟨y⟩ := b
 have h : ((⟨x⟩ : ByteArray) == ⟨y⟩) = (x == y) := rfl
 rw [h]
 by_cases e : x = y
 ·subst e; simp
 ·simp [e]
@[simp] theorem C3v (a : Array UInt8) : (ByteArray.mk a).size = a.size := rfl
theorem B3j (ns : List Int) : (A2E ns).data.toList = ns.map fun n => UInt8.ofNat n.toNat := by
 have : ∀ (l : List Int) (r : ByteArray), (l.foldl (fun r n => r.push (UInt8.ofNat n.toNat)) r).data.toList = r.data.toList ++ l.map fun n => UInt8.ofNat n.toNat := by
  intro l
  induction l with
  | nil => intro r; simp
  | cons x l ih => intro r; rw [List.foldl_cons, ih]; simp [ByteArray.push]
 have h := this ns ByteArray.empty
 rw [show ByteArray.empty.data.toList = [] from rfl, List.nil_append] at h
 exact h
@[simp] theorem C2f (ns : List Int) : (A2E ns).size = ns.length := by
 have := congrArg List.length (B3j ns)
 rw [List.length_map] at this
 exact this
class TS (t : TypeId) (z : outParam Value) : Prop where
 ti : ∃ d m, TI PR t d 1 m z ∧ N4 d = false
class TG (t : TypeId) (n : outParam Nat) (z : outParam Value) : Prop where
 ti : ∃ d m, TI PR t d n m z ∧ N4 d = true
class TA (t : TypeId) (n : outParam Nat) (z : outParam Value) : Prop where
 ti : ∃ d m, TI PR t d n m z
class SL (t : TypeId) (e : outParam TypeId) (k by' : outParam Nat) (z : outParam Value) : Prop where
 ti : (∃ n m z', TI PR t (.slice e) n m z') ∧ (∃ d, TI PR e d k by' z) ∧ z.cells.size = k
instance TS.ta {t : TypeId} {z : Value} [h : TS t z] : TA t 1 z := ⟨let ⟨d, m, h, _⟩ := h.ti; ⟨d, m, h⟩⟩
instance TG.ta {t : TypeId} {n : Nat} {z : Value} [h : TG t n z] : TA t n z := ⟨let ⟨d, m, h, _⟩ := h.ti; ⟨d, m, h⟩⟩
def rdq (x : Option (List Value)) (G : List Value → WP) (F : WP) : WP := match x with | some l => G l | none => F
@[simp] theorem A8x (l : List Value) (G : List Value → WP) (F : WP) : rdq (some l) G F = G l := id rfl
@[congr] theorem C5E {x x' : Option (List Value)} {G : List Value → WP} {F : WP} (h : x = x') {q : Nat} (hq : V6 = q) : rdq x G F = rdq x' G F := by rw [h]
@[simp] theorem C6y (xs : List Value) : S9 xs 0 0 = some [] := by simp [S9]
@[simp] theorem C3x (x : Value) (xs : List Value) (n : Nat) : S9 (x :: xs) 0 (n + 1) = (S9 xs 0 n).map (x :: ·) := by
 simp only [S9, Nat.zero_add, List.length_cons, List.drop_zero, List.take_succ_cons]
 by_cases h : n ≤ xs.length
 ·rw [if_pos h, if_pos (by omega)]; rfl
 ·rw [if_neg h, if_neg (by omega)]; rfl
theorem B03 {α : Type} {l : List α} {f : α → List Value} {k i : Nat} {x : α} (hk : ∀ x, (f x).length = k) (hx : l[i]? = some x) : S9 (l.flatMap f) (i * k) k = some (f x) := by
 obtain ⟨hlt, hx'⟩ := List.getElem?_eq_some_iff.1 hx
 have h1 : (i + 1) * k ≤ l.length * k := Nat.mul_le_mul_right k hlt
 rw [Nat.add_mul] at h1
 rw [S9, if_pos (by rw [H4 hk]; omega), A6r hk, List.drop_eq_getElem_cons hlt, List.flatMap_cons, hx']
 rw [List.take_left' (hk x)]
inductive Sel (r : Res) : List Res → List Res → Prop where
 | here {H : List Res} : Sel r (r :: H) H
 | there {x : Res} {H H' : List Res} : Sel r H H' → Sel r (x :: H) (x :: H')
theorem Sel.perm {r : Res} {H Hr : List Res} (h : Sel r H Hr) : H.Perm (r :: Hr) := by
 induction h with
 | here => exact .refl _
 | there _ ih => exact (ih.cons _).trans (.swap ..)
theorem Sel.sub {r : Res} {H Hr : List Res} (h : Sel r H Hr) : Hr.Sublist H := by
 induction h with
 | here => exact List.sublist_cons_self ..
 | there _ ih => exact ih.cons_cons _
theorem A1 {r : Res} {H : List Res} : r ∈ r :: H := List.mem_cons_self ..
theorem uH {r r' : Res} {H : List Res} : Up r r' (r :: H) (r' :: H) := Up.here
theorem uT {r r' x : Res} {H H' : List Res} (h : Up r r' H H') : Up r r' (x :: H) (x :: H') := Up.there h
theorem A2 {r x : Res} {H : List Res} (h : r ∈ H) : r ∈ x :: H := List.mem_cons_of_mem _ h
inductive Sels : List Res → List Res → Prop where
 | nil {H : List Res} : Sels [] H
 | cons {r : Res} {rs H Hr : List Res} : Sel r H Hr → Sels rs Hr → Sels (r :: rs) H
theorem Sels.sub {rs H : List Res} (h : Sels rs H) : ∃ H', H.Perm H' ∧ rs.Sublist H' := by
 induction h with
 | nil => exact ⟨_, .refl _, List.nil_sublist _⟩
 | cons h1 _ ih => obtain ⟨H', h2, h3⟩ := ih; exact ⟨_ :: H', h1.perm.trans (h2.cons _), h3.cons_cons _⟩
theorem Sels.lw {κ : Bool} {S : List Nat} {w0 w : World} {rs H : List Res} (h : Sels rs H) (hw : LW κ S w0 H w) : LW κ S w0 rs w := let ⟨_, h1, h2⟩ := h.sub; (hw.perm h1).sub h2
theorem Sels.tw {κ : Bool} {S : List Nat} {w0 : World} {rs H : List Res} {K : WP} (h : Sels rs H) (hk : TW κ S w0 rs K) : TW κ S w0 H K := fun w hw => hk w (h.lw hw)
inductive Part : List Res → List Res → List Res → Prop where
 | nil {H : List Res} : Part [] H H
 | cons {r : Res} {rs H H1 Hk : List Res} : Sel r H H1 → Part rs H1 Hk → Part (r :: rs) H Hk
theorem Part.perm {Hc H Hk : List Res} (h : Part Hc H Hk) : H.Perm (Hc ++ Hk) := by
 induction h with
 | nil => exact .refl _
 | cons h1 _ ih => exact h1.perm.trans (ih.cons _)
theorem D8 {κ : Bool} {X : Nat → Prop} {S : List Nat} {w0 : World} {H Hk Hc : List Res} {K : Value → WP} {f : FuncId} {args : List Value} {α : Type} {φ : α → Value → Prop} {Hn : α → List Res} (he : A9 PR f)
  (hf : ∀ w, LW κ S w0 (Hc ++ Hk) w → LW false (B3 Hc) w Hc w → Fn PR B4 f args.toArray w (Rn (B3 Hc) w φ Hn)) (hp : Part Hc H Hk) (hK : ∀ a v, φ a v → TW κ S w0 (Hn a ++ Hk) (K v)) : TW κ S w0 H (B1 PR X f args K) :=
 A86 he hp.perm (fun w hw => let h := hw.perm hp.perm; hf w h (h.sub (List.sublist_append_left _ _)).self) hK
theorem B8 {κ : Bool} {S : List Nat} {w0 : World} {H : List Res} {α : Type} {φ : α → Value → Prop} {Hn : α → List Res} {v : Value} (a : α) (h : φ a v) (hs : Sels (Hn a) H) : TW κ S w0 H (Rn S w0 φ Hn v) := fun w hw => ⟨a, h, hs.lw hw.low⟩
theorem B56 {κ : Bool} {S : List Nat} {w0 : World} {H : List Res} {F : Value → Value → WP} {A : (Value → Value → WP) → WP} {α : Type} (φ : α → Prop) (Hh : α → List Res) (v1 v2 : α → Value) (hF : ∀ x, φ x → TW κ S w0 (Hh x) (F (v1 x) (v2 x)))
  (hA : ∀ J : Value → Value → WP, (∀ x, φ x → TW κ S w0 (Hh x) (J (v1 x) (v2 x))) → TW κ S w0 H (A J)) : TW κ S w0 H (kt (n := 2) F A) := hA F hF
theorem F5.form {w : World} {v : Value} {n : Nat} {xs : List Value} (h : F5 w v n xs) : ∃ a c, v = .slice a n c ∧ (0 < n → ∃ b o, a = some ⟨b, o, none⟩ ∧ K9 w b o xs) := by
 rcases h with ⟨rfl, rfl, a, c, rfl⟩ | ⟨b, o, c, rfl, hr⟩
 ·exact ⟨a, c, rfl, fun h => absurd h (by omega)⟩
 ·exact ⟨_, c, rfl, fun _ => ⟨b, o, rfl, hr⟩⟩
theorem K9.at {w : World} {b o k : Nat} {α : Type} {l : List α} {f : α → List Value} (h : K9 w b o (l.flatMap f)) (hk : ∀ x, (f x).length = k) {i : Nat} {x : α} (hx : l[i]? = some x) : b9 w b (o + i * k) k = some (f x) := by
 have h1 : K9 w b (o + i * k) (f x) := fun j hj => by
  rw [hk] at hj
  have h2 := T0 hk l i j hj
  rw [hx] at h2
  have h3 : (l.flatMap f)[i * k + j]? = some ((f x)[j]'(by rw [hk]; exact hj)) := by rw [h2]; simp [List.getElem?_eq_getElem, hk, hj]
  rw [Nat.add_assoc, h.get h3]; simp [List.getElem?_eq_getElem, hk, hj]
 have := A2B h1
 rwa [hk] at this
theorem K9.cellAt {w : World} {b o k : Nat} {α : Type} {l : List α} {f : α → List Value} (h : K9 w b o (l.flatMap f)) (hk : ∀ x, (f x).length = k) {i j : Nat} {x : α} {u : Value} (hx : l[i]? = some x) (hu : (f x)[j]? = some u) : w.cell? ⟨b, o + i * k + j, none⟩ = some u := by
 have hj : j < k := by rw [← hk x]; exact (List.getElem?_eq_some_iff.1 hu).1
 have h2 := T0 hk l i j hj
 rw [hx] at h2
 rw [Nat.add_assoc]
 exact h.get (by rw [h2]; exact hu)
theorem K9.one {w : World} {b o : Nat} {α : Type} {l : List α} {f : α → Value} (h : K9 w b o (l.map f)) {i : Nat} {x : α} (hx : l[i]? = some x) : w.cell? ⟨b, o + i, none⟩ = some (f x) := h.get (by simp [hx])
section
variable {κ : Bool} {X : Nat → Prop} {S : List Nat} {w0 : World} {H H' Hr : List Res} {K : Value → WP} {K0 : WP} {t e : TypeId} {n k by' : Nat} {z : Value}
theorem C4W {s : Sem Value} {v : Value} (h : ∀ w, LW κ S w0 H w → A6 PR s K w = K v w) : TW κ S w0 H (A6 PR s K) = TW κ S w0 H (K v) := TW.congr h
theorem B8a {s : Sem Value} {v : Value} (hK : TW κ S w0 H (K v)) (h : ∀ w, LW κ S w0 H w → A6 PR s K w = K v w) : TW κ S w0 H (A6 PR s K) := fun w hw => by rw [h w hw]; exact hK w hw
theorem p4 {v : Value} {q : Nat} {xs : List Value} (hm : Res.own e k v q xs ∈ H) (hq : 0 < q) (h : ∀ g c, v = .slice (some ⟨g, 0, none⟩) q c → TW κ S w0 H K0) : TW κ S w0 H K0 := fun w hw => by
 rcases (hw.hold _ hm).2 with ⟨_, rfl⟩ | ⟨g, c, _, rfl, _⟩
 ·omega
 ·exact h g c rfl w hw
@[simp] theorem C7n [h : TS t z] {b o : Nat} {c : Array Value} {T : TypeId} {f : Nat × Nat} (hm : Res.pt b (.cells c T f) ∈ H) :
  TW κ S w0 H (A6 PR (Instr.loadAt t (.pointer (some ⟨b, o, none⟩))) K) = TW κ S w0 H (rdc c[o]? K (far PR t ⟨b, o, none⟩ K)) := let ⟨_, _, h, hd⟩ := h.ti; C1y h hd hm
@[simp] theorem C7H [h : TS t z] {g o : Nat} {k q c : Nat} {xs : List Value} (hm : Res.own e k (.slice (some ⟨g, 0, none⟩) q c) q xs ∈ H) :
  TW κ S w0 H (A6 PR (Instr.loadAt t (.pointer (some ⟨g, o, none⟩))) K) = TW κ S w0 H (rdc xs[o]? K (A6 PR (Instr.loadAt t (.pointer (some ⟨g, o, none⟩))) K)) := by
 cases hv : xs[o]? with
 | none => rfl
 | some v => exact let ⟨_, _, h, hd⟩ := h.ti; B8r h hd hm hv
@[simp] theorem C6p [h : TS t z] {b o : Nat} {v : Value} (hc : w0.cell? ⟨b, o, none⟩ = some v) (hS : b ∉ S) :
  TW κ S w0 H (A6 PR (Instr.loadAt t (.pointer (some ⟨b, o, none⟩))) K) = TW κ S w0 H (K v) := let ⟨_, _, h, hd⟩ := h.ti; B94 h hd hc hS
@[simp] theorem C6x [h : TG t n z] {b o : Nat} {c : Array Value} {T : TypeId} {f : Nat × Nat} (hm : Res.pt b (.cells c T f) ∈ H) :
  TW κ S w0 H (A6 PR (Instr.loadAt t (.pointer (some ⟨b, o, none⟩))) K) = TW κ S w0 H (rdq (S9 c.toList o n) (fun l => K (.agg l.toArray)) (A6 PR (Instr.loadAt t (.pointer (some ⟨b, o, none⟩))) K)) := by
 cases hl : S9 c.toList o n with
 | none => rfl
 | some l => exact let ⟨_, _, h, hd⟩ := h.ti; B9p h hd hm hl
@[simp] theorem C5v [h : TG t n z] {g o : Nat} {k q c : Nat} {xs : List Value} (hm : Res.own e k (.slice (some ⟨g, 0, none⟩) q c) q xs ∈ H) :
  TW κ S w0 H (A6 PR (Instr.loadAt t (.pointer (some ⟨g, o, none⟩))) K) = TW κ S w0 H (rdq (S9 xs o n) (fun l => K (.agg l.toArray)) (A6 PR (Instr.loadAt t (.pointer (some ⟨g, o, none⟩))) K)) := by
 cases hl : S9 xs o n with
 | none => rfl
 | some l => exact let ⟨_, _, h, hd⟩ := h.ti; B63 h hd hm hl
@[simp] theorem C5J [h : TG t n z] {b o : Nat} {l : List Value} (hc : b9 w0 b o n = some l) (hS : b ∉ S) :
  TW κ S w0 H (A6 PR (Instr.loadAt t (.pointer (some ⟨b, o, none⟩))) K) = TW κ S w0 H (K (.agg l.toArray)) := let ⟨_, _, h, hd⟩ := h.ti; B7U h hd hc hS
@[simp] theorem C2p [h : TS t z] {b o : Nat} {c : Array Value} {T : TypeId} {f : Nat × Nat} (hm : Res.pt b (.cells c T f) ∈ H) {v : Value} (hv : c[o]? = some v) :
  TW κ S w0 H (A6 PR (D9 [.c t (.pointer (some ⟨b, o, none⟩))]) K) = TW κ S w0 H (K v) := let ⟨_, _, h, hd⟩ := h.ti; C19 h hd hm hv
@[simp] theorem C79 [h : TG t n z] {b o : Nat} {c : Array Value} {T : TypeId} {f : Nat × Nat} (hm : Res.pt b (.cells c T f) ∈ H) :
  TW κ S w0 H (A6 PR (D9 [.c t (.pointer (some ⟨b, o, none⟩))]) K) = TW κ S w0 H (rdq (S9 c.toList o n) (fun l => K (.agg l.toArray)) (A6 PR (D9 [.c t (.pointer (some ⟨b, o, none⟩))]) K)) := by
 cases hl : S9 c.toList o n with
 | none => rfl
 | some l => exact let ⟨_, _, h, hd⟩ := h.ti; C2W h hd hm hl
@[simp] theorem C7v [h : TG t n z] {b o : Nat} {c : Array Value} {T : TypeId} {f : Nat × Nat} {x : Value} (hm : Res.pt b (.cells c T f) ∈ H) :
  TW κ S w0 H (A6 PR (D9 [.c t (.pointer (some ⟨b, o, none⟩)), .v x]) K) = TW κ S w0 H (rdq (S9 c.toList o n) (fun l => K (.tuple #[.agg l.toArray, x])) (A6 PR (D9 [.c t (.pointer (some ⟨b, o, none⟩)), .v x]) K)) := by
 cases hl : S9 c.toList o n with
 | none => rfl
 | some l =>
   obtain ⟨_, _, h, hd⟩ := h.ti
   refine TW.congr fun w hw => ?_
   rw [A8x]
   have hr := A0j hl (K9.bl (hw.pt hm)); have h2 := m9 hr
   refine P3 ?_ K
   have := x6 h hd h2.1 h2.2
   simp only [Instr.loadAt, Instr.sureAddr, Sem.run_bind, Sem.run_pure, Result.andThen_ok] at this
   simp [D9, A1f, RV.sem, asAddr, this, one]
@[simp] theorem C7m [h : TG t n z] {b o : Nat} {c : Array Value} {T : TypeId} {f : Nat × Nat} {x y : Value} (hm : Res.pt b (.cells c T f) ∈ H) :
  TW κ S w0 H (A6 PR (D9 [.c t (.pointer (some ⟨b, o, none⟩)), .v x, .v y]) K) = TW κ S w0 H (rdq (S9 c.toList o n) (fun l => K (.tuple #[.agg l.toArray, x, y])) (A6 PR (D9 [.c t (.pointer (some ⟨b, o, none⟩)), .v x, .v y]) K)) := by
 cases hl : S9 c.toList o n with
 | none => rfl
 | some l =>
   obtain ⟨_, _, h, hd⟩ := h.ti
   refine TW.congr fun w hw => ?_
   rw [A8x]
   have hr := A0j hl (K9.bl (hw.pt hm)); have h2 := m9 hr
   refine P3 ?_ K
   have := x6 h hd h2.1 h2.2
   simp only [Instr.loadAt, Instr.sureAddr, Sem.run_bind, Sem.run_pure, Result.andThen_ok] at this
   simp [D9, A1f, RV.sem, asAddr, this, one]
@[simp] theorem C4S [h : TS t z] {b o : Nat} {c : Array Value} {T : TypeId} {f : Nat × Nat} {v : Value} {l : List Rd} (hm : Res.pt b (.cells c T f) ∈ H) (hv : c[o]? = some v) :
  TW κ S w0 H (watch PR ((none, Instr.loadAt t (.pointer (some ⟨b, o, none⟩)), v) :: l) K0) = TW κ S w0 H (watch PR l K0) := let ⟨_, _, h, hd⟩ := h.ti; A4Q fun w hw => l7 h hd (by rw [H6 (hw.pt hm)]; exact hv)
@[simp] theorem C3P [h : TS t z] {g o : Nat} {k q c : Nat} {xs : List Value} {v : Value} {l : List Rd} (hm : Res.own e k (.slice (some ⟨g, 0, none⟩) q c) q xs ∈ H) (hv : xs[o]? = some v) :
  TW κ S w0 H (watch PR ((none, Instr.loadAt t (.pointer (some ⟨g, o, none⟩)), v) :: l) K0) = TW κ S w0 H (watch PR l K0) := let ⟨_, _, h, hd⟩ := h.ti; A4Q fun w hw => l7 h hd (by have := (hw.ownr hm).get hv; rwa [Nat.zero_add] at this)
@[simp] theorem C3L [h : TS t z] {b o : Nat} {v : Value} {l : List Rd} (hc : w0.cell? ⟨b, o, none⟩ = some v) (hS : b ∉ S) :
  TW κ S w0 H (watch PR ((none, Instr.loadAt t (.pointer (some ⟨b, o, none⟩)), v) :: l) K0) = TW κ S w0 H (watch PR l K0) := let ⟨_, _, h, hd⟩ := h.ti; A4Q fun w hw => l7 h hd (hw.ks.cell hS hc)
@[simp] theorem C8a [h : TA t n z] {v : Value} {b o : Nat} {c : Array Value} {T : TypeId} (hv : v.cells.size = n)
  (hu : Up (.pt b (.cells c T (0, 0))) (.pt b (.cells (F1 c o v.cells.toList) T (0, 0))) H H') (hs : o + n ≤ c.size) (hp : v.cells.toList.all plain = true) :
  TW κ S w0 H (B9 PR X (Instr.storeAt t (.pointer (some ⟨b, o, none⟩)) v) K0) = TW κ S w0 H' K0 := let ⟨_, _, h⟩ := h.ti; C7b h hv hu hs hp
theorem f8 [h : TA t n z] {v : Value} {g o q c : Nat} {xs : List Value} (hu : Up (.own e k (.slice (some ⟨g, 0, none⟩) q c) q xs) (.own e k (.slice (some ⟨g, 0, none⟩) q c) q (u4 xs o v.cells.toList)) H H')
  (hv : v.cells.size = n) (hs : o + n ≤ xs.length) (hp : v.cells.toList.all plain = true) (hK : TW κ S w0 H' K0) :
  TW κ S w0 H (B9 PR X (Instr.storeAt t (.pointer (some ⟨g, o, none⟩)) v) K0) := let ⟨_, _, h⟩ := h.ti; B9y h hv hu hs hp hK
theorem A4 [h : TA t n z] (hK : ∀ b, TW κ S w0 (.pt b (.cells z.cells t) :: H) (K (.pointer (some ⟨b, 0, none⟩)))) : TW κ S w0 H (B2 PR X (Instr.alloc t true (.tuple #[])) K) := let ⟨_, _, h⟩ := h.ti; C6r h hK
theorem B93 {k1 k2 : IntKind} {l : Int} [h : SL t e k by' z] (h0 : 0 ≤ l) (hb : l * by' ≤ 140737488355328) (hc : l ≤ 9223372036854775807) (hk : 0 < k)
  (hK : ∀ b, TW κ S w0 (.own e k (.slice (some ⟨b, 0, none⟩) l.toNat l.toNat) l.toNat (Builtin.zeroCells z.cells l.toNat).toList :: H) (K (.slice (some ⟨b, 0, none⟩) l.toNat l.toNat))) :
  TW κ S w0 H (B2 PR X (Instr.makeSlice t (.int k1 l) (.int k2 l)) K) := let ⟨⟨_, _, _, h1⟩, ⟨_, h2⟩, h3⟩ := h.ti; C65 h1 h2 h3 hk h0 rfl hb hc hK
theorem D0 [h : SL t e k by' z] (hK : ∀ b, TW κ S w0 (.own e k (.slice (some ⟨b, 0, none⟩) 0 0) 0 [] :: H) (K (.slice (some ⟨b, 0, none⟩) 0 0))) : TW κ S w0 H (B2 PR X (Instr.buildSlice t 0 #[]) K) :=
 let ⟨⟨_, _, _, h1⟩, ⟨_, h2⟩, h3⟩ := h.ti; C4u h1 h2 hK
theorem B98 {m n q : Nat} (hq : 0 < n) : ∀ (vs : List Value) (i : Nat) (cs : Array Value), (∀ v ∈ vs, v.cells.size = n) → (i + vs.length) * n ≤ cs.size →
  Instr.fill (fun i => some (i * n, n)) cs ((List.range' i vs.length).zip vs) = some (F1 cs (i * n) (vs.flatMap fun v => v.cells.toList)) := by
 intro vs
 induction vs with
 | nil => intro i cs _ _; simp [Instr.fill]
 | cons v vs ih =>
  intro i cs hv hs
  simp only [List.length_cons] at hs
  have hv0 : v.cells.size = n := hv v (by simp)
  have e1 : (i + (vs.length + 1)) * n = i * n + n + vs.length * n := by rw [Nat.add_mul, Nat.add_mul]; omega
  simp only [List.length_cons, List.range'_succ, List.zip_cons_cons]
  rw [B7 rfl hv0 (by omega), ih (i + 1) _ (fun u hu => hv u (by simp [hu])) (by rw [C0]; (have : (i + 1 + vs.length) * n = i * n + n + vs.length * n := by (rw [Nat.add_mul, Nat.add_mul]; omega)); omega)]
  have spl_spl : ∀ (l l' : List Value) (c : Array Value) (o : Nat), F1 (F1 c o l) (o + l.length) l' = F1 c o (l ++ l') := by
   intro l
   induction l with
   | nil => intro l' c o; simp
   | cons u l ih => intro l' c o; simp only [B3e, List.cons_append, List.length_cons]; rw [← ih]; congr 1; omega
  rw [List.flatMap_cons, ← spl_spl]
  congr 2
  have : v.cells.toList.length = n := by simp [hv0]
  rw [this, Nat.add_mul]; omega
theorem B3c {len : Nat} {parts : Array (Nat × Value)} (vs : List Value) [h : SL t e k by' z] (hk : 0 < k) (h0 : 0 < len) (hb : len * k ≤ 2 ^ 24) (hp : parts.toList = (List.range' 0 len).zip vs) (hl : vs.length = len) (hv : ∀ v ∈ vs, v.cells.size = k)
  (hK : ∀ b, TW κ S w0 (.own e k (.slice (some ⟨b, 0, none⟩) len len) len (vs.flatMap fun v => v.cells.toList) :: H) (K (.slice (some ⟨b, 0, none⟩) len len))) :
  TW κ S w0 H (B2 PR X (Instr.buildSlice t len parts) K) := by
 obtain ⟨⟨_, _, _, h1⟩, ⟨_, h2⟩, h3⟩ := h.ti
 have hlen : (vs.flatMap fun v => v.cells.toList).length = len * k := by
  rw [← hl]; clear hp hl hK hb h0
  induction vs with
  | nil => simp
  | cons v vs ih =>
   have := hv v (by simp)
   rw [List.flatMap_cons, List.length_append, ih fun u hu => hv u (by simp [hu])]
   simp only [Array.length_toList, List.length_cons, this]; rw [Nat.add_mul]; omega
 have hf := B98 (m := 0) (q := 0) hk vs 0 ((Array.range (len * k)).map (z.cells[· % z.cells.size]!)) hv (by simp [hl])
 rw [hl, ← hp] at hf
 have hz : F1 ((Array.range (len * k)).map (z.cells[· % z.cells.size]!)) (0 * k) (vs.flatMap fun v => v.cells.toList) = (vs.flatMap fun v => v.cells.toList).toArray := by
  apply Array.toList_inj.1
  rw [A0C _ _ _ (by simp [-List.length_flatMap, hlen])]
  simp only [Nat.zero_mul, List.take_zero, List.nil_append, hlen, Nat.zero_add]
  rw [List.drop_eq_nil_of_le (by simp)]; simp
 refine C6Z h1 h2 hb (by have : 0 < len * k := Nat.mul_pos h0 hk; omega) (hf.trans (by rw [hz])) (by simp [-List.length_flatMap, hlen]) ?_
 simpa using hK
theorem D5 {v0 : Value} [h : SL t e k by' z] (hk : 0 < k := by decide) (hb : 1 * k ≤ 2 ^ 24 := by decide) (h0 : v0.cells.size = k := by simp) (hK : ∀ b, TW κ S w0 (.own e k (.slice (some ⟨b, 0, none⟩) 1 1) 1 (v0.cells.toList) :: H) (K (.slice (some ⟨b, 0, none⟩) 1 1))) :
  TW κ S w0 H (B2 PR X (Instr.buildSlice t 1 #[(0, v0)]) K) := B3c [v0] hk (by omega) hb rfl rfl (by intro v hv; simp only [List.mem_cons, List.not_mem_nil, or_false] at hv; subst hv; assumption) (by simpa using hK)
theorem D1 {v0 v1 : Value} [h : SL t e k by' z] (hk : 0 < k := by decide) (hb : 2 * k ≤ 2 ^ 24 := by decide) (h0 : v0.cells.size = k := by simp) (h1 : v1.cells.size = k := by simp) (hK : ∀ b, TW κ S w0 (.own e k (.slice (some ⟨b, 0, none⟩) 2 2) 2 (v0.cells.toList ++ v1.cells.toList) :: H) (K (.slice (some ⟨b, 0, none⟩) 2 2))) :
  TW κ S w0 H (B2 PR X (Instr.buildSlice t 2 #[(0, v0), (1, v1)]) K) := B3c [v0, v1] hk (by omega) hb rfl rfl (by intro v hv; simp only [List.mem_cons, List.not_mem_nil, or_false] at hv; rcases hv with rfl | rfl <;> assumption) (by simpa using hK)
theorem D2 {v0 v1 v2 : Value} [h : SL t e k by' z] (hk : 0 < k := by decide) (hb : 3 * k ≤ 2 ^ 24 := by decide) (h0 : v0.cells.size = k := by simp) (h1 : v1.cells.size = k := by simp) (h2 : v2.cells.size = k := by simp) (hK : ∀ b, TW κ S w0 (.own e k (.slice (some ⟨b, 0, none⟩) 3 3) 3 (v0.cells.toList ++ v1.cells.toList ++ v2.cells.toList) :: H) (K (.slice (some ⟨b, 0, none⟩) 3 3))) :
  TW κ S w0 H (B2 PR X (Instr.buildSlice t 3 #[(0, v0), (1, v1), (2, v2)]) K) := B3c [v0, v1, v2] hk (by omega) hb rfl rfl (by intro v hv; simp only [List.mem_cons, List.not_mem_nil, or_false] at hv; rcases hv with rfl | rfl | rfl <;> assumption) (by simpa using hK)
theorem D3 {v0 v1 v2 v3 v4 : Value} [h : SL t e k by' z] (hk : 0 < k := by decide) (hb : 5 * k ≤ 2 ^ 24 := by decide) (h0 : v0.cells.size = k := by simp) (h1 : v1.cells.size = k := by simp) (h2 : v2.cells.size = k := by simp) (h3 : v3.cells.size = k := by simp) (h4 : v4.cells.size = k := by simp) (hK : ∀ b, TW κ S w0 (.own e k (.slice (some ⟨b, 0, none⟩) 5 5) 5 (v0.cells.toList ++ v1.cells.toList ++ v2.cells.toList ++ v3.cells.toList ++ v4.cells.toList) :: H) (K (.slice (some ⟨b, 0, none⟩) 5 5))) :
  TW κ S w0 H (B2 PR X (Instr.buildSlice t 5 #[(0, v0), (1, v1), (2, v2), (3, v3), (4, v4)]) K) := B3c [v0, v1, v2, v3, v4] hk (by omega) hb rfl rfl (by intro v hv; simp only [List.mem_cons, List.not_mem_nil, or_false] at hv; rcases hv with rfl | rfl | rfl | rfl | rfl <;> assumption) (by simpa using hK)
theorem D4 {v0 v1 v2 v3 v4 v5 : Value} [h : SL t e k by' z] (hk : 0 < k := by decide) (hb : 6 * k ≤ 2 ^ 24 := by decide) (h0 : v0.cells.size = k := by simp) (h1 : v1.cells.size = k := by simp) (h2 : v2.cells.size = k := by simp) (h3 : v3.cells.size = k := by simp) (h4 : v4.cells.size = k := by simp) (h5 : v5.cells.size = k := by simp) (hK : ∀ b, TW κ S w0 (.own e k (.slice (some ⟨b, 0, none⟩) 6 6) 6 (v0.cells.toList ++ v1.cells.toList ++ v2.cells.toList ++ v3.cells.toList ++ v4.cells.toList ++ v5.cells.toList) :: H) (K (.slice (some ⟨b, 0, none⟩) 6 6))) :
  TW κ S w0 H (B2 PR X (Instr.buildSlice t 6 #[(0, v0), (1, v1), (2, v2), (3, v3), (4, v4), (5, v5)]) K) := B3c [v0, v1, v2, v3, v4, v5] hk (by omega) hb rfl rfl (by intro v hv; simp only [List.mem_cons, List.not_mem_nil, or_false] at hv; rcases hv with rfl | rfl | rfl | rfl | rfl | rfl <;> assumption) (by simpa using hK)
theorem M0.form {w : World} {e : TypeId} {k n : Nat} {v : Value} {xs : List Value} (h : M0 w e k v n xs) : ∃ a c, v = .slice a n c := by
 rcases h.2 with ⟨rfl, rfl⟩ | ⟨g, cap, cur, rfl, _⟩
 ·exact ⟨_, _, rfl⟩
 ·exact ⟨_, _, rfl⟩
theorem B71 {q : Nat} {xs : List Value} {A : Value → WP} (h : ∀ a c, TW κ S w0 (.own e k (.slice a q c) q xs :: H) (A (.slice a q c))) (v : Value) : TW κ S w0 (.own e k v q xs :: H) (A v) := fun w hw => by
 obtain ⟨a, c, rfl⟩ := M0.form (hw.hold _ A1)
 exact h a c w hw
theorem A00 {ty : TypeId} {v x : Value} {q r : Nat} {xs news : List Value} [h : SL t e k by' z] (hs : Sel (.own e k v q xs) H Hr) (hx : L5 κ S w0 H x r news) (hk : 0 < k) (hl : news.length = r * k) (hp : news.all plain = true)
  (h63 : q + r ≤ maxLen) (hby : (q + r) * by' ≤ 140737488355328) (hK : ∀ a c, TW κ S w0 (.own e k (.slice a (q + r) c) (q + r) (xs ++ news) :: Hr) (K (.slice a (q + r) c))) : TW κ S w0 H (B2 PR X (A8 .append #[t, t] ty [v, x]) K) := by
 obtain ⟨⟨_, _, _, h1⟩, ⟨_, h2⟩, h3⟩ := h.ti
 refine TW.perm ?_ hs.perm
 exact C4M (H'' := fun v' => .own e k v' (q + r) (xs ++ news) :: Hr) h1 h2 h3 hk (fun v' => .here) (fun w hw => hx w (hw.perm hs.perm.symm)) hl hp h63 hby (B71 hK)
end
end Go.Proofs.YtpbmephflllolaaGreat
namespace Go.Proofs.YtpbmephflllolaaGreat
open Go
instance : TS 3 (.int .i64 0) := ⟨_, _, H3, rfl⟩
instance : TS 5 (.int .u8 0) := ⟨_, _, ty5, rfl⟩
instance : TS 9 (.string (ByteArray.mk #[])) := ⟨_, _, ty9, rfl⟩
instance : TS 21 (.int .i32 0) := ⟨_, _, C3E, rfl⟩
instance : TG 23 5 (.agg #[(.int .i64 0), (.int .i64 0), (.int .i64 0), (.int .i64 0), (.int .i64 0)]) := ⟨_, _, A1e, rfl⟩
instance : TS 25 .nilFunc := ⟨_, _, C3B, rfl⟩
instance : TS 28 (.int .i64 0) := ⟨_, _, A8c, rfl⟩
instance : TS 32 (.slice none 0 0) := ⟨_, _, A7E, rfl⟩
instance : SL 32 75 2 16 (.agg #[(.int .i64 0), (.int .i64 0)]) := ⟨⟨_, _, _, A7E⟩, ⟨_, A6K⟩, rfl⟩
instance : SL 34 3 1 8 (.int .i64 0) := ⟨⟨_, _, _, B6U⟩, ⟨_, H3⟩, rfl⟩
instance : TG 39 4 (.agg #[(.int .i64 0), (.int .i64 0), (.bool false), (.int .i64 0)]) := ⟨_, _, A2H, rfl⟩
instance : TG 42 4 (.agg #[(.int .i64 0), (.string (ByteArray.mk #[])), (.slice none 0 0), (.int .i64 0)]) := ⟨_, _, A3v, rfl⟩
instance : TS 48 (.slice none 0 0) := ⟨_, _, B6j, rfl⟩
instance : SL 48 9 1 16 (.string (ByteArray.mk #[])) := ⟨⟨_, _, _, B6j⟩, ⟨_, ty9⟩, rfl⟩
instance : TG 56 6 (.agg #[(.int .i64 0), (.string (ByteArray.mk #[])), (.string (ByteArray.mk #[])), (.int .i64 0), (.int .i64 0), (.int .i64 0)]) := ⟨_, _, A2s, rfl⟩
instance : TG 58 7 (.agg #[(.int .i64 0), (.string (ByteArray.mk #[])), (.string (ByteArray.mk #[])), (.int .i64 0), (.int .i64 0), (.int .i64 0), (.int .i64 0)]) := ⟨_, _, B0f, rfl⟩
instance : TG 75 2 (.agg #[(.int .i64 0), (.int .i64 0)]) := ⟨_, _, A6K, rfl⟩
instance : SL 76 42 4 56 (.agg #[(.int .i64 0), (.string (ByteArray.mk #[])), (.slice none 0 0), (.int .i64 0)]) := ⟨⟨_, _, _, B9S⟩, ⟨_, A3v⟩, rfl⟩
instance : TS 86 (.slice none 0 0) := ⟨_, _, B3F, rfl⟩
instance : SL 86 93 1 8 (.pointer none) := ⟨⟨_, _, _, B3F⟩, ⟨_, B9A⟩, rfl⟩
instance : TS 90 (.slice none 0 0) := ⟨_, _, B9H, rfl⟩
instance : SL 90 217 2 16 (.agg #[(.int .u64 0), (.int .i64 0)]) := ⟨⟨_, _, _, B9H⟩, ⟨_, B2E⟩, rfl⟩
instance : TS 93 (.pointer none) := ⟨_, _, B9A, rfl⟩
instance : TS 94 (.slice none 0 0) := ⟨_, _, A8Z, rfl⟩
instance : SL 94 160 4 40 (.agg #[(.int .i64 0), (.string (ByteArray.mk #[])), (.int .i64 0), (.int .i64 0)]) := ⟨⟨_, _, _, A8Z⟩, ⟨_, A0y⟩, rfl⟩
instance : TG 119 3 (.agg #[(.int .i64 0), (.int .i64 0), (.int .i64 0)]) := ⟨_, _, A5Q, rfl⟩
instance : TG 122 3 (.agg #[(.string (ByteArray.mk #[])), (.string (ByteArray.mk #[])), (.int .i64 0)]) := ⟨_, _, A7b, rfl⟩
instance : TG 124 3 (.agg #[(.string (ByteArray.mk #[])), (.string (ByteArray.mk #[])), (.int .i64 0)]) := ⟨_, _, A7P, rfl⟩
instance : TG 126 38 (.agg #[(.int .u8 0), (.int .u8 0), (.int .u8 0), (.int .u8 0), (.int .u8 0), (.int .u8 0), (.int .u8 0), (.int .u8 0), (.int .u8 0), (.int .u8 0), (.int .u8 0), (.int .u8 0), (.int .u8 0), (.int .u8 0), (.int .u8 0), (.int .u8 0), (.int .u8 0), (.int .u8 0), (.int .u8 0), (.int .u8 0), (.int .u8 0), (.int .u8 0), (.int .u8 0), (.int .u8 0), (.int .u8 0), (.int .u8 0), (.int .u8 0), (.int .u8 0), (.int .u8 0), (.int .u8 0), (.int .u8 0), (.int .u8 0), (.int .u8 0), (.int .u8 0), (.int .u8 0), (.int .u8 0), (.int .u8 0), (.int .u8 0)]) := ⟨_, _, B5r, rfl⟩
instance : TS 127 (.slice none 0 0) := ⟨_, _, A17, rfl⟩
instance : SL 127 5 1 1 (.int .u8 0) := ⟨⟨_, _, _, A17⟩, ⟨_, ty5⟩, rfl⟩
instance : TS 129 (.int .u64 0) := ⟨_, _, A3J, rfl⟩
instance : TS 135 (.slice none 0 0) := ⟨_, _, A9y, rfl⟩
instance : SL 135 141 2 32 (.agg #[(.slice none 0 0), (.int .i64 0)]) := ⟨⟨_, _, _, A9y⟩, ⟨_, B2D⟩, rfl⟩
instance : TS 143 .nilFunc := ⟨_, _, B6r, rfl⟩
instance : TG 144 4 (.agg #[.nilFunc, .nilFunc, .nilFunc, .nilFunc]) := ⟨_, _, B6Q, rfl⟩
instance : TS 149 .nilFunc := ⟨_, _, C4D, rfl⟩
instance : TG 153 2 (.agg #[(.int .i64 0), (.int .i64 0)]) := ⟨_, _, A9v, rfl⟩
instance : TG 160 4 (.agg #[(.int .i64 0), (.string (ByteArray.mk #[])), (.int .i64 0), (.int .i64 0)]) := ⟨_, _, A0y, rfl⟩
instance : TS 176 (.slice none 0 0) := ⟨_, _, B6C, rfl⟩
instance : TS 185 (.pointer none) := ⟨_, _, B2K, rfl⟩
instance : TG 189 2 (.agg #[(.pointer none), (.slice none 0 0)]) := ⟨_, _, C0d, rfl⟩
instance : TS 208 (.slice none 0 0) := ⟨_, _, B2H, rfl⟩
instance : SL 208 211 2 16 (.agg #[(.int .u64 0), (.int .i64 0)]) := ⟨⟨_, _, _, B2H⟩, ⟨_, A4y⟩, rfl⟩
instance : TG 211 2 (.agg #[(.int .u64 0), (.int .i64 0)]) := ⟨_, _, A4y, rfl⟩
instance : TS 218 .nilFunc := ⟨_, _, C3T, rfl⟩
instance : SL 229 153 2 16 (.agg #[(.int .i64 0), (.int .i64 0)]) := ⟨⟨_, _, _, B57⟩, ⟨_, A9v⟩, rfl⟩
instance : TG 296 2 (.agg #[.nilFunc, (.int .i64 0)]) := ⟨_, _, A7Q, rfl⟩
instance : TS 300 .nilFunc := ⟨_, _, C4g, rfl⟩
instance : TS 302 (.int .u64 0) := ⟨_, _, C0Y, rfl⟩
instance : TS 307 (.slice none 0 0) := ⟨_, _, B6H, rfl⟩
instance : SL 320 296 2 16 (.agg #[.nilFunc, (.int .i64 0)]) := ⟨⟨_, _, _, B5a⟩, ⟨_, A7Q⟩, rfl⟩
@[simp] theorem C4P (a : Option Addr) (x y : Operand) (K : Value → WP) : A6 PR (J9 .eql 185 x y (.pointer a) (.pointer none)) K = K (.bool a.isNone) := funext fun w => B6s a x y K w
@[simp] theorem C5H (a : Option Addr) (x y : Operand) (K : Value → WP) : A6 PR (J9 .eql 27 x y (.pointer a) (.pointer none)) K = K (.bool a.isNone) := funext fun w => B7A a x y K w
@[simp] theorem C7S (a0 b0 : Int) (a1 b1 : Int) (a2 b2 : Bool) (a3 b3 : Int) (x y : Operand) (K : Value → WP) : A6 PR (J9 .eql 39 x y (.agg #[.int .i64 a0, .int .i64 a1, .bool a2, .int .i64 a3]) (.agg #[.int .i64 b0, .int .i64 b1, .bool b2, .int .i64 b3])) K = K (.bool (decide (a0 = b0) && (decide (a1 = b1) && ((a2 == b2) && (decide (a3 = b3) && true))))) := funext fun w => C0H a0 b0 a1 b1 a2 b2 a3 b3 x y K w
@[simp] theorem C6F (a : Option Addr) (x y : Operand) (K : Value → WP) : A6 PR (J9 .eql 66 x y (.pointer a) (.pointer none)) K = K (.bool a.isNone) := funext fun w => B7M a x y K w
@[simp] theorem C6L (a : Option Addr) (x y : Operand) (K : Value → WP) : A6 PR (J9 .neq 27 x y (.pointer a) (.pointer none)) K = K (.bool (!a.isNone)) := funext fun w => B72 a x y K w
@[simp] theorem C7K (a0 b0 : Int) (a1 b1 : Int) (a2 b2 : Bool) (a3 b3 : Int) (x y : Operand) (K : Value → WP) : A6 PR (J9 .neq 39 x y (.agg #[.int .i64 a0, .int .i64 a1, .bool a2, .int .i64 a3]) (.agg #[.int .i64 b0, .int .i64 b1, .bool b2, .int .i64 b3])) K = K (.bool !(decide (a0 = b0) && (decide (a1 = b1) && ((a2 == b2) && (decide (a3 = b3) && true))))) := funext fun w => B9N a0 b0 a1 b1 a2 b2 a3 b3 x y K w
@[simp] theorem C6z (a0 b0 : Int) (a1 b1 : Int) (x y : Operand) (K : Value → WP) : A6 PR (J9 .neq 75 x y (.agg #[.int .i64 a0, .int .i64 a1]) (.agg #[.int .i64 b0, .int .i64 b1])) K = K (.bool !(decide (a0 = b0) && (decide (a1 = b1) && true))) := funext fun w => B9T a0 b0 a1 b1 x y K w
end Go.Proofs.YtpbmephflllolaaGreat
namespace Go.Proofs.YtpbmephflllolaaGreat
open Go
def B0J (n i : Nat) : List Value := [.int .i64 (i : Int), .int .u64 (8 * ((n : Int) - 1 - i))]
abbrev B61 (b : Nat) : Value := .func (.func 141) #[] #[.pointer (some ⟨b, 0, none⟩)]
theorem B2g (w : World) (n : Int) : Fn PR B4 99 #[.int .i64 n] w (Rn [] w (fun b v => v = B61 b) fun b => [.pt b (.cells #[.int .i64 n] 3)]) := by
 refine B0n (TW.go (κ := false) (S := []) ?_)
 unfold A4Y
 (have zz:=trivial;repeat((first|clear zz|with_reducible first|refine A3 ?_|refine A5 fun _=>?_|refine A4 fun _=>?_);try simp(disch:=first|omega|assumption|((repeat(first|exact A1|exact uH|apply A2|apply uT));first|done|fail)|(simp;first|done|omega|fail))[]))
 rename_i b
 exact Z6 b rfl (by simp)
theorem B3P (b : Nat) {n : Nat} (hn : n ≤ 8) : A1x (B61 b) [.pt b (.cells #[.int .i64 (n : Int)] 3)] (fun _ _ => True) ((List.range n).map (B0J n)) := by
 refine ⟨_, _, _, rfl, fun l J E hJ hE stJ stE hy w0 h0 => ?_⟩
 refine A7d (A7u (TW.at (κ := true) ?_ (hJ _ _ _ h0).1))
 unfold A1v
 (have zz:=trivial;repeat((first|clear zz|with_reducible first|refine A3 ?_|refine A5 fun _=>?_|refine A4 fun _=>?_);try simp(disch:=first|omega|assumption|((repeat(first|exact A1|exact uH|apply A2|apply uT));first|done|fail)|(simp;first|done|omega|fail))[]))
 refine A2Q n (fun i => i) (fun _ => _) hJ stJ h0 fun i a hi hJi _ L hL => ?_
 by_cases hlt : i < n
 ·(have zz:=trivial;repeat((first|clear zz|with_reducible first|refine A3 ?_|refine A5 fun _=>?_|refine A4 fun _=>?_);try simp(disch:=first|omega|assumption|((repeat(first|exact A1|exact uH|apply A2|apply uT));first|done|fail)|(simp;first|done|omega|fail))[hlt]))
  refine A3M hJ hE stJ hy hJi (by simpa using hlt) (by simp [B0J]) (fun w3 h => ?_) (fun w3 h => ?_)
  ·(have zz:=trivial;repeat((first|clear zz|with_reducible first|refine A3 ?_|refine A5 fun _=>?_|refine A4 fun _=>?_);try simp(disch:=first|omega|assumption|((repeat(first|exact A1|exact uH|apply A2|apply uT));first|done|fail)|(simp;first|done|omega|fail))[]))
   exact fun w' hw' => hL hlt w' (stJ _ _ _ _ _ h hw')
  ·(have zz:=trivial;repeat((first|clear zz|with_reducible first|refine A3 ?_|refine A5 fun _=>?_|refine A4 fun _=>?_);try simp(disch:=first|omega|assumption|((repeat(first|exact A1|exact uH|apply A2|apply uT));first|done|fail)|(simp;first|done|omega|fail))[]))
   exact A1C stE h
 ·obtain rfl : i = n := by omega
  (have zz:=trivial;repeat((first|clear zz|with_reducible first|refine A3 ?_|refine A5 fun _=>?_|refine A4 fun _=>?_);try simp(disch:=first|omega|assumption|((repeat(first|exact A1|exact uH|apply A2|apply uT));first|done|fail)|(simp;first|done|omega|fail))[]))
  exact A09 stJ (by simpa using hJi)
def E9 (s : ByteArray) (i : Nat) : Nat := (s.data.getD i 0).toNat
def l0 (s : ByteArray) (a : Nat) : Nat → Nat
 | 0 => 0
 | i + 1 => l0 s a i * 256 + E9 s (a + i)
theorem y2 (s : ByteArray) (i : Nat) : E9 s i < 256 := (s.data.getD i 0).toNat_lt
theorem A6e (s : ByteArray) (a i : Nat) : l0 s a i < 256 ^ i := by
 induction i with
 | zero => simp [l0]
 | succ i ih =>
  have := y2 s (a + i)
  simp only [l0, Nat.pow_succ]
  omega
theorem v8 {s : ByteArray} {i : Nat} (h : i < s.size) : ∃ b : UInt8, s[i]? = some b ∧ b.toNat = E9 s i := by
 refine ⟨s[i], by simp [h], ?_⟩
 have h' : i < s.data.size := h
 have e : s.data.getD i 0 = s[i] := by rw [Array.getD_eq_getD_getElem?, Array.getElem?_eq_getElem h']; rfl
 rw [E9, e]
def A0v (s : ByteArray) (a n : Int) : Bool := decide (1 ≤ n ∧ n ≤ 8 ∧ 0 ≤ a ∧ a ≤ s.size - n)
def A3p (s : ByteArray) (a n : Int) : Int := if A0v s a n = true then (l0 s a.toNat n.toNat : Nat) else 0
theorem A1K (w : World) (s : ByteArray) (hs : s.size < 2 ^ 63) (a n : Int) :
  Fn PR B4 148 #[.string s, .int .i64 a, .int .i64 n] w (fun v w' => v = .tuple #[.int .u64 (A3p s a n), .bool (A0v s a n)] ∧ C5 [] w w') := by
 refine Fn.pure (B3C (TW.go (κ := false) (S := []) ?_))
 unfold A7D
 by_cases hok : A0v s a n = true
 case neg =>
  have hv : A3p s a n = 0 := if_neg hok
  have hok' : A0v s a n = false := by simpa using hok
  rw [hv, hok']
  have hc : n < 1 ∨ 8 < n ∨ a < 0 ∨ (s.size : Int) - n < a := by
   simp only [A0v, decide_eq_true_eq] at hok; omega
  by_cases h1 : n < 1
  ·(have zz:=trivial;repeat((first|clear zz|with_reducible first|refine A3 ?_|refine A5 fun _=>?_|refine A4 fun _=>?_);try simp(disch:=first|omega|assumption|((repeat(first|exact A1|exact uH|apply A2|apply uT));first|done|fail)|(simp;first|done|omega|fail))[h1])); exact B0 rfl
  by_cases h2 : 8 < n
  ·(have zz:=trivial;repeat((first|clear zz|with_reducible first|refine A3 ?_|refine A5 fun _=>?_|refine A4 fun _=>?_);try simp(disch:=first|omega|assumption|((repeat(first|exact A1|exact uH|apply A2|apply uT));first|done|fail)|(simp;first|done|omega|fail))[h1, h2])); exact B0 rfl
  by_cases h3 : a < 0
  ·(have zz:=trivial;repeat((first|clear zz|with_reducible first|refine A3 ?_|refine A5 fun _=>?_|refine A4 fun _=>?_);try simp(disch:=first|omega|assumption|((repeat(first|exact A1|exact uH|apply A2|apply uT));first|done|fail)|(simp;first|done|omega|fail))[h1, h2, h3])); exact B0 rfl
  have h4 : (s.size : Int) - n < a := by omega
  (have zz:=trivial;repeat((first|clear zz|with_reducible first|refine A3 ?_|refine A5 fun _=>?_|refine A4 fun _=>?_);try simp(disch:=first|omega|assumption|((repeat(first|exact A1|exact uH|apply A2|apply uT));first|done|fail)|(simp;first|done|omega|fail))[h1, h2, h3, h4])); exact B0 rfl
 have hv : A3p s a n = (l0 s a.toNat n.toNat : Nat) := if_pos hok
 rw [hv, hok]
 simp only [A0v, decide_eq_true_eq] at hok
 obtain ⟨m, rfl⟩ : ∃ m : Nat, n = m := ⟨n.toNat, by omega⟩
 obtain ⟨k, rfl⟩ : ∃ k : Nat, a = k := ⟨a.toNat, by omega⟩
 have h1 : ¬ (m : Int) < 1 := by omega
 have h2 : ¬ 8 < (m : Int) := by omega
 have h4 : ¬ (s.size : Int) - m < k := by omega
 have h5 : ¬ (k : Int) < 0 := by omega
 (have zz:=trivial;repeat((first|clear zz|with_reducible first|refine A3 ?_|refine A5 fun _=>?_|refine A4 fun _=>?_);try simp(disch:=first|omega|assumption|((repeat(first|exact A1|exact uH|apply A2|apply uT));first|done|fail)|(simp;first|done|omega|fail))[h1, h2, h4, h5]))
 rename_i bs ba bv
 refine H2 A3Y (fun w' _ => B2g w' m) ?_
 rintro b v rfl
 refine A0B (B3P b (n := m) (by omega)) (by simp [B0J]) (fun _ (_ : Unit) => True) (fun i _ => [.pt bv (.cells #[.int .u64 ((l0 s k i * 256 ^ (m - i) : Nat) : Int)] 129), .pt ba (.cells #[.int .i64 (k : Int)] 3), .pt bs (.cells #[.string s] 9)])
  (fun _ (_ : Unit) => False) (fun _ => []) () trivial ?_ ?_ ?_ ?_ (by simp [l0])
 ·intros; trivial
 ·rintro i hi _ F _ K' hK _
  have hi' : i < m := by simpa using hi
  obtain ⟨by0, hb0, hb1⟩ := v8 (s := s) (i := k + i) (by omega)
  have hidx : ((k : Int) + i).toNat = k + i := by omega
  have hbl := y2 s (k + i)
  rw [← hidx] at hb0
  have hsh : (0 : Int) ≤ 8 * ((m : Int) - 1 - i) := by omega
  simp only [List.getElem_map, List.getElem_range, B0J, VF.app]
  (have zz:=trivial;repeat((first|clear zz|with_reducible first|refine A3 ?_|refine A5 fun _=>?_|refine A4 fun _=>?_);try simp(disch:=first|omega|assumption|((repeat(first|exact A1|exact uH|apply A2|apply uT));first|done|fail)|(simp;first|done|omega|fail))[Y1]))
  refine TW.eqH ?_ (hK () trivial)
  have hlt : (l0 s k i * 256 + E9 s (k + i)) * 256 ^ (m - 1 - i) < 2 ^ 64 := by
   have hA : l0 s k (i + 1) < 256 ^ (i + 1) := A6e s k (i + 1)
   have h8 : 256 ^ (i + 1) * 256 ^ (m - 1 - i) ≤ 2 ^ 64 := by
    rw [← Nat.pow_add, show (2 : Nat) ^ 64 = 256 ^ 8 from rfl]
    exact Nat.pow_le_pow_right (by omega) (by omega)
   exact Nat.lt_of_lt_of_le (Nat.mul_lt_mul_of_pos_right hA (Nat.pow_pos (by omega))) h8
  have hval := C1Q hbl hlt (by omega)
  rw [show m - (i + 1) = m - 1 - i from by omega]
  simp [l0, ← hval]
  rw [hb1, show (8 * ((m : Int) - 1 - i)).toNat = 8 * (m - 1 - i) from by omega, show m - i = m - 1 - i + 1 from by omega]
 ·rintro _ _
  (have zz:=trivial;repeat((first|clear zz|with_reducible first|refine A3 ?_|refine A5 fun _=>?_|refine A4 fun _=>?_);try simp(disch:=first|omega|assumption|((repeat(first|exact A1|exact uH|apply A2|apply uT));first|done|fail)|(simp;first|done|omega|fail))[]))
  exact B0 (by simp)
 ·rintro _ _ h; exact h.elim
def B2N (v : Int) (n i : Nat) : Int := IntKind.u8.wrap (v.fdiv (2 ^ min (8 * ((n : Int) - 1 - i)).toNat IntKind.u64.bits))
def u9 (v : Int) (n i : Nat) : List Int := (List.range n).map fun j => if j < i then B2N v n j else 0
def E7 (v n : Int) : ByteArray := if 1 ≤ n ∧ n ≤ 8 then A2E (u9 v n.toNat n.toNat) else ByteArray.mk #[]
theorem B95 (v : Int) {n i : Nat} (h : i < n) : (u9 v n i).set i (B2N v n i) = u9 v n (i + 1) := by
 apply List.ext_getElem (by simp [u9])
 intro j h1 h2
 simp only [u9, List.length_set, List.length_map, List.length_range] at h1
 rw [List.getElem_set]
 simp only [u9, List.getElem_map, List.getElem_range]
 by_cases hij : i = j
 ·subst hij; simp
 ·by_cases hj : j < i
  ·simp [hij, hj, Nat.lt_succ_of_lt hj]
  ·have : ¬ j < i + 1 := by omega
   simp [hij, hj, this]
def A3w (v : Int) (n i : Nat) : Array Value := ((u9 v n i).map (Value.int .u8)).toArray
theorem B7m (v : Int) {m : Nat} (h : m ≤ 8) : Builtin.zeroCells (Value.int .u8 0).cells m = A3w v m 0 := by
 have : m = 0 ∨ m = 1 ∨ m = 2 ∨ m = 3 ∨ m = 4 ∨ m = 5 ∨ m = 6 ∨ m = 7 ∨ m = 8 := by omega
 rcases this with rfl | rfl | rfl | rfl | rfl | rfl | rfl | rfl | rfl <;>
  (apply Array.ext'; simp [Builtin.zeroCells, A3w, u9, List.range, List.range.loop])
@[simp] theorem B73 {v n : Int} (h1 : 1 ≤ n) (h2 : n ≤ 8) : (E7 v n).size = n.toNat := by simp [E7, h1, h2, u9]
theorem V7 (w : World) (v n : Int) :
  Fn PR B4 55 #[.int .u64 v, .int .i64 n] w (fun u w' => u = .string (E7 v n) ∧ C5 [] w w') := by
 refine Fn.pure (B3u (TW.go (κ := false) (S := []) ?_))
 unfold A7J
 by_cases hok : 1 ≤ n ∧ n ≤ 8
 case neg =>
  have hv : E7 v n = ByteArray.mk #[] := if_neg hok
  rw [hv]
  by_cases h1 : n < 1
  ·(have zz:=trivial;repeat((first|clear zz|with_reducible first|refine A3 ?_|refine A5 fun _=>?_|refine A4 fun _=>?_);try simp(disch:=first|omega|assumption|((repeat(first|exact A1|exact uH|apply A2|apply uT));first|done|fail)|(simp;first|done|omega|fail))[h1])); exact B0 rfl
  ·have h2 : 8 < n := by omega
   (have zz:=trivial;repeat((first|clear zz|with_reducible first|refine A3 ?_|refine A5 fun _=>?_|refine A4 fun _=>?_);try simp(disch:=first|omega|assumption|((repeat(first|exact A1|exact uH|apply A2|apply uT));first|done|fail)|(simp;first|done|omega|fail))[h1, h2])); exact B0 rfl
 have hv : E7 v n = A2E (u9 v n.toNat n.toNat) := if_pos hok
 rw [hv]
 obtain ⟨m, rfl⟩ : ∃ m : Nat, n = m := ⟨n.toNat, by omega⟩
 have h1 : ¬ (m : Int) < 1 := by omega
 have h2 : ¬ 8 < (m : Int) := by omega
 (have zz:=trivial;repeat((first|clear zz|with_reducible first|refine A3 ?_|refine A5 fun _=>?_|refine A4 fun _=>?_);try simp(disch:=first|omega|assumption|((repeat(first|exact A1|exact uH|apply A2|apply uT));first|done|fail)|(simp;first|done|omega|fail))[h1, h2]))
 refine B93 (by omega) (by omega) (by omega) (by omega) fun bs => ?_
 rw [Int.toNat_natCast, B7m v (by omega)]
 (have zz:=trivial;repeat((first|clear zz|with_reducible first|refine A3 ?_|refine A5 fun _=>?_|refine A4 fun _=>?_);try simp(disch:=first|omega|assumption|((repeat(first|exact A1|exact uH|apply A2|apply uT));first|done|fail)|(simp;first|done|omega|fail))[h1, h2]))
 rename_i bv bb
 refine H2 A3Y (fun w' _ => B2g w' m) ?_
 rintro b v rfl
 refine A0B (B3P b (n := m) (by omega)) (by simp [B0J]) (fun _ (_ : Unit) => True) (fun i _ => [.pt bb (.cells #[.slice (some ⟨bs, 0, none⟩) m m] 127),
   .own 5 1 (.slice (some ⟨bs, 0, none⟩) m m) m (A3w v m i).toList, .pt bv (.cells #[.int .u64 v] 129)])
  (fun _ (_ : Unit) => False) (fun _ => []) () trivial ?_ ?_ ?_ ?_ (by simp)
 ·intros; trivial
 ·rintro i hi _ F _ K' hK _
  have hi' : i < m := by simpa using hi
  have hsh : (0 : Int) ≤ 8 * ((m : Int) - 1 - i) := by omega
  simp only [List.getElem_map, List.getElem_range, B0J, VF.app]
  (have zz:=trivial;repeat((first|clear zz|with_reducible first|refine A3 ?_|refine A5 fun _=>?_|refine A4 fun _=>?_);try simp(disch:=first|omega|assumption|((repeat(first|exact A1|exact uH|apply A2|apply uT));first|done|fail)|(simp;first|done|omega|fail))[]))
  refine f8 (by (repeat constructor)) (by simp) (by simp [A3w, u9]; omega) (by simp) ?_
  refine TW.eqH ?_ (hK () trivial)
  have e : u4 (A3w v m i).toList i [.int .u8 (B2N v m i)] = (A3w v m (i + 1)).toList := by
   rw [B9j (by simp [A3w, u9]; omega)]; simp [A3w, ← B95 v hi', List.map_set]
  rw [← e]; simp [B2N]
 ·rintro _ _
  (have zz:=trivial;repeat((first|clear zz|with_reducible first|refine A3 ?_|refine A5 fun _=>?_|refine A4 fun _=>?_);try simp(disch:=first|omega|assumption|((repeat(first|exact A1|exact uH|apply A2|apply uT));first|done|fail)|(simp;first|done|omega|fail))[]))
  have hlen : (u9 v m m).length = m := by simp [u9]
  have := fun w' K (hr : K9 w' bs 0 ((u9 v m m).map (Value.int .u8))) => @B4q K w' bs 0 m _ hr
  rw [hlen] at this
  rw [C4W fun w' hw' => this w' _ (by simpa [A3w] using hw'.ownr (e := 5) (k := 1) (q := m) (c := m) (xs := (A3w v m m).toList) (by (repeat constructor)))]
  simp only [C3k]
  exact B0 rfl
 ·rintro _ _ h; exact h.elim
end Go.Proofs.YtpbmephflllolaaGreat
