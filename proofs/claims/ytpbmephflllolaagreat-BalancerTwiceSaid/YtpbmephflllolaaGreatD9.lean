/- The proof of a given statement, a part of it (ShStd ShOctet Ins Tc Tn Oct). No condition but what each lemma says. -/
import Derived.Test.YtpbmephflllolaaGreatD8
set_option linter.unusedVariables false
set_option linter.unusedSimpArgs false
namespace Go.Proofs.YtpbmephflllolaaGreat
open Go
def M1 (X : Nat → Prop) (t0 t1 : Value) (R : Value → WP) : WP :=
 A0 PR (F4 t0) fun t5 =>
 A0 PR (Instr.fieldAt 85 t5 2) fun t6 =>
 A6 PR (convert 79 83 t1) fun t8 =>
 B2 PR X 72 [t6, t8] fun t9 =>
 R (.tuple #[])
theorem L6 : A9 PR 36 := A7 Tryz.func36 (by kernel_rfl) rfl
theorem W6 {X : Nat → Prop} {t0 t1 : Value} {R : Value → WP} {w : World} (h : M1 X t0 t1 R w) : Fn PR X 36 #[t0, t1] w R := C5 (args := [t0, t1]) mixed Tryz.func36 (by kernel_rfl) h
def P7 (X : Nat → Prop) (t0 : Value) (R : Value → WP) : WP :=
 jn (n := 1) (fun t2 =>
 B1 PR X (Instr.buildSlice 32 0 #[]) fun t5 =>
 B1 PR X (A8 .append #[32, 32] 32 [t5, t0]) fun t7 =>
 R t7) fun J1 =>
 A6 PR (H8 .eql 32 (.tmp 3) (.const (.slice none 0 0)) t0 (.slice none 0 0)) fun t4 =>
 B8 t4 (
 R (.slice none 0 0)) (
 J1 (.slice none 0 0))
theorem P2 : A9 PR 49 := A7 Tryz.func49 (by kernel_rfl) rfl
theorem k9 {X : Nat → Prop} {t0 : Value} {R : Value → WP} {w : World} (h : P7 X t0 R w) : Fn PR X 49 #[t0] w R := C5 (args := [t0]) mixed Tryz.func49 (by kernel_rfl) h
def M5 (X : Nat → Prop) (t0 : Value) (R : Value → WP) : WP :=
 A0 PR (F4 t0) fun t4 =>
 A0 PR (Instr.fieldAt 85 t4 2) fun t5 =>
 B2 PR X 91 [t5] fun t6 =>
 A6 PR (convert 83 79 t6) fun t7 =>
 R t7
theorem M0 : A9 PR 50 := A7 Tryz.func50 (by kernel_rfl) rfl
theorem Z1 {X : Nat → Prop} {t0 : Value} {R : Value → WP} {w : World} (h : M5 X t0 R w) : Fn PR X 50 #[t0] w R := C5 (args := [t0]) mixed Tryz.func50 (by kernel_rfl) h
def Q4 (X : Nat → Prop) (t0 t1 : Value) (R : Value → WP) : WP :=
 B2 PR X 117 [t0] fun t7 =>
 B2 PR X 118 [t7, t1] fun t10 =>
 R t7
theorem k8 : A9 PR 66 := A7 Tryz.func66 (by kernel_rfl) rfl
theorem l3 {X : Nat → Prop} {t0 t1 : Value} {R : Value → WP} {w : World} (h : Q4 X t0 t1 R w) : Fn PR X 66 #[t0, t1] w R := C5 (args := [t0, t1]) mixed Tryz.func66 (by kernel_rfl) h
def P3 (X : Nat → Prop) (t0 : Value) (R : Value → WP) : WP :=
 B1 PR X (Instr.box 32 t0) fun t1 =>
 A0 PR (Instr.makeFunc (.func 119) #[] #[t1]) fun t3 =>
 R t3
theorem g6 : A9 PR 67 := A7 Tryz.func67 (by kernel_rfl) rfl
theorem j3 {X : Nat → Prop} {t0 : Value} {R : Value → WP} {w : World} (h : P3 X t0 R w) : Fn PR X 67 #[t0] w R := C5 (args := [t0]) mixed Tryz.func67 (by kernel_rfl) h
def A1Y (X : Nat → Prop) (t0 t1 : Value) (R : Value → WP) : WP :=
 B2 PR X 120 [t0] fun t8 =>
 B2 PR X 120 [t1] fun t10 =>
 jn (n := 1) (fun t4 =>
 jn (n := 1) (fun t4_1 =>
 jn (n := 1) (fun t4_2 =>
 jn (n := 1) (fun t4_3 =>
 R (.int .i64 0)) fun J1 =>
 A0 PR (binOp .gtr 3 t0 t1) fun t19 =>
 B8 t19 (
 R (.int .i64 1)) (
 J1 t4_2)) fun J2 =>
 A0 PR (binOp .lss 3 t0 t1) fun t16 =>
 B8 t16 (
 R (.int .i64 (-1))) (
 J2 t4_1)) fun J3 =>
 B8 t10 (
 R (.int .i64 1)) (
 J3 t4)) fun J4 =>
 B8 t8 (
 jn (n := 1) (fun t4_4 =>
 R (.int .i64 (-1))) fun J5 =>
 B8 t10 (
 R (.int .i64 0)) (
 J5 (.int .i64 0))) (
 J4 (.int .i64 0))
theorem A0r : A9 PR 69 := A7 Tryz.func69 (by kernel_rfl) rfl
theorem A6v {X : Nat → Prop} {t0 t1 : Value} {R : Value → WP} {w : World} (h : A1Y X t0 t1 R w) : Fn PR X 69 #[t0, t1] w R := C5 (args := [t0, t1]) mixed Tryz.func69 (by kernel_rfl) h
theorem A7T {X : Nat → Prop} {t0 t1 : Value} {K : Value → WP} {w : World} (h : Fn PR X 69 #[t0, t1] w K) : B2 PR X 69 [t0, t1] K w := Or.inl ⟨A0r, h⟩
def A1P (X : Nat → Prop) (t0 : Value) (R : Value → WP) : WP :=
 A0 PR (F4 t0) fun t3 =>
 A0 PR (Instr.fieldAt 101 t3 1) fun t4 =>
 B2 PR X 135 [t4] fun t5 =>
 R (.tuple #[])
theorem A5z : A9 PR 86 := A7 Tryz.func86 (by kernel_rfl) rfl
theorem A6k {X : Nat → Prop} {t0 : Value} {R : Value → WP} {w : World} (h : A1P X t0 R w) : Fn PR X 86 #[t0] w R := C5 (args := [t0]) mixed Tryz.func86 (by kernel_rfl) h
def L5 (X : Nat → Prop) (t0 : Value) (R : Value → WP) : WP :=
 B1 PR X (Instr.box 86 t0) fun t1 =>
 A0 PR (Instr.makeFunc (.func 136) #[] #[t1]) fun t3 =>
 R t3
theorem U9 : A9 PR 88 := A7 Tryz.func88 (by kernel_rfl) rfl
theorem V0 {X : Nat → Prop} {t0 : Value} {R : Value → WP} {w : World} (h : L5 X t0 R w) : Fn PR X 88 #[t0] w R := C5 (args := [t0]) mixed Tryz.func88 (by kernel_rfl) h
def A0a (X : Nat → Prop) (t0 : Value) (R : Value → WP) : WP :=
 A0 PR (F4 t0) fun t3 =>
 A0 PR (Instr.fieldAt 101 t3 1) fun t4 =>
 B2 PR X 137 [t4] fun t5 =>
 R (.tuple #[])
theorem A4m : A9 PR 89 := A7 Tryz.func89 (by kernel_rfl) rfl
theorem A5A {X : Nat → Prop} {t0 : Value} {R : Value → WP} {w : World} (h : A0a X t0 R w) : Fn PR X 89 #[t0] w R := C5 (args := [t0]) mixed Tryz.func89 (by kernel_rfl) h
def Y6 (X : Nat → Prop) (t0 t1 : Value) (R : Value → WP) : WP :=
 B2 PR X 139 [t0] fun t7 =>
 A0 PR (F4 t0) fun t10 =>
 A0 PR (Instr.fieldAt 187 t10 1) fun t11 =>
 A6 PR (Instr.loadAt 127 t11) fun t12 =>
 B1 PR X (A8 .append #[127, 9] 127 [t12, t1]) fun t14 =>
 A0 PR (F4 t0) fun t15 =>
 A0 PR (Instr.fieldAt 187 t15 1) fun t16 =>
 B9 PR X (Instr.storeAt 127 t16 t14) <|
 A0 PR (A8 .len #[9] 0 [t1]) fun t18 =>
 R (.tuple #[t18, .nilIface])
theorem H6 : A9 PR 95 := A7 Tryz.func95 (by kernel_rfl) rfl
theorem A0g {X : Nat → Prop} {t0 t1 : Value} {R : Value → WP} {w : World} (h : Y6 X t0 t1 R w) : Fn PR X 95 #[t0, t1] w R := C5 (args := [t0, t1]) mixed Tryz.func95 (by kernel_rfl) h
def l8 (X : Nat → Prop) (t0 : Value) (R : Value → WP) : WP :=
 drw <|
 A0 PR (F4 t0) fun t4 =>
 A0 PR (Instr.fieldAt 187 t4 1) fun t5 =>
 A6 PR (Instr.loadAt 127 t5) fun t6 =>
 A0 PR (F4 t0) fun t9 =>
 A0 PR (Instr.fieldAt 187 t9 1) fun t10 =>
 A6 PR (Instr.loadAt 127 t10) fun t11 =>
 A0 PR (A8 .len #[127] 0 [t11]) fun t12 =>
 B1 PR X (A8 .unsafeSliceData #[127] 249 [t6]) fun t7 =>
 watch PR [(none, (Instr.loadAt 127 t10), t11)] <|
 B1 PR X (A8 .unsafeString #[249, 3] 9 [t7, t12]) fun t13 =>
 R t13
theorem A1u : A9 PR 96 := A7 Tryz.func96 (by kernel_rfl) rfl
theorem A2E {X : Nat → Prop} {t0 : Value} {R : Value → WP} {w : World} (h : l8 X t0 R w) : Fn PR X 96 #[t0] w R := C5 (args := [t0]) mixed Tryz.func96 (by kernel_rfl) h
def U6 (X : Nat → Prop) (t0 t1 : Value) (R : Value → WP) : WP :=
 B2 PR X 157 [t0] fun t7 =>
 B2 PR X 158 [t7, t1] fun t10 =>
 R t7
theorem s7 : A9 PR 107 := A7 Tryz.func107 (by kernel_rfl) rfl
theorem u0 {X : Nat → Prop} {t0 t1 : Value} {R : Value → WP} {w : World} (h : U6 X t0 t1 R w) : Fn PR X 107 #[t0, t1] w R := C5 (args := [t0, t1]) mixed Tryz.func107 (by kernel_rfl) h
def S8 (X : Nat → Prop) (t0 : Value) (R : Value → WP) : WP :=
 jn (n := 1) (fun t2 =>
 B1 PR X (Instr.buildSlice 94 0 #[]) fun t5 =>
 B1 PR X (A8 .append #[94, 94] 94 [t5, t0]) fun t7 =>
 R t7) fun J1 =>
 A6 PR (H8 .eql 94 (.tmp 3) (.const (.slice none 0 0)) t0 (.slice none 0 0)) fun t4 =>
 B8 t4 (
 R (.slice none 0 0)) (
 J1 (.slice none 0 0))
theorem Q7 : A9 PR 111 := A7 Tryz.func111 (by kernel_rfl) rfl
theorem q6 {X : Nat → Prop} {t0 : Value} {R : Value → WP} {w : World} (h : S8 X t0 R w) : Fn PR X 111 #[t0] w R := C5 (args := [t0]) mixed Tryz.func111 (by kernel_rfl) h
def c7 (X : Nat → Prop) (t0 : Value) (R : Value → WP) : WP :=
 B2 PR X 168 [(.slice none 0 0), t0] fun t4 =>
 R t4
theorem A0S : A9 PR 117 := A7 Tryz.func117 (by kernel_rfl) rfl
theorem A0m {X : Nat → Prop} {t0 : Value} {R : Value → WP} {w : World} (h : c7 X t0 R w) : Fn PR X 117 #[t0] w R := C5 (args := [t0]) mixed Tryz.func117 (by kernel_rfl) h
def L0 (X : Nat → Prop) (t0 t1 : Value) (R : Value → WP) : WP :=
 A0 PR (A8 .len #[32] 0 [t0]) fun t6 =>
 B2 PR X 169 [t0, t6, t1] fun t8 =>
 R (.tuple #[])
theorem U8 : A9 PR 118 := A7 Tryz.func118 (by kernel_rfl) rfl
theorem V6 {X : Nat → Prop} {t0 t1 : Value} {R : Value → WP} {w : World} (h : L0 X t0 t1 R w) : Fn PR X 118 #[t0, t1] w R := C5 (args := [t0, t1]) mixed Tryz.func118 (by kernel_rfl) h
def N5 (X : Nat → Prop) (t0 t1 : Value) (R : Value → WP) : WP :=
 A6 PR (Instr.loadAt 32 t1) fun t5 =>
 A0 PR (A8 .len #[32] 0 [t5]) fun t6 =>
 lp (n := 1) (fun L1 t7 =>
 A0 PR (binOp .lss 3 t7 t6) fun t8 =>
 jn (n := 0) (
 jn (n := 0) (
 A0 PR (binOp .add 3 t7 (.int .i64 1)) fun t15 =>
 L1 t15) fun J2 =>
 A0 PR (Instr.indexAt 32 t5 t7) fun t9 =>
 A6 PR (Instr.loadAt 75 t9) fun t10 =>
 B1 PR X (Instr.alloc 75 true (.tuple #[])) fun t4 =>
 B9 PR X (Instr.storeAt 75 t4 t10) <|
 A6 PR (Instr.loadAt 75 t4) fun t12 =>
 G9 PR X t0 [t12] fun t13 =>
 A0 PR (Op.unary .not t13) fun t14 =>
 B8 t14 (
 R (.tuple #[])) (
 J2)) fun J3 =>
 B8 t8 (
 J3) (
 R (.tuple #[]))) (.int .i64 0)
theorem Z7 : A9 PR 119 := A7 Tryz.func119 (by kernel_rfl) rfl
theorem d3 {X : Nat → Prop} {t0 t1 : Value} {R : Value → WP} {w : World} (h : N5 X t0 t1 R w) : Fn PR X 119 #[t0, t1] w R := C5 (args := [t0, t1]) mixed Tryz.func119 (by kernel_rfl) h
theorem d6 {X : Nat → Prop} {t0 t1 : Value} {K : Value → WP} {w : World} (h : Fn PR X 119 #[t0, t1] w K) : s8 PR X 119 [t0, t1] K w := ⟨Z7, h⟩
def A2a (X : Nat → Prop) (t0 : Value) (R : Value → WP) : WP :=
 A0 PR (binOp .neq 3 t0 t0) fun t5 =>
 R t5
theorem A7Y : A9 PR 120 := A7 Tryz.func120 (by kernel_rfl) rfl
theorem A8B {X : Nat → Prop} {t0 : Value} {R : Value → WP} {w : World} (h : A2a X t0 R w) : Fn PR X 120 #[t0] w R := C5 (args := [t0]) mixed Tryz.func120 (by kernel_rfl) h
theorem A3m {X : Nat → Prop} {t0 : Value} {K : Value → WP} {w : World} (h : Fn PR X 120 #[t0] w K) : B2 PR X 120 [t0] K w := Or.inl ⟨A7Y, h⟩
def T7 (X : Nat → Prop) (t0 t1 : Value) (R : Value → WP) : WP :=
 B2 PR X 170 [t0, t1] fun t7 =>
 A0 PR (binOp .geq 3 t7 (.int .i64 0)) fun t8 =>
 R t8
theorem q7 : A9 PR 121 := A7 Tryz.func121 (by kernel_rfl) rfl
theorem s9 {X : Nat → Prop} {t0 t1 : Value} {R : Value → WP} {w : World} (h : T7 X t0 t1 R w) : Fn PR X 121 #[t0, t1] w R := C5 (args := [t0, t1]) mixed Tryz.func121 (by kernel_rfl) h
def j0 (X : Nat → Prop) (t0 : Value) (R : Value → WP) : WP :=
 B2 PR X 177 [] fun t2 =>
 jn (n := 0) (
 B2 PR X 181 [t0] fun t12 =>
 R (.tuple #[])) fun J1 =>
 A0 PR (F4 t0) fun t4 =>
 A0 PR (Instr.fieldAt 99 t4 0) fun t5 =>
 B2 PR X 178 [t5, (.int .i32 0), (.int .i32 1)] fun t6 =>
 B8 t6 (
 jn (n := 0) (
 R (.tuple #[])) fun J2 =>
 B8 (.bool true) (
 B2 PR X 179 [] fun t7 =>
 A6 PR (convert 283 83 t0) fun t9 =>
 B2 PR X 180 [t9] fun t10 =>
 J2) (
 J2)) (
 J1)
theorem A06 : A9 PR 135 := A7 Tryz.func135 (by kernel_rfl) rfl
theorem A1m {X : Nat → Prop} {t0 : Value} {R : Value → WP} {w : World} (h : j0 X t0 R w) : Fn PR X 135 #[t0] w R := C5 (args := [t0]) mixed Tryz.func135 (by kernel_rfl) h
def H7 (X : Nat → Prop) (t0 t1 : Value) (R : Value → WP) : WP :=
 A6 PR (Instr.loadAt 86 t1) fun t4 =>
 A0 PR (A8 .len #[86] 0 [t4]) fun t5 =>
 A0 PR (binOp .sub 3 t5 (.int .i64 1)) fun t6 =>
 lp (n := 1) (fun L1 t3 =>
 jn (n := 0) (
 jn (n := 0) (
 A0 PR (binOp .sub 3 t3 (.int .i64 1)) fun t10 =>
 L1 t10) fun J2 =>
 A6 PR (Instr.loadAt 86 t1) fun t13 =>
 A0 PR (Instr.indexAt 86 t13 t3) fun t15 =>
 A6 PR (Instr.loadAt 93 t15) fun t16 =>
 G9 PR X t0 [t3, t16] fun t17 =>
 A0 PR (Op.unary .not t17) fun t18 =>
 B8 t18 (
 R (.tuple #[])) (
 J2)) fun J3 =>
 A0 PR (binOp .geq 3 t3 (.int .i64 0)) fun t8 =>
 B8 t8 (
 J3) (
 R (.tuple #[]))) t6
theorem T0 : A9 PR 136 := A7 Tryz.func136 (by kernel_rfl) rfl
theorem T8 {X : Nat → Prop} {t0 t1 : Value} {R : Value → WP} {w : World} (h : H7 X t0 t1 R w) : Fn PR X 136 #[t0, t1] w R := C5 (args := [t0, t1]) mixed Tryz.func136 (by kernel_rfl) h
theorem T4 {X : Nat → Prop} {t0 t1 : Value} {K : Value → WP} {w : World} (h : Fn PR X 136 #[t0, t1] w K) : s8 PR X 136 [t0, t1] K w := ⟨T0, h⟩
def c9 (X : Nat → Prop) (t0 : Value) (R : Value → WP) : WP :=
 jn (n := 0) (
 A0 PR (F4 t0) fun t12 =>
 A0 PR (Instr.fieldAt 99 t12 0) fun t13 =>
 B2 PR X 183 [t13, (.int .i32 (-1))] fun t14 =>
 jn (n := 0) (
 B2 PR X 179 [] fun t20 =>
 R (.tuple #[])) fun J1 =>
 A0 PR (binOp .neq 21 t14 (.int .i32 0)) fun t16 =>
 B8 t16 (
 B2 PR X 184 [t0, t14] fun t19 =>
 J1) (
 J1)) fun J2 =>
 B8 (.bool true) (
 A0 PR (F4 t0) fun t4 =>
 A0 PR (Instr.fieldAt 99 t4 0) fun t5 =>
 A6 PR (Instr.loadAt 21 t5) fun t6 =>
 A6 PR (convert 283 83 t0) fun t8 =>
 B2 PR X 182 [t8] fun t9 =>
 B2 PR X 177 [] fun t10 =>
 J2) (
 J2)
theorem A0f : A9 PR 137 := A7 Tryz.func137 (by kernel_rfl) rfl
theorem A0n {X : Nat → Prop} {t0 : Value} {R : Value → WP} {w : World} (h : c9 X t0 R w) : Fn PR X 137 #[t0] w R := C5 (args := [t0]) mixed Tryz.func137 (by kernel_rfl) h
def g4 (X : Nat → Prop) (t0 : Value) (R : Value → WP) : WP :=
 A0 PR (F4 t0) fun t3 =>
 A0 PR (Instr.fieldAt 187 t3 0) fun t4 =>
 A6 PR (Instr.loadAt 185 t4) fun t5 =>
 A6 PR (H8 .eql 185 (.tmp 5) (.const (.pointer none)) t5 (.pointer none)) fun t6 =>
 B8 t6 (
 A6 PR (convert 185 83 t0) fun t9 =>
 B2 PR X 185 [t9] fun t10 =>
 A6 PR (convert 83 185 t10) fun t11 =>
 A0 PR (F4 t0) fun t12 =>
 A0 PR (Instr.fieldAt 187 t12 0) fun t13 =>
 B9 PR X (Instr.storeAt 185 t13 t11) <|
 R (.tuple #[])) (
 A0 PR (F4 t0) fun t15 =>
 A0 PR (Instr.fieldAt 187 t15 0) fun t16 =>
 A6 PR (Instr.loadAt 185 t16) fun t17 =>
 A6 PR (H8 .neq 185 (.tmp 17) (.tmp 18) t17 t0) fun t19 =>
 B8 t19 (
 D8) (
 R (.tuple #[])))
theorem A0l : A9 PR 139 := A7 Tryz.func139 (by kernel_rfl) rfl
theorem A07 {X : Nat → Prop} {t0 : Value} {R : Value → WP} {w : World} (h : g4 X t0 R w) : Fn PR X 139 #[t0] w R := C5 (args := [t0]) mixed Tryz.func139 (by kernel_rfl) h
def Z2 (X : Nat → Prop) (t0 : Value) (R : Value → WP) : WP :=
 B2 PR X 202 [(.slice none 0 0), t0] fun t4 =>
 R t4
theorem A0B : A9 PR 157 := A7 Tryz.func157 (by kernel_rfl) rfl
theorem A0V {X : Nat → Prop} {t0 : Value} {R : Value → WP} {w : World} (h : Z2 X t0 R w) : Fn PR X 157 #[t0] w R := C5 (args := [t0]) mixed Tryz.func157 (by kernel_rfl) h
theorem Y8 : A9 PR 158 := A7 Tryz.func158 (by kernel_rfl) rfl
def A5g (X : Nat → Prop) (t0 : Value) (R : Value → WP) : WP :=
 jn (n := 2) (fun t2 t8 =>
 R (.int .i64 0)) fun J1 =>
 A0 PR (A8 .len #[34] 0 [t0]) fun t7 =>
 lp (n := 2) (fun L2 t2_1 t8_1 =>
 A0 PR (binOp .lss 3 t8_1 t7) fun t9 =>
 jn (n := 0) (
 jn (n := 1) (fun t2_2 =>
 A0 PR (binOp .add 3 t8_1 (.int .i64 1)) fun t16 =>
 L2 t2_2 t16) fun J3 =>
 A0 PR (Instr.indexAt 34 t0 t8_1) fun t10 =>
 A6 PR (Instr.loadAt 3 t10) fun t11 =>
 A0 PR (binOp .neq 3 t11 (.int .i64 0)) fun t14 =>
 B8 t14 (
 R t11) (
 J3 t2_1)) fun J4 =>
 B8 t9 (
 J4) (
 J1 t2_1 t8_1)) (.int .i64 0) (.int .i64 0)
theorem B0L : A9 PR 161 := A7 Tryz.func161 (by kernel_rfl) rfl
theorem B1e {X : Nat → Prop} {t0 : Value} {R : Value → WP} {w : World} (h : A5g X t0 R w) : Fn PR X 161 #[t0] w R := C5 (args := [t0]) mixed Tryz.func161 (by kernel_rfl) h
theorem B21 {X : Nat → Prop} {t0 : Value} {K : Value → WP} {w : World} (h : Fn PR X 161 #[t0] w K) : B2 PR X 161 [t0] K w := Or.inl ⟨B0L, h⟩
def y9 (X : Nat → Prop) (t0 t1 : Value) (R : Value → WP) : WP :=
 B2 PR X 205 [t0] fun t8 =>
 B2 PR X 205 [t1] fun t10 =>
 jn (n := 1) (fun t4 =>
 jn (n := 1) (fun t4_1 =>
 jn (n := 1) (fun t4_2 =>
 jn (n := 1) (fun t4_3 =>
 R (.int .i64 0)) fun J1 =>
 A0 PR (binOp .gtr 129 t0 t1) fun t19 =>
 B8 t19 (
 R (.int .i64 1)) (
 J1 t4_2)) fun J2 =>
 A0 PR (binOp .lss 129 t0 t1) fun t16 =>
 B8 t16 (
 R (.int .i64 (-1))) (
 J2 t4_1)) fun J3 =>
 B8 t10 (
 R (.int .i64 1)) (
 J3 t4)) fun J4 =>
 B8 t8 (
 jn (n := 1) (fun t4_4 =>
 R (.int .i64 (-1))) fun J5 =>
 B8 t10 (
 R (.int .i64 0)) (
 J5 (.int .i64 0))) (
 J4 (.int .i64 0))
theorem A36 : A9 PR 162 := A7 Tryz.func162 (by kernel_rfl) rfl
theorem A4Y {X : Nat → Prop} {t0 t1 : Value} {R : Value → WP} {w : World} (h : y9 X t0 t1 R w) : Fn PR X 162 #[t0, t1] w R := C5 (args := [t0, t1]) mixed Tryz.func162 (by kernel_rfl) h
theorem A40 {X : Nat → Prop} {t0 t1 : Value} {K : Value → WP} {w : World} (h : Fn PR X 162 #[t0, t1] w K) : B2 PR X 162 [t0, t1] K w := Or.inl ⟨A36, h⟩
def N4 (X : Nat → Prop) (t0 t1 : Value) (R : Value → WP) : WP :=
 B1 PR X (Instr.box 32 t0) fun t2 =>
 jn (n := 0) (
 A6 PR (Instr.loadAt 32 t2) fun t12 =>
 T6 (R t12)) fun J1 =>
 rng (N := 1) PR X (fun t7 K2 =>
 B1 PR (fun _ => False) (Instr.alloc 75 true (.tuple #[])) fun t5 =>
 B9 PR (fun _ => False) (Instr.storeAt 75 t5 t7) <|
 bgn <|
 A6 PR (Instr.loadAt 32 t2) fun t8 =>
 A6 PR (Instr.loadAt 75 t5) fun t9 =>
 B1 PR (fun _ => False) (Instr.buildSlice 32 1 #[(0, t9)]) fun t10 =>
 B1 PR (fun _ => False) (A8 .append #[32, 32] 32 [t8, t10]) fun t11 =>
 B9 PR (fun _ => False) (Instr.storeAt 32 t2 t11) <|
 K2 none) t1 (fun j => match j with | none => (J1) | some (.exit i) => (match Nat.beq i 0 with | true => (J1) | false => (D8)) | some .ret => (T6 (R (.slice none 0 0))) | some _ => D8)
theorem Z6 : A9 PR 168 := A7 Tryz.func168 (by kernel_rfl) rfl
theorem d7 {X : Nat → Prop} {t0 t1 : Value} {R : Value → WP} {w : World} (h : N4 X t0 t1 R w) : Fn PR X 168 #[t0, t1] w R := C5 (args := [t0, t1]) mixed Tryz.func168 (by kernel_rfl) h
def S7 (X : Nat → Prop) (t0 t1 t2 : Value) (R : Value → WP) : WP :=
 jn (n := 2) (fun t7 t8 =>
 B2 PR X 206 [t0, t7, t1, t2] fun t27 =>
 lp (n := 3) (fun L1 t7_1 t8_1 t6 =>
 jn (n := 0) (
 A0 PR (binOp .mul 3 (.int .i64 2) t6) fun t32 =>
 jn (n := 2) (fun t7_2 t8_2 =>
 jn (n := 0) (
 A0 PR (binOp .mul 3 t6 (.int .i64 2)) fun t62 =>
 L1 t7_2 t8_2 t62) fun J2 =>
 A0 PR (binOp .add 3 t7_2 t6) fun t51 =>
 A0 PR (binOp .lss 3 t51 t1) fun t54 =>
 B8 t54 (
 B2 PR X 207 [t0, t7_2, t51, t1, t2] fun t60 =>
 J2) (
 J2)) fun J3 =>
 lp (n := 2) (fun L4 t7_3 t8_3 =>
 jn (n := 0) (
 A0 PR (binOp .add 3 t7_3 t6) fun t40 =>
 B2 PR X 207 [t0, t7_3, t40, t8_3, t2] fun t43 =>
 A0 PR (binOp .mul 3 (.int .i64 2) t6) fun t47 =>
 A0 PR (binOp .add 3 t8_3 t47) fun t48 =>
 L4 t8_3 t48) fun J5 =>
 A0 PR (binOp .leq 3 t8_3 t1) fun t35 =>
 B8 t35 (
 J5) (
 J3 t7_3 t8_3)) (.int .i64 0) t32) fun J6 =>
 A0 PR (binOp .lss 3 t6 t1) fun t30 =>
 B8 t30 (
 J6) (
 R (.tuple #[]))) t7 t8 (.int .i64 20)) fun J7 =>
 lp (n := 2) (fun L8 t7_4 t8_4 =>
 jn (n := 0) (
 B2 PR X 206 [t0, t7_4, t8_4, t2] fun t18 =>
 A0 PR (binOp .add 3 t8_4 (.int .i64 20)) fun t22 =>
 L8 t8_4 t22) fun J9 =>
 A0 PR (binOp .leq 3 t8_4 t1) fun t13 =>
 B8 t13 (
 J9) (
 J7 t7_4 t8_4)) (.int .i64 0) (.int .i64 20)
theorem n0 : A9 PR 169 := A7 Tryz.func169 (by kernel_rfl) rfl
theorem q5 {X : Nat → Prop} {t0 t1 t2 : Value} {R : Value → WP} {w : World} (h : S7 X t0 t1 t2 R w) : Fn PR X 169 #[t0, t1, t2] w R := C5 (args := [t0, t1, t2]) mixed Tryz.func169 (by kernel_rfl) h
def W3 (X : Nat → Prop) (t0 t1 : Value) (R : Value → WP) : WP :=
 jn (n := 2) (fun t4 t8 =>
 R (.int .i64 (-1))) fun J1 =>
 A0 PR (A8 .len #[229] 0 [t0]) fun t7 =>
 lp (n := 2) (fun L2 t4_1 t8_1 =>
 A0 PR (binOp .lss 3 t8_1 t7) fun t9 =>
 jn (n := 0) (
 jn (n := 1) (fun t4_2 =>
 A0 PR (binOp .add 3 t8_1 (.int .i64 1)) fun t18 =>
 L2 t4_2 t18) fun J3 =>
 A0 PR (Instr.indexAt 229 t0 t8_1) fun t14 =>
 A6 PR (Instr.loadAt 153 t14) fun t15 =>
 G9 PR X t1 [t15] fun t16 =>
 B8 t16 (
 R t8_1) (
 J3 t4_1)) fun J4 =>
 B8 t9 (
 J4) (
 J1 t4_1 t8_1)) (.int .i64 0) (.int .i64 0)
theorem x4 : A9 PR 170 := A7 Tryz.func170 (by kernel_rfl) rfl
theorem A0C {X : Nat → Prop} {t0 t1 : Value} {R : Value → WP} {w : World} (h : W3 X t0 t1 R w) : Fn PR X 170 #[t0, t1] w R := C5 (args := [t0, t1]) mixed Tryz.func170 (by kernel_rfl) h
def M7 (X : Nat → Prop) (t0 t1 : Value) (R : Value → WP) : WP :=
 B1 PR X (Instr.box 208 t0) fun t2 =>
 jn (n := 0) (
 A6 PR (Instr.loadAt 208 t2) fun t12 =>
 T6 (R t12)) fun J1 =>
 rng (N := 1) PR X (fun t7 K2 =>
 B1 PR (fun _ => False) (Instr.alloc 211 true (.tuple #[])) fun t5 =>
 B9 PR (fun _ => False) (Instr.storeAt 211 t5 t7) <|
 bgn <|
 A6 PR (Instr.loadAt 208 t2) fun t8 =>
 A6 PR (Instr.loadAt 211 t5) fun t9 =>
 B1 PR (fun _ => False) (Instr.buildSlice 208 1 #[(0, t9)]) fun t10 =>
 B1 PR (fun _ => False) (A8 .append #[208, 208] 208 [t8, t10]) fun t11 =>
 B9 PR (fun _ => False) (Instr.storeAt 208 t2 t11) <|
 K2 none) t1 (fun j => match j with | none => (J1) | some (.exit i) => (match Nat.beq i 0 with | true => (J1) | false => (D8)) | some .ret => (T6 (R (.slice none 0 0))) | some _ => D8)
theorem W7 : A9 PR 202 := A7 Tryz.func202 (by kernel_rfl) rfl
theorem Y2 {X : Nat → Prop} {t0 t1 : Value} {R : Value → WP} {w : World} (h : M7 X t0 t1 R w) : Fn PR X 202 #[t0, t1] w R := C5 (args := [t0, t1]) mixed Tryz.func202 (by kernel_rfl) h
def A0w (X : Nat → Prop) (t0 : Value) (R : Value → WP) : WP :=
 A0 PR (binOp .neq 129 t0 t0) fun t5 =>
 R t5
theorem A5D : A9 PR 205 := A7 Tryz.func205 (by kernel_rfl) rfl
theorem A5w {X : Nat → Prop} {t0 : Value} {R : Value → WP} {w : World} (h : A0w X t0 R w) : Fn PR X 205 #[t0] w R := C5 (args := [t0]) mixed Tryz.func205 (by kernel_rfl) h
theorem A1L {X : Nat → Prop} {t0 : Value} {K : Value → WP} {w : World} (h : Fn PR X 205 #[t0] w K) : B2 PR X 205 [t0] K w := Or.inl ⟨A5D, h⟩
def N7 (X : Nat → Prop) (t0 t1 t2 t3 : Value) (R : Value → WP) : WP :=
 A0 PR (binOp .add 3 t1 (.int .i64 1)) fun t11 =>
 lp (n := 1) (fun L1 t8 =>
 jn (n := 0) (
 jn (n := 1) (fun t9 =>
 A0 PR (binOp .add 3 t8 (.int .i64 1)) fun t16 =>
 L1 t16) fun J2 =>
 lp (n := 1) (fun L3 t9_1 =>
 jn (n := 0) (
 jn (n := 0) (
 A0 PR (binOp .sub 3 t9_1 (.int .i64 1)) fun t36 =>
 L3 t36) fun J4 =>
 drw <|
 A0 PR (binOp .sub 3 t9_1 (.int .i64 1)) fun t41 =>
 A0 PR (binOp .sub 3 t9_1 (.int .i64 1)) fun t44 =>
 A0 PR (Instr.indexAt 32 t0 t44) fun t45 =>
 A6 PR (Instr.loadAt 75 t45) fun t46 =>
 A0 PR (Instr.indexAt 32 t0 t9_1) fun t49 =>
 A6 PR (Instr.loadAt 75 t49) fun t50 =>
 A0 PR (Instr.indexAt 32 t0 t9_1) fun t51 =>
 B9 PR X (Instr.storeAt 75 t51 t46) <|
 A0 PR (Instr.indexAt 32 t0 t41) fun t52 =>
 B9 PR X (Instr.storeAt 75 t52 t50) <|
 J4) fun J5 =>
 drw <|
 A0 PR (binOp .gtr 3 t9_1 t1) fun t20 =>
 gj t20 true (fun J => J t3) fun t22 =>
 gj t20 true (fun J => J t0) fun t23 =>
 gj t20 true (fun J => J t9_1) fun t24 =>
 gj t20 true (fun J => A0 PR (Instr.indexAt 32 t23 t24) J) fun t25 =>
 gj t20 true (fun J => A6 PR (Instr.loadAt 75 t25) J) fun t26 =>
 gj t20 true (fun J => J t0) fun t27 =>
 gj t20 true (fun J => J t9_1) fun t28 =>
 gj t20 true (fun J => A0 PR (binOp .sub 3 t28 (.int .i64 1)) J) fun t29 =>
 gj t20 true (fun J => A0 PR (Instr.indexAt 32 t27 t29) J) fun t30 =>
 gj t20 true (fun J => A6 PR (Instr.loadAt 75 t30) J) fun t31 =>
 gj t20 true (fun J => G9 PR X t22 [t26, t31] J) fun t32 =>
 gj t20 true (fun J => A0 PR (binOp .lss 3 t32 (.int .i64 0)) J) fun t33 =>
 A0 PR (do pure (if ← asBool t20 then t33 else (.bool false))) fun t34 =>
 B8 t34 (
 J5) (
 J2 t9_1)) t8) fun J6 =>
 A0 PR (binOp .lss 3 t8 t2) fun t14 =>
 B8 t14 (
 J6) (
 R (.tuple #[]))) t11
theorem d5 : A9 PR 206 := A7 Tryz.func206 (by kernel_rfl) rfl
theorem g5 {X : Nat → Prop} {t0 t1 t2 t3 : Value} {R : Value → WP} {w : World} (h : N7 X t0 t1 t2 t3 R w) : Fn PR X 206 #[t0, t1, t2, t3] w R := C5 (args := [t0, t1, t2, t3]) mixed Tryz.func206 (by kernel_rfl) h
def N3 (X : Nat → Prop) (t0 t1 : Value) (R : Value → WP) : WP :=
 jn (n := 2) (fun t4 t8 =>
 R (.int .i64 (-1))) fun J1 =>
 A0 PR (A8 .len #[32] 0 [t0]) fun t7 =>
 lp (n := 2) (fun L2 t4_1 t8_1 =>
 A0 PR (binOp .lss 3 t8_1 t7) fun t9 =>
 jn (n := 0) (
 jn (n := 1) (fun t4_2 =>
 A0 PR (binOp .add 3 t8_1 (.int .i64 1)) fun t18 =>
 L2 t4_2 t18) fun J3 =>
 A0 PR (Instr.indexAt 32 t0 t8_1) fun t14 =>
 A6 PR (Instr.loadAt 75 t14) fun t15 =>
 G9 PR X t1 [t15] fun t16 =>
 B8 t16 (
 R t8_1) (
 J3 t4_1)) fun J4 =>
 B8 t9 (
 J4) (
 J1 t4_1 t8_1)) (.int .i64 0) (.int .i64 0)
theorem a8 : A9 PR 222 := A7 Tryz.func222 (by kernel_rfl) rfl
theorem d4 {X : Nat → Prop} {t0 t1 : Value} {R : Value → WP} {w : World} (h : N3 X t0 t1 R w) : Fn PR X 222 #[t0, t1] w R := C5 (args := [t0, t1]) mixed Tryz.func222 (by kernel_rfl) h
def A4S (X : Nat → Prop) (t0 t1 : Value) (R : Value → WP) : WP :=
 jn (n := 2) (fun t5 t6 =>
 R t5) fun J1 =>
 lp (n := 2) (fun L2 t5_1 t6_1 =>
 jn (n := 0) (
 A0 PR (binOp .add 3 t5_1 t6_1) fun t14 =>
 A0 PR (convert 3 130 t14) fun t15 =>
 A0 PR (binOp .shr 130 t15 (.int .u64 1)) fun t16 =>
 A0 PR (convert 130 3 t16) fun t17 =>
 G9 PR X t1 [t17] fun t20 =>
 A0 PR (Op.unary .not t20) fun t21 =>
 B8 t21 (
 A0 PR (binOp .add 3 t17 (.int .i64 1)) fun t23 =>
 L2 t23 t6_1) (
 L2 t5_1 t17)) fun J3 =>
 A0 PR (binOp .lss 3 t5_1 t6_1) fun t11 =>
 B8 t11 (
 J3) (
 J1 t5_1 t6_1)) (.int .i64 0) t0
theorem A9j : A9 PR 224 := A7 Tryz.func224 (by kernel_rfl) rfl
theorem B0P {X : Nat → Prop} {t0 t1 : Value} {R : Value → WP} {w : World} (h : A4S X t0 t1 R w) : Fn PR X 224 #[t0, t1] w R := C5 (args := [t0, t1]) mixed Tryz.func224 (by kernel_rfl) h
theorem A1d : A9 PR 267 := A7 Tryz.func267 (by kernel_rfl) rfl
end Go.Proofs.YtpbmephflllolaaGreat
namespace Go.Proofs.YtpbmephflllolaaGreat
open Go
def A58 (X : Nat → Prop) (t0 t1 : Value) (R : Value → WP) : WP :=
 B1 PR X (Instr.box 129 t0) fun t2 =>
 jn (n := 1) (fun t4 =>
 B1 PR X (Instr.makeSlice 127 t1 t1) fun t15 =>
 B1 PR X (Instr.alloc 127 true (.tuple #[])) fun t5 =>
 B9 PR X (Instr.storeAt 127 t5 t15) <|
 jn (n := 0) (
 A6 PR (Instr.loadAt 127 t5) fun t27 =>
 A6 PR (convert 127 9 t27) fun t28 =>
 T6 (R t28)) fun J1 =>
 B2 PR X 99 [t1] fun t17 =>
 rng (N := 2) PR X (fun t18 t19 K2 =>
 bgn <|
 A6 PR (Instr.loadAt 127 t5) fun t20 =>
 A6 PR (Instr.loadAt 129 t2) fun t22 =>
 A0 PR (binOp .shr 129 t22 t19) fun t24 =>
 A0 PR (convert 129 5 t24) fun t25 =>
 A0 PR (Instr.indexAt 127 t20 t18) fun t26 =>
 B9 PR (fun _ => False) (Instr.storeAt 5 t26 t25) <|
 K2 none) t17 (fun j => match j with | none => (J1) | some (.exit i) => (match Nat.beq i 0 with | true => (J1) | false => (D8)) | some .ret => (T6 (R t4)) | some _ => D8)) fun J3 =>
 A0 PR (binOp .lss 3 t1 (.int .i64 1)) fun t9 =>
 gj t9 false (fun J => J t1) fun t11 =>
 gj t9 false (fun J => A0 PR (binOp .gtr 3 t11 (.int .i64 8)) J) fun t12 =>
 A0 PR (do pure (if ← asBool t9 then (.bool true) else t12)) fun t13 =>
 B8 t13 (
 T6 (R (.string (ByteArray.mk #[])))) (
 J3 (.string (ByteArray.mk #[])))
theorem F6 : A9 PR 55 := A7 Tryz.func55 (by kernel_rfl) rfl
theorem B2S {X : Nat → Prop} {t0 t1 : Value} {R : Value → WP} {w : World} (h : A58 X t0 t1 R w) : Fn PR X 55 #[t0, t1] w R := C5 (args := [t0, t1]) mixed Tryz.func55 (by kernel_rfl) h
def A39 (X : Nat → Prop) (t0 : Value) (R : Value → WP) : WP :=
 B1 PR X (Instr.box 3 t0) fun t1 =>
 A0 PR (Instr.makeFunc (.func 141) #[] #[t1]) fun t3 =>
 R t3
theorem A3g : A9 PR 99 := A7 Tryz.func99 (by kernel_rfl) rfl
theorem A98 {X : Nat → Prop} {t0 : Value} {R : Value → WP} {w : World} (h : A39 X t0 R w) : Fn PR X 99 #[t0] w R := C5 (args := [t0]) mixed Tryz.func99 (by kernel_rfl) h
def A13 (X : Nat → Prop) (t0 t1 : Value) (R : Value → WP) : WP :=
 A6 PR (Instr.loadAt 3 t1) fun t4 =>
 lp (n := 1) (fun L1 t5 =>
 A0 PR (binOp .lss 3 t5 t4) fun t6 =>
 jn (n := 0) (
 jn (n := 0) (
 A0 PR (binOp .add 3 t5 (.int .i64 1)) fun t18 =>
 L1 t18) fun J2 =>
 A6 PR (Instr.loadAt 3 t1) fun t10 =>
 A0 PR (binOp .sub 3 t10 (.int .i64 1)) fun t11 =>
 A0 PR (binOp .sub 3 t11 t5) fun t13 =>
 A0 PR (binOp .mul 3 (.int .i64 8) t13) fun t14 =>
 A0 PR (convert 3 130 t14) fun t15 =>
 G9 PR X t0 [t5, t15] fun t16 =>
 A0 PR (Op.unary .not t16) fun t17 =>
 B8 t17 (
 R (.tuple #[])) (
 J2)) fun J3 =>
 B8 t6 (
 J3) (
 R (.tuple #[]))) (.int .i64 0)
theorem A6d : A9 PR 141 := A7 Tryz.func141 (by kernel_rfl) rfl
theorem A7Q {X : Nat → Prop} {t0 t1 : Value} {R : Value → WP} {w : World} (h : A13 X t0 t1 R w) : Fn PR X 141 #[t0, t1] w R := C5 (args := [t0, t1]) mixed Tryz.func141 (by kernel_rfl) h
theorem A7J {X : Nat → Prop} {t0 t1 : Value} {K : Value → WP} {w : World} (h : Fn PR X 141 #[t0, t1] w K) : s8 PR X 141 [t0, t1] K w := ⟨A6d, h⟩
def A6l (X : Nat → Prop) (t0 t1 t2 : Value) (R : Value → WP) : WP :=
 B1 PR X (Instr.box 9 t0) fun t3 =>
 B1 PR X (Instr.box 3 t1) fun t4 =>
 jn (n := 2) (fun t6 t7 =>
 B1 PR X (Instr.alloc 129 true (.tuple #[])) fun t8 =>
 jn (n := 0) (
 A6 PR (Instr.loadAt 129 t8) fun t43 =>
 T6 (R (.tuple #[t43, (.bool true)]))) fun J1 =>
 B2 PR X 99 [t2] fun t30 =>
 rng (N := 2) PR X (fun t31 t32 K2 =>
 bgn <|
 drw <|
 A6 PR (Instr.loadAt 129 t8) fun t33 =>
 A6 PR (Instr.loadAt 9 t3) fun t34 =>
 A6 PR (Instr.loadAt 3 t4) fun t35 =>
 A0 PR (binOp .add 3 t35 t31) fun t37 =>
 A0 PR (Instr.index 9 t34 t37) fun t38 =>
 A0 PR (convert 5 129 t38) fun t39 =>
 A0 PR (binOp .shl 129 t39 t32) fun t41 =>
 A0 PR (binOp .or 129 t33 t41) fun t42 =>
 B9 PR (fun _ => False) (Instr.storeAt 129 t8 t42) <|
 K2 none) t30 (fun j => match j with | none => (J1) | some (.exit i) => (match Nat.beq i 0 with | true => (J1) | false => (D8)) | some .ret => (T6 (R (.tuple #[t6, t7]))) | some _ => D8)) fun J3 =>
 A0 PR (binOp .lss 3 t2 (.int .i64 1)) fun t12 =>
 gj t12 false (fun J => J t2) fun t14 =>
 gj t12 false (fun J => A0 PR (binOp .gtr 3 t14 (.int .i64 8)) J) fun t15 =>
 A0 PR (do pure (if ← asBool t12 then (.bool true) else t15)) fun t16 =>
 gj t16 false (fun J => A6 PR (Instr.loadAt 3 t4) J) fun t18 =>
 gj t16 false (fun J => A0 PR (binOp .lss 3 t18 (.int .i64 0)) J) fun t19 =>
 A0 PR (do pure (if ← asBool t16 then (.bool true) else t19)) fun t20 =>
 gj t20 false (fun J => A6 PR (Instr.loadAt 3 t4) J) fun t22 =>
 gj t20 false (fun J => A6 PR (Instr.loadAt 9 t3) J) fun t23 =>
 gj t20 false (fun J => A0 PR (A8 .len #[9] 0 [t23]) J) fun t24 =>
 gj t20 false (fun J => J t2) fun t25 =>
 gj t20 false (fun J => A0 PR (binOp .sub 3 t24 t25) J) fun t26 =>
 gj t20 false (fun J => A0 PR (binOp .gtr 3 t22 t26) J) fun t27 =>
 A0 PR (do pure (if ← asBool t20 then (.bool true) else t27)) fun t28 =>
 B8 t28 (
 T6 (R (.tuple #[(.int .u64 0), (.bool false)]))) (
 J3 (.int .u64 0) (.bool false))
theorem P6 : A9 PR 148 := A7 Tryz.func148 (by kernel_rfl) rfl
theorem B2B {X : Nat → Prop} {t0 t1 t2 : Value} {R : Value → WP} {w : World} (h : A6l X t0 t1 t2 R w) : Fn PR X 148 #[t0, t1, t2] w R := C5 (args := [t0, t1, t2]) mixed Tryz.func148 (by kernel_rfl) h
end Go.Proofs.YtpbmephflllolaaGreat
namespace Go.Proofs.YtpbmephflllolaaGreat
open Go
theorem A5K : TI PR 119 Tryz.t118.desc 3 24 (.agg #[(.int .i64 0), (.int .i64 0), (.int .i64 0)]) := ⟨Tryz.underlying119, Tryz.t119, by kernel_rfl, rfl, rfl, rfl⟩
theorem A7B : TI PR 122 Tryz.t121.desc 3 40 (.agg #[(.string (ByteArray.mk #[])), (.string (ByteArray.mk #[])), (.int .i64 0)]) := ⟨Tryz.underlying122, Tryz.t122, by kernel_rfl, rfl, rfl, rfl⟩
theorem A68 : TI PR 124 Tryz.t121.desc 3 40 (.agg #[(.string (ByteArray.mk #[])), (.string (ByteArray.mk #[])), (.int .i64 0)]) := ⟨Tryz.underlying124, Tryz.t124, by kernel_rfl, rfl, rfl, rfl⟩
theorem B6b : TI PR 126 Tryz.t126.desc 38 38 (.agg #[(.int .u8 0), (.int .u8 0), (.int .u8 0), (.int .u8 0), (.int .u8 0), (.int .u8 0), (.int .u8 0), (.int .u8 0), (.int .u8 0), (.int .u8 0), (.int .u8 0), (.int .u8 0), (.int .u8 0), (.int .u8 0), (.int .u8 0), (.int .u8 0), (.int .u8 0), (.int .u8 0), (.int .u8 0), (.int .u8 0), (.int .u8 0), (.int .u8 0), (.int .u8 0), (.int .u8 0), (.int .u8 0), (.int .u8 0), (.int .u8 0), (.int .u8 0), (.int .u8 0), (.int .u8 0), (.int .u8 0), (.int .u8 0), (.int .u8 0), (.int .u8 0), (.int .u8 0), (.int .u8 0), (.int .u8 0), (.int .u8 0)]) := ⟨Tryz.underlying126, Tryz.t126, by kernel_rfl, rfl, rfl, rfl⟩
theorem A2C : TI PR 127 Tryz.t127.desc 1 24 (.slice none 0 0) := ⟨Tryz.underlying127, Tryz.t127, by kernel_rfl, rfl, rfl, rfl⟩
theorem A3K : TI PR 129 Tryz.t129.desc 1 8 (.int .u64 0) := ⟨Tryz.underlying129, Tryz.t129, by kernel_rfl, rfl, rfl, rfl⟩
theorem C26 : TI PR 149 Tryz.t149.desc 1 8 .nilFunc := ⟨Tryz.underlying149, Tryz.t149, by kernel_rfl, rfl, rfl, rfl⟩
theorem A1D : TI PR 160 Tryz.t159.desc 4 40 (.agg #[(.int .i64 0), (.string (ByteArray.mk #[])), (.int .i64 0), (.int .i64 0)]) := ⟨Tryz.underlying160, Tryz.t160, by kernel_rfl, rfl, rfl, rfl⟩
theorem B5B : TI PR 176 Tryz.t94.desc 1 24 (.slice none 0 0) := ⟨Tryz.underlying176, Tryz.t176, by kernel_rfl, rfl, rfl, rfl⟩
theorem A64 : TI PR 187 Tryz.t186.desc 2 32 (.agg #[(.pointer none), (.slice none 0 0)]) := ⟨Tryz.underlying187, Tryz.t187, by kernel_rfl, rfl, rfl, rfl⟩
theorem C0D : TI PR 189 Tryz.t188.desc 2 32 (.agg #[(.pointer none), (.slice none 0 0)]) := ⟨Tryz.underlying189, Tryz.t189, by kernel_rfl, rfl, rfl, rfl⟩
theorem A4y : TI PR 211 Tryz.t210.desc 2 16 (.agg #[(.int .u64 0), (.int .i64 0)]) := ⟨Tryz.underlying211, Tryz.t211, by kernel_rfl, rfl, rfl, rfl⟩
theorem C3G : TI PR 218 Tryz.t218.desc 1 8 .nilFunc := ⟨Tryz.underlying218, Tryz.t218, by kernel_rfl, rfl, rfl, rfl⟩
theorem A6y : TI PR 28 Tryz.t3.desc 1 8 (.int .i64 0) := ⟨Tryz.underlying28, Tryz.t28, by kernel_rfl, rfl, rfl, rfl⟩
theorem A7D : TI PR 296 Tryz.t295.desc 2 16 (.agg #[.nilFunc, (.int .i64 0)]) := ⟨Tryz.underlying296, Tryz.t296, by kernel_rfl, rfl, rfl, rfl⟩
theorem H0 : TI PR 3 Tryz.t3.desc 1 8 (.int .i64 0) := ⟨Tryz.underlying3, Tryz.t3, by kernel_rfl, rfl, rfl, rfl⟩
theorem C30 : TI PR 300 Tryz.t300.desc 1 8 .nilFunc := ⟨Tryz.underlying300, Tryz.t300, by kernel_rfl, rfl, rfl, rfl⟩
theorem C0K : TI PR 302 Tryz.t129.desc 1 8 (.int .u64 0) := ⟨Tryz.underlying302, Tryz.t302, by kernel_rfl, rfl, rfl, rfl⟩
theorem A2c : TI PR 39 Tryz.t38.desc 4 32 (.agg #[(.int .i64 0), (.int .i64 0), (.bool false), (.int .i64 0)]) := ⟨Tryz.underlying39, Tryz.t39, by kernel_rfl, rfl, rfl, rfl⟩
theorem A3y : TI PR 42 Tryz.t41.desc 4 56 (.agg #[(.int .i64 0), (.string (ByteArray.mk #[])), (.slice none 0 0), (.int .i64 0)]) := ⟨Tryz.underlying42, Tryz.t42, by kernel_rfl, rfl, rfl, rfl⟩
theorem B5J : TI PR 48 Tryz.t48.desc 1 24 (.slice none 0 0) := ⟨Tryz.underlying48, Tryz.t48, by kernel_rfl, rfl, rfl, rfl⟩
theorem A2Z : TI PR 56 Tryz.t55.desc 6 64 (.agg #[(.int .i64 0), (.string (ByteArray.mk #[])), (.string (ByteArray.mk #[])), (.int .i64 0), (.int .i64 0), (.int .i64 0)]) := ⟨Tryz.underlying56, Tryz.t56, by kernel_rfl, rfl, rfl, rfl⟩
theorem A9q : TI PR 58 Tryz.t57.desc 7 72 (.agg #[(.int .i64 0), (.string (ByteArray.mk #[])), (.string (ByteArray.mk #[])), (.int .i64 0), (.int .i64 0), (.int .i64 0), (.int .i64 0)]) := ⟨Tryz.underlying58, Tryz.t58, by kernel_rfl, rfl, rfl, rfl⟩
theorem A8V : TI PR 75 Tryz.t74.desc 2 16 (.agg #[(.int .i64 0), (.int .i64 0)]) := ⟨Tryz.underlying75, Tryz.t75, by kernel_rfl, rfl, rfl, rfl⟩
theorem A9p : TI PR 94 Tryz.t94.desc 1 24 (.slice none 0 0) := ⟨Tryz.underlying94, Tryz.t94, by kernel_rfl, rfl, rfl, rfl⟩
theorem B14 : TI PR 208 Tryz.t208.desc 1 24 (.slice none 0 0) := ⟨Tryz.underlying208, Tryz.t208, by kernel_rfl, rfl, rfl, rfl⟩
theorem A8N : TI PR 32 Tryz.t32.desc 1 24 (.slice none 0 0) := ⟨Tryz.underlying32, Tryz.t32, by kernel_rfl, rfl, rfl, rfl⟩
theorem B6T : TI PR 34 Tryz.t34.desc 1 24 (.slice none 0 0) := ⟨Tryz.underlying34, Tryz.t34, by kernel_rfl, rfl, rfl, rfl⟩
theorem ty9 : TI PR 9 Tryz.t9.desc 1 16 (.string (ByteArray.mk #[])) := ⟨Tryz.underlying9, Tryz.t9, by kernel_rfl, rfl, rfl, rfl⟩
theorem B88 : TI PR 76 Tryz.t76.desc 1 24 (.slice none 0 0) := ⟨Tryz.underlying76, Tryz.t76, by kernel_rfl, rfl, rfl, rfl⟩
theorem B3g : TI PR 86 Tryz.t86.desc 1 24 (.slice none 0 0) := ⟨Tryz.underlying86, Tryz.t86, by kernel_rfl, rfl, rfl, rfl⟩
theorem B9b : TI PR 93 Tryz.t93.desc 1 8 (.pointer none) := ⟨Tryz.underlying93, Tryz.t93, by kernel_rfl, rfl, rfl, rfl⟩
theorem B9N : TI PR 90 Tryz.t90.desc 1 24 (.slice none 0 0) := ⟨Tryz.underlying90, Tryz.t90, by kernel_rfl, rfl, rfl, rfl⟩
theorem B1z : TI PR 217 Tryz.t210.desc 2 16 (.agg #[(.int .u64 0), (.int .i64 0)]) := ⟨Tryz.underlying217, Tryz.t217, by kernel_rfl, rfl, rfl, rfl⟩
theorem B12 : TI PR 103 Tryz.t102.desc 4 40 (.agg #[(.int .i32 0), (.int .u32 0), (.slice none 0 0), (.int .i64 0)]) := ⟨Tryz.underlying103, Tryz.t103, by kernel_rfl, rfl, rfl, rfl⟩
@[simp] theorem C3q {v0 : Value} (h0 : v0.cells.size = 1) (K : Value → WP) : A0 PR (Instr.build 103 #[(1, v0)]) K = K (.agg (E6 #[(.int .i32 0), (.int .u32 0), (.slice none 0 0), (.int .i64 0)] 2 v0.cells.toList)) := E9 (pl := #[(0, 2), (2, 1), (3, 1)]) B12 (fun w => by kernel_rfl) (by rw [B7 rfl h0 (by simp [C0])]; rfl)
@[simp] theorem C44  (K : Value → WP) : A0 PR (Instr.build 119 #[]) K = K (.agg #[(.int .i64 0), (.int .i64 0), (.int .i64 0)]) := E9 (pl := #[(0, 1), (1, 1), (2, 1)]) A5K (fun w => by kernel_rfl) rfl
@[simp] theorem C2e {v0 v1 : Value} (h0 : v0.cells.size = 1) (h1 : v1.cells.size = 1) (K : Value → WP) : A0 PR (Instr.build 119 #[(0, v0), (1, v1)]) K = K (.agg (E6 (E6 #[(.int .i64 0), (.int .i64 0), (.int .i64 0)] 0 v0.cells.toList) 1 v1.cells.toList)) := E9 (pl := #[(0, 1), (1, 1), (2, 1)]) A5K (fun w => by kernel_rfl) (by rw [B7 rfl h0 (by simp [C0]), B7 rfl h1 (by simp [C0])]; rfl)
@[simp] theorem C0k {v0 v1 v2 : Value} (h0 : v0.cells.size = 1) (h1 : v1.cells.size = 1) (h2 : v2.cells.size = 1) (K : Value → WP) : A0 PR (Instr.build 119 #[(0, v0), (1, v1), (2, v2)]) K = K (.agg (E6 (E6 (E6 #[(.int .i64 0), (.int .i64 0), (.int .i64 0)] 0 v0.cells.toList) 1 v1.cells.toList) 2 v2.cells.toList)) := E9 (pl := #[(0, 1), (1, 1), (2, 1)]) A5K (fun w => by kernel_rfl) (by rw [B7 rfl h0 (by simp [C0]), B7 rfl h1 (by simp [C0]), B7 rfl h2 (by simp [C0])]; rfl)
@[simp] theorem C5G  (K : Value → WP) : A0 PR (Instr.build 122 #[]) K = K (.agg #[(.string (ByteArray.mk #[])), (.string (ByteArray.mk #[])), (.int .i64 0)]) := E9 (pl := #[(0, 1), (1, 1), (2, 1)]) A7B (fun w => by kernel_rfl) rfl
@[simp] theorem C0g {v0 v1 v2 : Value} (h0 : v0.cells.size = 1) (h1 : v1.cells.size = 1) (h2 : v2.cells.size = 1) (K : Value → WP) : A0 PR (Instr.build 122 #[(0, v0), (1, v1), (2, v2)]) K = K (.agg (E6 (E6 (E6 #[(.string (ByteArray.mk #[])), (.string (ByteArray.mk #[])), (.int .i64 0)] 0 v0.cells.toList) 1 v1.cells.toList) 2 v2.cells.toList)) := E9 (pl := #[(0, 1), (1, 1), (2, 1)]) A7B (fun w => by kernel_rfl) (by rw [B7 rfl h0 (by simp [C0]), B7 rfl h1 (by simp [C0]), B7 rfl h2 (by simp [C0])]; rfl)
@[simp] theorem C4p  (K : Value → WP) : A0 PR (Instr.build 124 #[]) K = K (.agg #[(.string (ByteArray.mk #[])), (.string (ByteArray.mk #[])), (.int .i64 0)]) := E9 (pl := #[(0, 1), (1, 1), (2, 1)]) A68 (fun w => by kernel_rfl) rfl
@[simp] theorem C1B {v0 v1 v2 : Value} (h0 : v0.cells.size = 1) (h1 : v1.cells.size = 1) (h2 : v2.cells.size = 1) (K : Value → WP) : A0 PR (Instr.build 124 #[(0, v0), (1, v1), (2, v2)]) K = K (.agg (E6 (E6 (E6 #[(.string (ByteArray.mk #[])), (.string (ByteArray.mk #[])), (.int .i64 0)] 0 v0.cells.toList) 1 v1.cells.toList) 2 v2.cells.toList)) := E9 (pl := #[(0, 1), (1, 1), (2, 1)]) A68 (fun w => by kernel_rfl) (by rw [B7 rfl h0 (by simp [C0]), B7 rfl h1 (by simp [C0]), B7 rfl h2 (by simp [C0])]; rfl)
theorem A9M : TI PR 153 Tryz.t153.desc 2 16 (.agg #[(.int .i64 0), (.int .i64 0)]) := ⟨Tryz.underlying153, Tryz.t153, by kernel_rfl, rfl, rfl, rfl⟩
@[simp] theorem B8W {v0 v1 v2 v3 : Value} (h0 : v0.cells.size = 1) (h1 : v1.cells.size = 1) (h2 : v2.cells.size = 1) (h3 : v3.cells.size = 1) (K : Value → WP) : A0 PR (Instr.build 160 #[(0, v0), (1, v1), (2, v2), (3, v3)]) K = K (.agg (E6 (E6 (E6 (E6 #[(.int .i64 0), (.string (ByteArray.mk #[])), (.int .i64 0), (.int .i64 0)] 0 v0.cells.toList) 1 v1.cells.toList) 2 v2.cells.toList) 3 v3.cells.toList)) := E9 (pl := #[(0, 1), (1, 1), (2, 1), (3, 1)]) A1D (fun w => by kernel_rfl) (by rw [B7 rfl h0 (by simp [C0]), B7 rfl h1 (by simp [C0]), B7 rfl h2 (by simp [C0]), B7 rfl h3 (by simp [C0])]; rfl)
@[simp] theorem C3z {v0 : Value} (h0 : v0.cells.size = 1) (K : Value → WP) : A0 PR (Instr.build 160 #[(0, v0)]) K = K (.agg (E6 #[(.int .i64 0), (.string (ByteArray.mk #[])), (.int .i64 0), (.int .i64 0)] 0 v0.cells.toList)) := E9 (pl := #[(0, 1), (1, 1), (2, 1), (3, 1)]) A1D (fun w => by kernel_rfl) (by rw [B7 rfl h0 (by simp [C0])]; rfl)
@[simp] theorem C10 {v0 v1 : Value} (h0 : v0.cells.size = 1) (h1 : v1.cells.size = 1) (K : Value → WP) : A0 PR (Instr.build 211 #[(0, v0), (1, v1)]) K = K (.agg (E6 (E6 #[(.int .u64 0), (.int .i64 0)] 0 v0.cells.toList) 1 v1.cells.toList)) := E9 (pl := #[(0, 1), (1, 1)]) A4y (fun w => by kernel_rfl) (by rw [B7 rfl h0 (by simp [C0]), B7 rfl h1 (by simp [C0])]; rfl)
theorem A2w : TI PR 23 Tryz.t22.desc 5 40 (.agg #[(.int .i64 0), (.int .i64 0), (.int .i64 0), (.int .i64 0), (.int .i64 0)]) := ⟨Tryz.underlying23, Tryz.t23, by kernel_rfl, rfl, rfl, rfl⟩
@[simp] theorem C6j  (K : Value → WP) : A0 PR (Instr.build 23 #[]) K = K (.agg #[(.int .i64 0), (.int .i64 0), (.int .i64 0), (.int .i64 0), (.int .i64 0)]) := E9 (pl := #[(0, 1), (1, 1), (2, 1), (3, 1), (4, 1)]) A2w (fun w => by kernel_rfl) rfl
@[simp] theorem B8L {v0 v1 v2 v3 v4 : Value} (h0 : v0.cells.size = 1) (h1 : v1.cells.size = 1) (h2 : v2.cells.size = 1) (h3 : v3.cells.size = 1) (h4 : v4.cells.size = 1) (K : Value → WP) : A0 PR (Instr.build 23 #[(0, v0), (1, v1), (2, v2), (3, v3), (4, v4)]) K = K (.agg (E6 (E6 (E6 (E6 (E6 #[(.int .i64 0), (.int .i64 0), (.int .i64 0), (.int .i64 0), (.int .i64 0)] 0 v0.cells.toList) 1 v1.cells.toList) 2 v2.cells.toList) 3 v3.cells.toList) 4 v4.cells.toList)) := E9 (pl := #[(0, 1), (1, 1), (2, 1), (3, 1), (4, 1)]) A2w (fun w => by kernel_rfl) (by rw [B7 rfl h0 (by simp [C0]), B7 rfl h1 (by simp [C0]), B7 rfl h2 (by simp [C0]), B7 rfl h3 (by simp [C0]), B7 rfl h4 (by simp [C0])]; rfl)
theorem B93 : TI PR 246 Tryz.t81.desc 0 0 (.agg #[]) := ⟨Tryz.underlying246, Tryz.t246, by kernel_rfl, rfl, rfl, rfl⟩
@[simp] theorem C4l  (K : Value → WP) : A0 PR (Instr.build 246 #[]) K = K (.agg #[]) := E9 (pl := #[]) B93 (fun w => by kernel_rfl) rfl
theorem B99 : TI PR 247 Tryz.t81.desc 0 0 (.agg #[]) := ⟨Tryz.underlying247, Tryz.t247, by kernel_rfl, rfl, rfl, rfl⟩
@[simp] theorem C5B  (K : Value → WP) : A0 PR (Instr.build 247 #[]) K = K (.agg #[]) := E9 (pl := #[]) B99 (fun w => by kernel_rfl) rfl
@[simp] theorem C1l {v0 v1 : Value} (h0 : v0.cells.size = 1) (h1 : v1.cells.size = 1) (K : Value → WP) : A0 PR (Instr.build 296 #[(0, v0), (1, v1)]) K = K (.agg (E6 (E6 #[.nilFunc, (.int .i64 0)] 0 v0.cells.toList) 1 v1.cells.toList)) := E9 (pl := #[(0, 1), (1, 1)]) A7D (fun w => by kernel_rfl) (by rw [B7 rfl h0 (by simp [C0]), B7 rfl h1 (by simp [C0])]; rfl)
@[simp] theorem C6A  (K : Value → WP) : A0 PR (Instr.build 39 #[]) K = K (.agg #[(.int .i64 0), (.int .i64 0), (.bool false), (.int .i64 0)]) := E9 (pl := #[(0, 1), (1, 1), (2, 1), (3, 1)]) A2c (fun w => by kernel_rfl) rfl
@[simp] theorem C5N {v0 : Value} (h0 : v0.cells.size = 1) (K : Value → WP) : A0 PR (Instr.build 39 #[(0, v0)]) K = K (.agg (E6 #[(.int .i64 0), (.int .i64 0), (.bool false), (.int .i64 0)] 0 v0.cells.toList)) := E9 (pl := #[(0, 1), (1, 1), (2, 1), (3, 1)]) A2c (fun w => by kernel_rfl) (by rw [B7 rfl h0 (by simp [C0])]; rfl)
@[simp] theorem C2u {v0 v1 : Value} (h0 : v0.cells.size = 1) (h1 : v1.cells.size = 1) (K : Value → WP) : A0 PR (Instr.build 39 #[(1, v0), (2, v1)]) K = K (.agg (E6 (E6 #[(.int .i64 0), (.int .i64 0), (.bool false), (.int .i64 0)] 1 v0.cells.toList) 2 v1.cells.toList)) := E9 (pl := #[(0, 1), (1, 1), (2, 1), (3, 1)]) A2c (fun w => by kernel_rfl) (by rw [B7 rfl h0 (by simp [C0]), B7 rfl h1 (by simp [C0])]; rfl)
@[simp] theorem C5p {v0 : Value} (h0 : v0.cells.size = 1) (K : Value → WP) : A0 PR (Instr.build 39 #[(1, v0)]) K = K (.agg (E6 #[(.int .i64 0), (.int .i64 0), (.bool false), (.int .i64 0)] 1 v0.cells.toList)) := E9 (pl := #[(0, 1), (1, 1), (2, 1), (3, 1)]) A2c (fun w => by kernel_rfl) (by rw [B7 rfl h0 (by simp [C0])]; rfl)
@[simp] theorem C4f {v0 : Value} (h0 : v0.cells.size = 1) (K : Value → WP) : A0 PR (Instr.build 39 #[(3, v0)]) K = K (.agg (E6 #[(.int .i64 0), (.int .i64 0), (.bool false), (.int .i64 0)] 3 v0.cells.toList)) := E9 (pl := #[(0, 1), (1, 1), (2, 1), (3, 1)]) A2c (fun w => by kernel_rfl) (by rw [B7 rfl h0 (by simp [C0])]; rfl)
@[simp] theorem C5q {v0 : Value} (h0 : v0.cells.size = 1) (K : Value → WP) : A0 PR (Instr.build 42 #[(0, v0)]) K = K (.agg (E6 #[(.int .i64 0), (.string (ByteArray.mk #[])), (.slice none 0 0), (.int .i64 0)] 0 v0.cells.toList)) := E9 (pl := #[(0, 1), (1, 1), (2, 1), (3, 1)]) A3y (fun w => by kernel_rfl) (by rw [B7 rfl h0 (by simp [C0])]; rfl)
@[simp] theorem C6r  (K : Value → WP) : A0 PR (Instr.build 56 #[]) K = K (.agg #[(.int .i64 0), (.string (ByteArray.mk #[])), (.string (ByteArray.mk #[])), (.int .i64 0), (.int .i64 0), (.int .i64 0)]) := E9 (pl := #[(0, 1), (1, 1), (2, 1), (3, 1), (4, 1), (5, 1)]) A2Z (fun w => by kernel_rfl) rfl
@[simp] theorem B6f {v0 v1 v2 v3 v4 v5 : Value} (h0 : v0.cells.size = 1) (h1 : v1.cells.size = 1) (h2 : v2.cells.size = 1) (h3 : v3.cells.size = 1) (h4 : v4.cells.size = 1) (h5 : v5.cells.size = 1) (K : Value → WP) : A0 PR (Instr.build 56 #[(0, v0), (1, v1), (2, v2), (3, v3), (4, v4), (5, v5)]) K = K (.agg (E6 (E6 (E6 (E6 (E6 (E6 #[(.int .i64 0), (.string (ByteArray.mk #[])), (.string (ByteArray.mk #[])), (.int .i64 0), (.int .i64 0), (.int .i64 0)] 0 v0.cells.toList) 1 v1.cells.toList) 2 v2.cells.toList) 3 v3.cells.toList) 4 v4.cells.toList) 5 v5.cells.toList)) := E9 (pl := #[(0, 1), (1, 1), (2, 1), (3, 1), (4, 1), (5, 1)]) A2Z (fun w => by kernel_rfl) (by rw [B7 rfl h0 (by simp [C0]), B7 rfl h1 (by simp [C0]), B7 rfl h2 (by simp [C0]), B7 rfl h3 (by simp [C0]), B7 rfl h4 (by simp [C0]), B7 rfl h5 (by simp [C0])]; rfl)
@[simp] theorem C0G {v0 v1 v2 v3 : Value} (h0 : v0.cells.size = 1) (h1 : v1.cells.size = 1) (h2 : v2.cells.size = 1) (h3 : v3.cells.size = 1) (K : Value → WP) : A0 PR (Instr.build 56 #[(0, v0), (1, v1), (2, v2), (5, v3)]) K = K (.agg (E6 (E6 (E6 (E6 #[(.int .i64 0), (.string (ByteArray.mk #[])), (.string (ByteArray.mk #[])), (.int .i64 0), (.int .i64 0), (.int .i64 0)] 0 v0.cells.toList) 1 v1.cells.toList) 2 v2.cells.toList) 5 v3.cells.toList)) := E9 (pl := #[(0, 1), (1, 1), (2, 1), (3, 1), (4, 1), (5, 1)]) A2Z (fun w => by kernel_rfl) (by rw [B7 rfl h0 (by simp [C0]), B7 rfl h1 (by simp [C0]), B7 rfl h2 (by simp [C0]), B7 rfl h3 (by simp [C0])]; rfl)
@[simp] theorem C6W  (K : Value → WP) : A0 PR (Instr.build 58 #[]) K = K (.agg #[(.int .i64 0), (.string (ByteArray.mk #[])), (.string (ByteArray.mk #[])), (.int .i64 0), (.int .i64 0), (.int .i64 0), (.int .i64 0)]) := E9 (pl := #[(0, 6), (6, 1)]) A9q (fun w => by kernel_rfl) rfl
@[simp] theorem C2v {v0 v1 : Value} (h0 : v0.cells.size = 6) (h1 : v1.cells.size = 1) (K : Value → WP) : A0 PR (Instr.build 58 #[(0, v0), (1, v1)]) K = K (.agg (E6 (E6 #[(.int .i64 0), (.string (ByteArray.mk #[])), (.string (ByteArray.mk #[])), (.int .i64 0), (.int .i64 0), (.int .i64 0), (.int .i64 0)] 0 v0.cells.toList) 6 v1.cells.toList)) := E9 (pl := #[(0, 6), (6, 1)]) A9q (fun w => by kernel_rfl) (by rw [B7 rfl h0 (by simp [C0]), B7 rfl h1 (by simp [C0])]; rfl)
@[simp] theorem C5U {v0 : Value} (h0 : v0.cells.size = 6) (K : Value → WP) : A0 PR (Instr.build 58 #[(0, v0)]) K = K (.agg (E6 #[(.int .i64 0), (.string (ByteArray.mk #[])), (.string (ByteArray.mk #[])), (.int .i64 0), (.int .i64 0), (.int .i64 0), (.int .i64 0)] 0 v0.cells.toList)) := E9 (pl := #[(0, 6), (6, 1)]) A9q (fun w => by kernel_rfl) (by rw [B7 rfl h0 (by simp [C0])]; rfl)
@[simp] theorem C20 {v0 v1 : Value} (h0 : v0.cells.size = 1) (h1 : v1.cells.size = 1) (K : Value → WP) : A0 PR (Instr.build 75 #[(0, v0), (1, v1)]) K = K (.agg (E6 (E6 #[(.int .i64 0), (.int .i64 0)] 0 v0.cells.toList) 1 v1.cells.toList)) := E9 (pl := #[(0, 1), (1, 1)]) A8V (fun w => by kernel_rfl) (by rw [B7 rfl h0 (by simp [C0]), B7 rfl h1 (by simp [C0])]; rfl)
theorem B6S : TI PR 88 Tryz.t87.desc 7 72 (.agg #[(.int .i64 0), (.int .i64 0), (.int .i64 0), (.int .i64 0), (.int .i64 0), (.pointer none), (.slice none 0 0)]) := ⟨Tryz.underlying88, Tryz.t88, by kernel_rfl, rfl, rfl, rfl⟩
@[simp] theorem C4j {v0 : Value} (h0 : v0.cells.size = 5) (K : Value → WP) : A0 PR (Instr.build 88 #[(0, v0)]) K = K (.agg (E6 #[(.int .i64 0), (.int .i64 0), (.int .i64 0), (.int .i64 0), (.int .i64 0), (.pointer none), (.slice none 0 0)] 0 v0.cells.toList)) := E9 (pl := #[(0, 5), (5, 1), (6, 1)]) B6S (fun w => by kernel_rfl) (by rw [B7 rfl h0 (by simp [C0])]; rfl)
theorem B56 : TI PR 92 Tryz.t91.desc 2 48 (.agg #[(.slice none 0 0), (.slice none 0 0)]) := ⟨Tryz.underlying92, Tryz.t92, by kernel_rfl, rfl, rfl, rfl⟩
@[simp] theorem C6s  (K : Value → WP) : A0 PR (Instr.build 92 #[]) K = K (.agg #[(.slice none 0 0), (.slice none 0 0)]) := E9 (pl := #[(0, 1), (1, 1)]) B56 (fun w => by kernel_rfl) rfl
@[simp] theorem C2z {v0 v1 : Value} (h0 : v0.cells.size = 1) (h1 : v1.cells.size = 1) (K : Value → WP) : A0 PR (Instr.build 92 #[(0, v0), (1, v1)]) K = K (.agg (E6 (E6 #[(.slice none 0 0), (.slice none 0 0)] 0 v0.cells.toList) 1 v1.cells.toList)) := E9 (pl := #[(0, 1), (1, 1)]) B56 (fun w => by kernel_rfl) (by rw [B7 rfl h0 (by simp [C0]), B7 rfl h1 (by simp [C0])]; rfl)
theorem ty5 : TI PR 5 Tryz.t5.desc 1 1 (.int .u8 0) := ⟨Tryz.underlying5, Tryz.t5, by kernel_rfl, rfl, rfl, rfl⟩
theorem B5M : TI PR 229 Tryz.t229.desc 1 24 (.slice none 0 0) := ⟨Tryz.underlying229, Tryz.t229, by kernel_rfl, rfl, rfl, rfl⟩
theorem B53 : TI PR 320 Tryz.t320.desc 1 24 (.slice none 0 0) := ⟨Tryz.underlying320, Tryz.t320, by kernel_rfl, rfl, rfl, rfl⟩
theorem B3u {K : Value → WP} {w : World} {b o cap : Nat} {ns : List Int} (hr : H4 w b o (ns.map (Value.int .u8))) : A6 PR (convert 127 9 (.slice (some ⟨b, o, none⟩) ns.length cap)) K w = K (.string (A2M ns)) w := C28 A2C ty5 ty9 hr
@[simp] theorem C4D {k : IntKind} (a : Int) (K : Value → WP) : A0 PR (convert 129 3 (.int k a)) K = K (.int .i64 (IntKind.i64.wrap a)) := A1l H0 A3K
@[simp] theorem C4K {k : IntKind} (a : Int) (K : Value → WP) : A0 PR (convert 129 5 (.int k a)) K = K (.int .u8 (IntKind.u8.wrap a)) := A1l ty5 A3K
theorem B92 : TI PR 130 Tryz.t130.desc 1 8 (.int .u64 0) := ⟨Tryz.underlying130, Tryz.t130, by kernel_rfl, rfl, rfl, rfl⟩
@[simp] theorem C29 {k : IntKind} (a : Int) (K : Value → WP) : A0 PR (convert 130 3 (.int k a)) K = K (.int .i64 (IntKind.i64.wrap a)) := A1l H0 B92
@[simp] theorem C4S {k : IntKind} (a : Int) (K : Value → WP) : A0 PR (convert 3 129 (.int k a)) K = K (.int .u64 (IntKind.u64.wrap a)) := A1l A3K H0
@[simp] theorem C3B {k : IntKind} (a : Int) (K : Value → WP) : A0 PR (convert 3 130 (.int k a)) K = K (.int .u64 (IntKind.u64.wrap a)) := A1l B92 H0
@[simp] theorem C4T {k : IntKind} (a : Int) (K : Value → WP) : A0 PR (convert 5 129 (.int k a)) K = K (.int .u64 (IntKind.u64.wrap a)) := A1l A3K ty5
@[simp] theorem C58 {k : IntKind} (a : Int) (K : Value → WP) : A0 PR (convert 5 3 (.int k a)) K = K (.int .i64 (IntKind.i64.wrap a)) := A1l H0 ty5
@[simp] theorem C3y {k : IntKind} (a : Int) (K : Value → WP) : A0 PR (convert 5 302 (.int k a)) K = K (.int .u64 (IntKind.u64.wrap a)) := A1l C0K ty5
theorem B1x : TI PR 185 Tryz.t185.desc 1 8 (.pointer none) := ⟨Tryz.underlying185, Tryz.t185, by kernel_rfl, rfl, rfl, rfl⟩
@[simp] theorem B5N (a : Option Addr) (x y : Operand) (K : Value → WP) (w : World) : A6 PR (H8 .eql 185 x y (.pointer a) (.pointer none)) K w = K (.bool a.isNone) w := B4f B1x
theorem C2P : TI PR 27 Tryz.t27.desc 1 8 (.pointer none) := ⟨Tryz.underlying27, Tryz.t27, by kernel_rfl, rfl, rfl, rfl⟩
@[simp] theorem B7a (a : Option Addr) (x y : Operand) (K : Value → WP) (w : World) : A6 PR (H8 .eql 27 x y (.pointer a) (.pointer none)) K w = K (.bool a.isNone) w := B4f C2P
theorem ty4 : TI PR 4 Tryz.t4.desc 1 1 (.bool false) := ⟨Tryz.underlying4, Tryz.t4, by kernel_rfl, rfl, rfl, rfl⟩
@[simp] theorem B9n (a0 b0 : Int) (a1 b1 : Int) (a2 b2 : Bool) (a3 b3 : Int) (x y : Operand) (K : Value → WP) (w : World) : A6 PR (H8 .eql 39 x y (.agg #[.int .i64 a0, .int .i64 a1, .bool a2, .int .i64 a3]) (.agg #[.int .i64 b0, .int .i64 b1, .bool b2, .int .i64 b3])) K w = K (.bool (decide (a0 = b0) && (decide (a1 = b1) && ((a2 == b2) && (decide (a3 = b3) && true))))) w := C3x (by kernel_rfl) (A87 (e := 9999) A2c (by kernel_rfl) (p3 rfl A6y rfl rfl rfl (A2S (e := 9998) A6y) (p3 rfl H0 rfl rfl rfl (A2S (e := 9998) H0) (p3 rfl ty4 rfl rfl rfl (B2J (e := 9998) ty4) (p3 rfl H0 rfl rfl rfl (A2S (e := 9998) H0) (B4u))))))
@[simp] theorem B7N (a : Option Addr) (x y : Operand) (K : Value → WP) (w : World) : A6 PR (H8 .neq 27 x y (.pointer a) (.pointer none)) K w = K (.bool (!a.isNone)) w := C0x C2P
@[simp] theorem B8z (a0 b0 : Int) (a1 b1 : Int) (a2 b2 : Bool) (a3 b3 : Int) (x y : Operand) (K : Value → WP) (w : World) : A6 PR (H8 .neq 39 x y (.agg #[.int .i64 a0, .int .i64 a1, .bool a2, .int .i64 a3]) (.agg #[.int .i64 b0, .int .i64 b1, .bool b2, .int .i64 b3])) K w = K (.bool !(decide (a0 = b0) && (decide (a1 = b1) && ((a2 == b2) && (decide (a3 = b3) && true))))) w := C3F (by kernel_rfl) (A87 (e := 9999) A2c (by kernel_rfl) (p3 rfl A6y rfl rfl rfl (A2S (e := 9998) A6y) (p3 rfl H0 rfl rfl rfl (A2S (e := 9998) H0) (p3 rfl ty4 rfl rfl rfl (B2J (e := 9998) ty4) (p3 rfl H0 rfl rfl rfl (A2S (e := 9998) H0) (B4u))))))
theorem B7B {cs : Array Value} {v : Value} (h : cs[0]? = some v) (K : Value → WP) : A0 PR (Instr.field 39 (.agg cs) 0) K = K v := B8x (i := 0) A2c rfl A6y rfl h
theorem B91 : TI PR 101 Tryz.t100.desc 2 8 (.agg #[(.int .i32 0), (.int .u32 0)]) := ⟨Tryz.underlying101, Tryz.t101, by kernel_rfl, rfl, rfl, rfl⟩
theorem C1j : TI PR 99 Tryz.t98.desc 2 8 (.agg #[(.int .i32 0), (.int .u32 0)]) := ⟨Tryz.underlying99, Tryz.t99, by kernel_rfl, rfl, rfl, rfl⟩
@[simp] theorem C24 (b o : Nat) (K : Value → WP) : A0 PR (Instr.fieldAt 101 (.pointer (some ⟨b, o, none⟩)) 1) K = K (.pointer (some ⟨b, o, none⟩)) := B5 (i := 1) B91 rfl ⟨_, _, _, _, C1j⟩ b o
@[simp] theorem C3c (b o : Nat) (K : Value → WP) : A0 PR (Instr.fieldAt 103 (.pointer (some ⟨b, o, none⟩)) 0) K = K (.pointer (some ⟨b, o, none⟩)) := B5 (i := 0) B12 rfl ⟨_, _, _, _, B91⟩ b o
@[simp] theorem C27 (b o : Nat) (K : Value → WP) : A0 PR (Instr.fieldAt 103 (.pointer (some ⟨b, o, none⟩)) 1) K = K (.pointer (some ⟨b, o + 2, none⟩)) := B5 (i := 1) B12 rfl ⟨_, _, _, _, A9p⟩ b o
@[simp] theorem C3H (b o : Nat) (K : Value → WP) : A0 PR (Instr.fieldAt 103 (.pointer (some ⟨b, o, none⟩)) 2) K = K (.pointer (some ⟨b, o + 3, none⟩)) := B5 (i := 2) B12 rfl ⟨_, _, _, _, H0⟩ b o
@[simp] theorem C34 (b o : Nat) (K : Value → WP) : A0 PR (Instr.fieldAt 119 (.pointer (some ⟨b, o, none⟩)) 0) K = K (.pointer (some ⟨b, o, none⟩)) := B5 (i := 0) A5K rfl ⟨_, _, _, _, H0⟩ b o
@[simp] theorem C4E (b o : Nat) (K : Value → WP) : A0 PR (Instr.fieldAt 119 (.pointer (some ⟨b, o, none⟩)) 1) K = K (.pointer (some ⟨b, o + 1, none⟩)) := B5 (i := 1) A5K rfl ⟨_, _, _, _, H0⟩ b o
@[simp] theorem C38 (b o : Nat) (K : Value → WP) : A0 PR (Instr.fieldAt 119 (.pointer (some ⟨b, o, none⟩)) 2) K = K (.pointer (some ⟨b, o + 2, none⟩)) := B5 (i := 2) A5K rfl ⟨_, _, _, _, H0⟩ b o
@[simp] theorem C4H (b o : Nat) (K : Value → WP) : A0 PR (Instr.fieldAt 122 (.pointer (some ⟨b, o, none⟩)) 0) K = K (.pointer (some ⟨b, o, none⟩)) := B5 (i := 0) A7B rfl ⟨_, _, _, _, ty9⟩ b o
@[simp] theorem C3r (b o : Nat) (K : Value → WP) : A0 PR (Instr.fieldAt 122 (.pointer (some ⟨b, o, none⟩)) 1) K = K (.pointer (some ⟨b, o + 1, none⟩)) := B5 (i := 1) A7B rfl ⟨_, _, _, _, ty9⟩ b o
@[simp] theorem C3D (b o : Nat) (K : Value → WP) : A0 PR (Instr.fieldAt 122 (.pointer (some ⟨b, o, none⟩)) 2) K = K (.pointer (some ⟨b, o + 2, none⟩)) := B5 (i := 2) A7B rfl ⟨_, _, _, _, H0⟩ b o
@[simp] theorem C3Z (b o : Nat) (K : Value → WP) : A0 PR (Instr.fieldAt 124 (.pointer (some ⟨b, o, none⟩)) 0) K = K (.pointer (some ⟨b, o, none⟩)) := B5 (i := 0) A68 rfl ⟨_, _, _, _, ty9⟩ b o
@[simp] theorem C4P (b o : Nat) (K : Value → WP) : A0 PR (Instr.fieldAt 124 (.pointer (some ⟨b, o, none⟩)) 1) K = K (.pointer (some ⟨b, o + 1, none⟩)) := B5 (i := 1) A68 rfl ⟨_, _, _, _, ty9⟩ b o
@[simp] theorem C3d (b o : Nat) (K : Value → WP) : A0 PR (Instr.fieldAt 124 (.pointer (some ⟨b, o, none⟩)) 2) K = K (.pointer (some ⟨b, o + 2, none⟩)) := B5 (i := 2) A68 rfl ⟨_, _, _, _, H0⟩ b o
@[simp] theorem C4G (b o : Nat) (K : Value → WP) : A0 PR (Instr.fieldAt 160 (.pointer (some ⟨b, o, none⟩)) 0) K = K (.pointer (some ⟨b, o, none⟩)) := B5 (i := 0) A1D rfl ⟨_, _, _, _, H0⟩ b o
@[simp] theorem C3p (b o : Nat) (K : Value → WP) : A0 PR (Instr.fieldAt 160 (.pointer (some ⟨b, o, none⟩)) 1) K = K (.pointer (some ⟨b, o + 1, none⟩)) := B5 (i := 1) A1D rfl ⟨_, _, _, _, ty9⟩ b o
@[simp] theorem C4F (b o : Nat) (K : Value → WP) : A0 PR (Instr.fieldAt 160 (.pointer (some ⟨b, o, none⟩)) 2) K = K (.pointer (some ⟨b, o + 2, none⟩)) := B5 (i := 2) A1D rfl ⟨_, _, _, _, H0⟩ b o
@[simp] theorem C3S (b o : Nat) (K : Value → WP) : A0 PR (Instr.fieldAt 160 (.pointer (some ⟨b, o, none⟩)) 3) K = K (.pointer (some ⟨b, o + 3, none⟩)) := B5 (i := 3) A1D rfl ⟨_, _, _, _, H0⟩ b o
@[simp] theorem C3k (b o : Nat) (K : Value → WP) : A0 PR (Instr.fieldAt 187 (.pointer (some ⟨b, o, none⟩)) 0) K = K (.pointer (some ⟨b, o, none⟩)) := B5 (i := 0) A64 rfl ⟨_, _, _, _, B1x⟩ b o
@[simp] theorem C22 (b o : Nat) (K : Value → WP) : A0 PR (Instr.fieldAt 187 (.pointer (some ⟨b, o, none⟩)) 1) K = K (.pointer (some ⟨b, o + 1, none⟩)) := B5 (i := 1) A64 rfl ⟨_, _, _, _, A2C⟩ b o
@[simp] theorem C3W (b o : Nat) (K : Value → WP) : A0 PR (Instr.fieldAt 189 (.pointer (some ⟨b, o, none⟩)) 0) K = K (.pointer (some ⟨b, o, none⟩)) := B5 (i := 0) C0D rfl ⟨_, _, _, _, A64⟩ b o
@[simp] theorem C3N (b o : Nat) (K : Value → WP) : A0 PR (Instr.fieldAt 211 (.pointer (some ⟨b, o, none⟩)) 0) K = K (.pointer (some ⟨b, o, none⟩)) := B5 (i := 0) A4y rfl ⟨_, _, _, _, A3K⟩ b o
@[simp] theorem C3n (b o : Nat) (K : Value → WP) : A0 PR (Instr.fieldAt 211 (.pointer (some ⟨b, o, none⟩)) 1) K = K (.pointer (some ⟨b, o + 1, none⟩)) := B5 (i := 1) A4y rfl ⟨_, _, _, _, H0⟩ b o
@[simp] theorem C4J (b o : Nat) (K : Value → WP) : A0 PR (Instr.fieldAt 217 (.pointer (some ⟨b, o, none⟩)) 0) K = K (.pointer (some ⟨b, o, none⟩)) := B5 (i := 0) B1z rfl ⟨_, _, _, _, A3K⟩ b o
@[simp] theorem C3b (b o : Nat) (K : Value → WP) : A0 PR (Instr.fieldAt 217 (.pointer (some ⟨b, o, none⟩)) 1) K = K (.pointer (some ⟨b, o + 1, none⟩)) := B5 (i := 1) B1z rfl ⟨_, _, _, _, H0⟩ b o
@[simp] theorem C4g (b o : Nat) (K : Value → WP) : A0 PR (Instr.fieldAt 23 (.pointer (some ⟨b, o, none⟩)) 0) K = K (.pointer (some ⟨b, o, none⟩)) := B5 (i := 0) A2w rfl ⟨_, _, _, _, H0⟩ b o
@[simp] theorem C5v (b o : Nat) (K : Value → WP) : A0 PR (Instr.fieldAt 23 (.pointer (some ⟨b, o, none⟩)) 1) K = K (.pointer (some ⟨b, o + 1, none⟩)) := B5 (i := 1) A2w rfl ⟨_, _, _, _, H0⟩ b o
@[simp] theorem C42 (b o : Nat) (K : Value → WP) : A0 PR (Instr.fieldAt 23 (.pointer (some ⟨b, o, none⟩)) 2) K = K (.pointer (some ⟨b, o + 2, none⟩)) := B5 (i := 2) A2w rfl ⟨_, _, _, _, H0⟩ b o
@[simp] theorem C41 (b o : Nat) (K : Value → WP) : A0 PR (Instr.fieldAt 23 (.pointer (some ⟨b, o, none⟩)) 3) K = K (.pointer (some ⟨b, o + 3, none⟩)) := B5 (i := 3) A2w rfl ⟨_, _, _, _, H0⟩ b o
@[simp] theorem C4k (b o : Nat) (K : Value → WP) : A0 PR (Instr.fieldAt 23 (.pointer (some ⟨b, o, none⟩)) 4) K = K (.pointer (some ⟨b, o + 4, none⟩)) := B5 (i := 4) A2w rfl ⟨_, _, _, _, H0⟩ b o
theorem C2U : TI PR 25 Tryz.t25.desc 1 8 .nilFunc := ⟨Tryz.underlying25, Tryz.t25, by kernel_rfl, rfl, rfl, rfl⟩
@[simp] theorem C35 (b o : Nat) (K : Value → WP) : A0 PR (Instr.fieldAt 296 (.pointer (some ⟨b, o, none⟩)) 0) K = K (.pointer (some ⟨b, o, none⟩)) := B5 (i := 0) A7D rfl ⟨_, _, _, _, C2U⟩ b o
@[simp] theorem C3V (b o : Nat) (K : Value → WP) : A0 PR (Instr.fieldAt 296 (.pointer (some ⟨b, o, none⟩)) 1) K = K (.pointer (some ⟨b, o + 1, none⟩)) := B5 (i := 1) A7D rfl ⟨_, _, _, _, A6y⟩ b o
@[simp] theorem C5C (b o : Nat) (K : Value → WP) : A0 PR (Instr.fieldAt 39 (.pointer (some ⟨b, o, none⟩)) 0) K = K (.pointer (some ⟨b, o, none⟩)) := B5 (i := 0) A2c rfl ⟨_, _, _, _, A6y⟩ b o
@[simp] theorem C5m (b o : Nat) (K : Value → WP) : A0 PR (Instr.fieldAt 39 (.pointer (some ⟨b, o, none⟩)) 3) K = K (.pointer (some ⟨b, o + 3, none⟩)) := B5 (i := 3) A2c rfl ⟨_, _, _, _, H0⟩ b o
@[simp] theorem C5f (b o : Nat) (K : Value → WP) : A0 PR (Instr.fieldAt 42 (.pointer (some ⟨b, o, none⟩)) 0) K = K (.pointer (some ⟨b, o, none⟩)) := B5 (i := 0) A3y rfl ⟨_, _, _, _, H0⟩ b o
@[simp] theorem C4Z (b o : Nat) (K : Value → WP) : A0 PR (Instr.fieldAt 42 (.pointer (some ⟨b, o, none⟩)) 1) K = K (.pointer (some ⟨b, o + 1, none⟩)) := B5 (i := 1) A3y rfl ⟨_, _, _, _, ty9⟩ b o
@[simp] theorem C5n (b o : Nat) (K : Value → WP) : A0 PR (Instr.fieldAt 42 (.pointer (some ⟨b, o, none⟩)) 2) K = K (.pointer (some ⟨b, o + 2, none⟩)) := B5 (i := 2) A3y rfl ⟨_, _, _, _, A8N⟩ b o
@[simp] theorem C5D (b o : Nat) (K : Value → WP) : A0 PR (Instr.fieldAt 42 (.pointer (some ⟨b, o, none⟩)) 3) K = K (.pointer (some ⟨b, o + 3, none⟩)) := B5 (i := 3) A3y rfl ⟨_, _, _, _, H0⟩ b o
theorem B5v : TI PR 44 Tryz.t43.desc 5 64 (.agg #[(.int .i64 0), (.string (ByteArray.mk #[])), (.slice none 0 0), (.int .i64 0), (.int .i64 0)]) := ⟨Tryz.underlying44, Tryz.t44, by kernel_rfl, rfl, rfl, rfl⟩
@[simp] theorem C5A (b o : Nat) (K : Value → WP) : A0 PR (Instr.fieldAt 44 (.pointer (some ⟨b, o, none⟩)) 0) K = K (.pointer (some ⟨b, o, none⟩)) := B5 (i := 0) B5v rfl ⟨_, _, _, _, A3y⟩ b o
@[simp] theorem C4e (b o : Nat) (K : Value → WP) : A0 PR (Instr.fieldAt 44 (.pointer (some ⟨b, o, none⟩)) 1) K = K (.pointer (some ⟨b, o + 4, none⟩)) := B5 (i := 1) B5v rfl ⟨_, _, _, _, H0⟩ b o
@[simp] theorem C4U (b o : Nat) (K : Value → WP) : A0 PR (Instr.fieldAt 56 (.pointer (some ⟨b, o, none⟩)) 0) K = K (.pointer (some ⟨b, o, none⟩)) := B5 (i := 0) A2Z rfl ⟨_, _, _, _, H0⟩ b o
@[simp] theorem C4a (b o : Nat) (K : Value → WP) : A0 PR (Instr.fieldAt 56 (.pointer (some ⟨b, o, none⟩)) 1) K = K (.pointer (some ⟨b, o + 1, none⟩)) := B5 (i := 1) A2Z rfl ⟨_, _, _, _, ty9⟩ b o
@[simp] theorem C5Y (b o : Nat) (K : Value → WP) : A0 PR (Instr.fieldAt 56 (.pointer (some ⟨b, o, none⟩)) 2) K = K (.pointer (some ⟨b, o + 2, none⟩)) := B5 (i := 2) A2Z rfl ⟨_, _, _, _, ty9⟩ b o
@[simp] theorem C5k (b o : Nat) (K : Value → WP) : A0 PR (Instr.fieldAt 56 (.pointer (some ⟨b, o, none⟩)) 3) K = K (.pointer (some ⟨b, o + 3, none⟩)) := B5 (i := 3) A2Z rfl ⟨_, _, _, _, H0⟩ b o
@[simp] theorem C4n (b o : Nat) (K : Value → WP) : A0 PR (Instr.fieldAt 56 (.pointer (some ⟨b, o, none⟩)) 4) K = K (.pointer (some ⟨b, o + 4, none⟩)) := B5 (i := 4) A2Z rfl ⟨_, _, _, _, H0⟩ b o
@[simp] theorem C4W (b o : Nat) (K : Value → WP) : A0 PR (Instr.fieldAt 56 (.pointer (some ⟨b, o, none⟩)) 5) K = K (.pointer (some ⟨b, o + 5, none⟩)) := B5 (i := 5) A2Z rfl ⟨_, _, _, _, H0⟩ b o
@[simp] theorem C4d (b o : Nat) (K : Value → WP) : A0 PR (Instr.fieldAt 58 (.pointer (some ⟨b, o, none⟩)) 0) K = K (.pointer (some ⟨b, o, none⟩)) := B5 (i := 0) A9q rfl ⟨_, _, _, _, A2Z⟩ b o
@[simp] theorem C5w (b o : Nat) (K : Value → WP) : A0 PR (Instr.fieldAt 58 (.pointer (some ⟨b, o, none⟩)) 1) K = K (.pointer (some ⟨b, o + 6, none⟩)) := B5 (i := 1) A9q rfl ⟨_, _, _, _, H0⟩ b o
@[simp] theorem C4b (b o : Nat) (K : Value → WP) : A0 PR (Instr.fieldAt 75 (.pointer (some ⟨b, o, none⟩)) 0) K = K (.pointer (some ⟨b, o, none⟩)) := B5 (i := 0) A8V rfl ⟨_, _, _, _, H0⟩ b o
@[simp] theorem C49 (b o : Nat) (K : Value → WP) : A0 PR (Instr.fieldAt 75 (.pointer (some ⟨b, o, none⟩)) 1) K = K (.pointer (some ⟨b, o + 1, none⟩)) := B5 (i := 1) A8V rfl ⟨_, _, _, _, H0⟩ b o
theorem C2l : TI PR 85 Tryz.t84.desc 1 8 (.agg #[(.pointer none)]) := ⟨Tryz.underlying85, Tryz.t85, by kernel_rfl, rfl, rfl, rfl⟩
theorem C6N : TI PR 83 Tryz.t83.desc 1 8 (.pointer none) := ⟨Tryz.underlying83, Tryz.t83, by kernel_rfl, rfl, rfl, rfl⟩
@[simp] theorem C5c (b o : Nat) (K : Value → WP) : A0 PR (Instr.fieldAt 85 (.pointer (some ⟨b, o, none⟩)) 2) K = K (.pointer (some ⟨b, o, none⟩)) := B5 (i := 2) C2l rfl ⟨_, _, _, _, C6N⟩ b o
@[simp] theorem C5P (b o : Nat) (K : Value → WP) : A0 PR (Instr.fieldAt 88 (.pointer (some ⟨b, o, none⟩)) 0) K = K (.pointer (some ⟨b, o, none⟩)) := B5 (i := 0) B6S rfl ⟨_, _, _, _, A2w⟩ b o
@[simp] theorem C4Y (b o : Nat) (K : Value → WP) : A0 PR (Instr.fieldAt 88 (.pointer (some ⟨b, o, none⟩)) 1) K = K (.pointer (some ⟨b, o + 5, none⟩)) := B5 (i := 1) B6S rfl ⟨_, _, _, _, C2l⟩ b o
@[simp] theorem C45 (b o : Nat) (K : Value → WP) : A0 PR (Instr.fieldAt 88 (.pointer (some ⟨b, o, none⟩)) 2) K = K (.pointer (some ⟨b, o + 6, none⟩)) := B5 (i := 2) B6S rfl ⟨_, _, _, _, B3g⟩ b o
@[simp] theorem C4m (b o : Nat) (K : Value → WP) : A0 PR (Instr.fieldAt 92 (.pointer (some ⟨b, o, none⟩)) 0) K = K (.pointer (some ⟨b, o, none⟩)) := B5 (i := 0) B56 rfl ⟨_, _, _, _, A8N⟩ b o
@[simp] theorem C5W (b o : Nat) (K : Value → WP) : A0 PR (Instr.fieldAt 92 (.pointer (some ⟨b, o, none⟩)) 1) K = K (.pointer (some ⟨b, o + 1, none⟩)) := B5 (i := 1) B56 rfl ⟨_, _, _, _, B9N⟩ b o
theorem C2j : TI PR 21 Tryz.t21.desc 1 4 (.int .i32 0) := ⟨Tryz.underlying21, Tryz.t21, by kernel_rfl, rfl, rfl, rfl⟩
@[simp] theorem C43 (b o : Nat) (K : Value → WP) : A0 PR (Instr.fieldAt 99 (.pointer (some ⟨b, o, none⟩)) 0) K = K (.pointer (some ⟨b, o, none⟩)) := B5 (i := 0) C1j rfl ⟨_, _, _, _, C2j⟩ b o
theorem Y7 {k1 : IntKind} {i : Int} {s : ByteArray} {b : UInt8} (h0 : 0 ≤ i) (h1 : s[i.toNat]? = some b) (K : Value → WP) : A0 PR (Instr.index 9 (.string s) (.int k1 i)) K = K (.int .u8 b.toNat) := B84 ty9 h0 h1
@[simp] theorem C6n {k : IntKind} {i : Int} {len cap : Nat} (h0 : 0 ≤ i) (h1 : i < len) (b o : Nat) (K : Value → WP) : A0 PR (Instr.indexAt 127 (.slice (some ⟨b, o, none⟩) len cap) (.int k i)) K = K (.pointer (some ⟨b, o + i.toNat, none⟩)) := (by simpa using N6 (K := K) A2C ty5 h0 h1 b o)
@[simp] theorem C6p {k : IntKind} {i : Int} (h0 : 0 ≤ i) (h1 : i < (2 : Nat)) (b o : Nat) (K : Value → WP) : A0 PR (Instr.indexAt 153 (.pointer (some ⟨b, o, none⟩)) (.int k i)) K = K (.pointer (some ⟨b, o + i.toNat, none⟩)) := (by simpa using B6A (K := K) A9M H0 h0 h1 b o)
@[simp] theorem C6L {k : IntKind} {i : Int} {len cap : Nat} (h0 : 0 ≤ i) (h1 : i < len) (b o : Nat) (K : Value → WP) : A0 PR (Instr.indexAt 176 (.slice (some ⟨b, o, none⟩) len cap) (.int k i)) K = K (.pointer (some ⟨b, o + i.toNat * 4, none⟩)) := (N6 (K := K) B5B A1D h0 h1 b o)
@[simp] theorem C6H {k : IntKind} {i : Int} {len cap : Nat} (h0 : 0 ≤ i) (h1 : i < len) (b o : Nat) (K : Value → WP) : A0 PR (Instr.indexAt 208 (.slice (some ⟨b, o, none⟩) len cap) (.int k i)) K = K (.pointer (some ⟨b, o + i.toNat * 2, none⟩)) := (N6 (K := K) B14 A4y h0 h1 b o)
@[simp] theorem C6y {k : IntKind} {i : Int} {len cap : Nat} (h0 : 0 ≤ i) (h1 : i < len) (b o : Nat) (K : Value → WP) : A0 PR (Instr.indexAt 229 (.slice (some ⟨b, o, none⟩) len cap) (.int k i)) K = K (.pointer (some ⟨b, o + i.toNat * 2, none⟩)) := (N6 (K := K) B5M A9M h0 h1 b o)
theorem C2A : TI PR 24 Tryz.t24.desc 1 24 (.slice none 0 0) := ⟨Tryz.underlying24, Tryz.t24, by kernel_rfl, rfl, rfl, rfl⟩
@[simp] theorem C7G {k : IntKind} {i : Int} {len cap : Nat} (h0 : 0 ≤ i) (h1 : i < len) (b o : Nat) (K : Value → WP) : A0 PR (Instr.indexAt 24 (.slice (some ⟨b, o, none⟩) len cap) (.int k i)) K = K (.pointer (some ⟨b, o + i.toNat * 5, none⟩)) := (N6 (K := K) C2A B5v h0 h1 b o)
theorem B6c : TI PR 307 Tryz.t90.desc 1 24 (.slice none 0 0) := ⟨Tryz.underlying307, Tryz.t307, by kernel_rfl, rfl, rfl, rfl⟩
@[simp] theorem C6Z {k : IntKind} {i : Int} {len cap : Nat} (h0 : 0 ≤ i) (h1 : i < len) (b o : Nat) (K : Value → WP) : A0 PR (Instr.indexAt 307 (.slice (some ⟨b, o, none⟩) len cap) (.int k i)) K = K (.pointer (some ⟨b, o + i.toNat * 2, none⟩)) := (N6 (K := K) B6c B1z h0 h1 b o)
@[simp] theorem C7C {k : IntKind} {i : Int} {len cap : Nat} (h0 : 0 ≤ i) (h1 : i < len) (b o : Nat) (K : Value → WP) : A0 PR (Instr.indexAt 32 (.slice (some ⟨b, o, none⟩) len cap) (.int k i)) K = K (.pointer (some ⟨b, o + i.toNat * 2, none⟩)) := (N6 (K := K) A8N A8V h0 h1 b o)
@[simp] theorem C6P {k : IntKind} {i : Int} {len cap : Nat} (h0 : 0 ≤ i) (h1 : i < len) (b o : Nat) (K : Value → WP) : A0 PR (Instr.indexAt 320 (.slice (some ⟨b, o, none⟩) len cap) (.int k i)) K = K (.pointer (some ⟨b, o + i.toNat * 2, none⟩)) := (N6 (K := K) B53 A7D h0 h1 b o)
@[simp] theorem C67 {k : IntKind} {i : Int} {len cap : Nat} (h0 : 0 ≤ i) (h1 : i < len) (b o : Nat) (K : Value → WP) : A0 PR (Instr.indexAt 34 (.slice (some ⟨b, o, none⟩) len cap) (.int k i)) K = K (.pointer (some ⟨b, o + i.toNat, none⟩)) := (by simpa using N6 (K := K) B6T H0 h0 h1 b o)
@[simp] theorem C64 {k : IntKind} {i : Int} {len cap : Nat} (h0 : 0 ≤ i) (h1 : i < len) (b o : Nat) (K : Value → WP) : A0 PR (Instr.indexAt 48 (.slice (some ⟨b, o, none⟩) len cap) (.int k i)) K = K (.pointer (some ⟨b, o + i.toNat, none⟩)) := (by simpa using N6 (K := K) B5J ty9 h0 h1 b o)
@[simp] theorem C66 {k : IntKind} {i : Int} {len cap : Nat} (h0 : 0 ≤ i) (h1 : i < len) (b o : Nat) (K : Value → WP) : A0 PR (Instr.indexAt 76 (.slice (some ⟨b, o, none⟩) len cap) (.int k i)) K = K (.pointer (some ⟨b, o + i.toNat * 4, none⟩)) := (N6 (K := K) B88 A3y h0 h1 b o)
@[simp] theorem C68 {k : IntKind} {i : Int} {len cap : Nat} (h0 : 0 ≤ i) (h1 : i < len) (b o : Nat) (K : Value → WP) : A0 PR (Instr.indexAt 86 (.slice (some ⟨b, o, none⟩) len cap) (.int k i)) K = K (.pointer (some ⟨b, o + i.toNat, none⟩)) := (by simpa using N6 (K := K) B3g B9b h0 h1 b o)
@[simp] theorem C7J {k : IntKind} {i : Int} {len cap : Nat} (h0 : 0 ≤ i) (h1 : i < len) (b o : Nat) (K : Value → WP) : A0 PR (Instr.indexAt 94 (.slice (some ⟨b, o, none⟩) len cap) (.int k i)) K = K (.pointer (some ⟨b, o + i.toNat * 4, none⟩)) := (N6 (K := K) A9p A1D h0 h1 b o)
@[simp] theorem C5E (a : Option Addr) (n c : Nat) (K : Value → WP) : A0 PR (A8 .len #[127] 0 [.slice a n c]) K = K (.int .i64 n) := p9 A2C a n c
@[simp] theorem C47 (a : Option Addr) (n c : Nat) (K : Value → WP) : A0 PR (A8 .len #[176] 0 [.slice a n c]) K = K (.int .i64 n) := p9 B5B a n c
@[simp] theorem C4q (a : Option Addr) (n c : Nat) (K : Value → WP) : A0 PR (A8 .len #[208] 0 [.slice a n c]) K = K (.int .i64 n) := p9 B14 a n c
@[simp] theorem C5a (a : Option Addr) (n c : Nat) (K : Value → WP) : A0 PR (A8 .len #[229] 0 [.slice a n c]) K = K (.int .i64 n) := p9 B5M a n c
@[simp] theorem C6e (a : Option Addr) (n c : Nat) (K : Value → WP) : A0 PR (A8 .len #[24] 0 [.slice a n c]) K = K (.int .i64 n) := p9 C2A a n c
@[simp] theorem C4z (a : Option Addr) (n c : Nat) (K : Value → WP) : A0 PR (A8 .len #[307] 0 [.slice a n c]) K = K (.int .i64 n) := p9 B6c a n c
@[simp] theorem C5z (a : Option Addr) (n c : Nat) (K : Value → WP) : A0 PR (A8 .len #[32] 0 [.slice a n c]) K = K (.int .i64 n) := p9 A8N a n c
@[simp] theorem C48 (a : Option Addr) (n c : Nat) (K : Value → WP) : A0 PR (A8 .len #[320] 0 [.slice a n c]) K = K (.int .i64 n) := p9 B53 a n c
@[simp] theorem C6Y (a : Option Addr) (n c : Nat) (K : Value → WP) : A0 PR (A8 .len #[34] 0 [.slice a n c]) K = K (.int .i64 n) := p9 B6T a n c
@[simp] theorem C6V (a : Option Addr) (n c : Nat) (K : Value → WP) : A0 PR (A8 .len #[48] 0 [.slice a n c]) K = K (.int .i64 n) := p9 B5J a n c
@[simp] theorem C59 (a : Option Addr) (n c : Nat) (K : Value → WP) : A0 PR (A8 .len #[76] 0 [.slice a n c]) K = K (.int .i64 n) := p9 B88 a n c
@[simp] theorem C6a (a : Option Addr) (n c : Nat) (K : Value → WP) : A0 PR (A8 .len #[86] 0 [.slice a n c]) K = K (.int .i64 n) := p9 B3g a n c
@[simp] theorem C63 (s : ByteArray) (K : Value → WP) : A0 PR (A8 .len #[9] 0 [.string s]) K = K (.int .i64 s.size) := C11 ty9 s
@[simp] theorem C6d (a : Option Addr) (n c : Nat) (K : Value → WP) : A0 PR (A8 .len #[94] 0 [.slice a n c]) K = K (.int .i64 n) := p9 A9p a n c
@[simp] theorem C6g (a : Addr) (K : Value → WP) (w : World) : A6 PR (Instr.loadAt 129 (.pointer (some a))) K w = rdc (w.cell? a) K (far PR 129 a K) w := B3D A3K rfl a
@[simp] theorem C7Q (a : Addr) (K : Value → WP) (w : World) : A6 PR (Instr.loadAt 3 (.pointer (some a))) K w = rdc (w.cell? a) K (far PR 3 a K) w := B3D H0 rfl a
@[simp] theorem C6K (v : Value) (K : Value → WP) : A0 PR (Instr.makeInterface 246 v) K = K (.iface 246 v) := B0q B93 (by intro ms h; cases h) v
@[simp] theorem C6G (v : Value) (K : Value → WP) : A0 PR (Instr.makeInterface 247 v) K = K (.iface 247 v) := B0q B99 (by intro ms h; cases h) v
@[simp] theorem C36 (b o : Nat) (K : Value → WP) : A0 PR (Instr.sliceAt 126 (.pointer (some ⟨b, o, none⟩)) none none none) K = K (.slice (some ⟨b, o, none⟩) 38 38) := B75 B6b ty5 b o
@[simp] theorem C65 {k1 : IntKind} {hi : Int} {s : ByteArray} (h0 : 0 ≤ hi) (h1 : hi ≤ s.size) (K : Value → WP) : A0 PR (Instr.sliceAt 9 (.string s) none (some (.int k1 hi)) none) K = K (.string (s.extract 0 hi.toNat)) := B60 ty9 h0 h1
@[simp] theorem C60 {k1 : IntKind} {lo : Int} {s : ByteArray} (h0 : 0 ≤ lo) (h1 : lo ≤ s.size) (K : Value → WP) : A0 PR (Instr.sliceAt 9 (.string s) (some (.int k1 lo)) none none) K = K (.string (s.extract lo.toNat s.size)) := B7n ty9 h0 h1
@[simp] theorem C7W {k1 k2 : IntKind} {lo hi : Int} {s : ByteArray} (h0 : 0 ≤ lo) (h1 : lo ≤ hi) (h2 : hi ≤ s.size) (K : Value → WP) : A0 PR (Instr.sliceAt 9 (.string s) (some (.int k1 lo)) (some (.int k2 hi)) none) K = K (.string (s.extract lo.toNat hi.toNat)) := B8c ty9 h0 h1 h2
theorem B94 : TI PR 151 Tryz.t151.desc 1 8 (.map none) := ⟨Tryz.underlying151, Tryz.t151, by kernel_rfl, rfl, rfl, rfl⟩
theorem B15 : TI PR 180 Tryz.t179.desc 1 16 .nilIface := ⟨Tryz.underlying180, Tryz.t180, by kernel_rfl, rfl, rfl, rfl⟩
theorem B1v : TI PR 181 Tryz.t181.desc 1 8 (.map none) := ⟨Tryz.underlying181, Tryz.t181, by kernel_rfl, rfl, rfl, rfl⟩
end Go.Proofs.YtpbmephflllolaaGreat
namespace Go.Proofs.YtpbmephflllolaaGreat
open Go
@[simp] theorem B66 (a b : ByteArray) : (a == b) = decide (a = b) := by
 obtain ⟨x⟩ := a; obtain ⟨y⟩ := b
 have h : ((⟨x⟩ : ByteArray) == ⟨y⟩) = (x == y) := rfl
 rw [h]
 by_cases e : x = y
 ·subst e; simp
 ·simp [e]
@[simp] theorem C3K (a : Array UInt8) : (ByteArray.mk a).size = a.size := rfl
theorem B2j (ns : List Int) : (A2M ns).data.toList = ns.map fun n => UInt8.ofNat n.toNat := by
 have : ∀ (l : List Int) (r : ByteArray), (l.foldl (fun r n => r.push (UInt8.ofNat n.toNat)) r).data.toList = r.data.toList ++ l.map fun n => UInt8.ofNat n.toNat := by
  intro l
  induction l with
  | nil => intro r; simp
  | cons x l ih => intro r; rw [List.foldl_cons, ih]; simp [ByteArray.push]
 have h := this ns ByteArray.empty
 rw [show ByteArray.empty.data.toList = [] from rfl, List.nil_append] at h
 exact h
@[simp] theorem C2M (ns : List Int) : (A2M ns).size = ns.length := by
 have := congrArg List.length (B2j ns)
 rw [List.length_map] at this
 exact this
class TS (t : TypeId) (z : outParam Value) : Prop where
 ti : ∃ d m, TI PR t d 1 m z ∧ M9 d = false
class TG (t : TypeId) (n : outParam Nat) (z : outParam Value) : Prop where
 ti : ∃ d m, TI PR t d n m z ∧ M9 d = true
class TA (t : TypeId) (n : outParam Nat) (z : outParam Value) : Prop where
 ti : ∃ d m, TI PR t d n m z
class SL (t : TypeId) (e : outParam TypeId) (k by' : outParam Nat) (z : outParam Value) : Prop where
 ti : (∃ n m z', TI PR t (.slice e) n m z') ∧ (∃ d, TI PR e d k by' z) ∧ z.cells.size = k
instance TS.ta {t : TypeId} {z : Value} [h : TS t z] : TA t 1 z := ⟨let ⟨d, m, h, _⟩ := h.ti; ⟨d, m, h⟩⟩
instance TG.ta {t : TypeId} {n : Nat} {z : Value} [h : TG t n z] : TA t n z := ⟨let ⟨d, m, h, _⟩ := h.ti; ⟨d, m, h⟩⟩
def rdq (x : Option (List Value)) (G : List Value → WP) (F : WP) : WP := match x with | some l => G l | none => F
@[simp] theorem B3d (l : List Value) (G : List Value → WP) (F : WP) : rdq (some l) G F = G l := id rfl
@[congr] theorem C5F {x x' : Option (List Value)} {G : List Value → WP} {F : WP} (h : x = x') {q : Nat} (hq : V4 = q) : rdq x G F = rdq x' G F := by rw [h]
@[simp] theorem C6B (xs : List Value) : V3 xs 0 0 = some [] := by simp [V3]
@[simp] theorem C3T (x : Value) (xs : List Value) (n : Nat) : V3 (x :: xs) 0 (n + 1) = (V3 xs 0 n).map (x :: ·) := by
 simp only [V3, Nat.zero_add, List.length_cons, List.drop_zero, List.take_succ_cons]
 by_cases h : n ≤ xs.length
 ·rw [if_pos h, if_pos (by omega)]; rfl
 ·rw [if_neg h, if_neg (by omega)]; rfl
theorem A3H {α : Type} {l : List α} {f : α → List Value} {k i : Nat} {x : α} (hk : ∀ x, (f x).length = k) (hx : l[i]? = some x) : V3 (l.flatMap f) (i * k) k = some (f x) := by
 obtain ⟨hlt, hx'⟩ := List.getElem?_eq_some_iff.1 hx
 have h1 : (i + 1) * k ≤ l.length * k := Nat.mul_le_mul_right k hlt
 rw [Nat.add_mul] at h1
 rw [V3, if_pos (by rw [H9 hk]; omega), A6G hk, List.drop_eq_getElem_cons hlt, List.flatMap_cons, hx']
 rw [List.take_left' (hk x)]
inductive Sel (r : Res) : List Res → List Res → Prop where
 | here {H : List Res} : Sel r (r :: H) H
 | there {x : Res} {H H' : List Res} : Sel r H H' → Sel r (x :: H) (x :: H')
theorem Sel.perm {r : Res} {H Hr : List Res} (h : Sel r H Hr) : H.Perm (r :: Hr) := by
 induction h with
 | here => exact .refl _
 | there _ ih => exact (ih.cons _).trans (.swap ..)
theorem Sel.sub {r : Res} {H Hr : List Res} (h : Sel r H Hr) : Hr.Sublist H := by
 induction h with
 | here => exact List.sublist_cons_self ..
 | there _ ih => exact ih.cons_cons _
theorem A1 {r : Res} {H : List Res} : r ∈ r :: H := List.mem_cons_self ..
theorem uH {r r' : Res} {H : List Res} : Up r r' (r :: H) (r' :: H) := Up.here
theorem uT {r r' x : Res} {H H' : List Res} (h : Up r r' H H') : Up r r' (x :: H) (x :: H') := Up.there h
theorem A2 {r x : Res} {H : List Res} (h : r ∈ H) : r ∈ x :: H := List.mem_cons_of_mem _ h
inductive Sels : List Res → List Res → Prop where
 | nil {H : List Res} : Sels [] H
 | cons {r : Res} {rs H Hr : List Res} : Sel r H Hr → Sels rs Hr → Sels (r :: rs) H
theorem Sels.sub {rs H : List Res} (h : Sels rs H) : ∃ H', H.Perm H' ∧ rs.Sublist H' := by
 induction h with
 | nil => exact ⟨_, .refl _, List.nil_sublist _⟩
 | cons h1 _ ih => obtain ⟨H', h2, h3⟩ := ih; exact ⟨_ :: H', h1.perm.trans (h2.cons _), h3.cons_cons _⟩
theorem Sels.lw {κ : Bool} {S : List Nat} {w0 w : World} {rs H : List Res} (h : Sels rs H) (hw : LW κ S w0 H w) : LW κ S w0 rs w := let ⟨_, h1, h2⟩ := h.sub; (hw.perm h1).sub h2
theorem Sels.tw {κ : Bool} {S : List Nat} {w0 : World} {rs H : List Res} {K : WP} (h : Sels rs H) (hk : TW κ S w0 rs K) : TW κ S w0 H K := fun w hw => hk w (h.lw hw)
inductive Part : List Res → List Res → List Res → Prop where
 | nil {H : List Res} : Part [] H H
 | cons {r : Res} {rs H H1 Hk : List Res} : Sel r H H1 → Part rs H1 Hk → Part (r :: rs) H Hk
theorem Part.perm {Hc H Hk : List Res} (h : Part Hc H Hk) : H.Perm (Hc ++ Hk) := by
 induction h with
 | nil => exact .refl _
 | cons h1 _ ih => exact h1.perm.trans (ih.cons _)
theorem D4 {κ : Bool} {X : Nat → Prop} {S : List Nat} {w0 : World} {H Hk Hc : List Res} {K : Value → WP} {f : FuncId} {args : List Value} {α : Type} {φ : α → Value → Prop} {Hn : α → List Res} (he : A9 PR f)
  (hf : ∀ w, LW κ S w0 (Hc ++ Hk) w → LW false (B3 Hc) w Hc w → Fn PR B4 f args.toArray w (Rn (B3 Hc) w φ Hn)) (hp : Part Hc H Hk) (hK : ∀ a v, φ a v → TW κ S w0 (Hn a ++ Hk) (K v)) : TW κ S w0 H (B2 PR X f args K) :=
 A83 he hp.perm (fun w hw => let h := hw.perm hp.perm; hf w h (h.sub (List.sublist_append_left _ _)).self) hK
theorem C4 {κ : Bool} {S : List Nat} {w0 : World} {H : List Res} {α : Type} {φ : α → Value → Prop} {Hn : α → List Res} {v : Value} (a : α) (h : φ a v) (hs : Sels (Hn a) H) : TW κ S w0 H (Rn S w0 φ Hn v) := fun w hw => ⟨a, h, hs.lw hw.low⟩
theorem C3L {κ : Bool} {S : List Nat} {w0 : World} {H : List Res} {F : Value → Value → WP} {A : (Value → Value → WP) → WP} {α : Type} (φ : α → Prop) (Hh : α → List Res) (v1 v2 : α → Value) (hF : ∀ x, φ x → TW κ S w0 (Hh x) (F (v1 x) (v2 x)))
  (hA : ∀ J : Value → Value → WP, (∀ x, φ x → TW κ S w0 (Hh x) (J (v1 x) (v2 x))) → TW κ S w0 H (A J)) : TW κ S w0 H (kt (n := 2) F A) := hA F hF
theorem F3.form {w : World} {v : Value} {n : Nat} {xs : List Value} (h : F3 w v n xs) : ∃ a c, v = .slice a n c ∧ (0 < n → ∃ b o, a = some ⟨b, o, none⟩ ∧ H4 w b o xs) := by
 rcases h with ⟨rfl, rfl, a, c, rfl⟩ | ⟨b, o, c, rfl, hr⟩
 ·exact ⟨a, c, rfl, fun h => absurd h (by omega)⟩
 ·exact ⟨_, c, rfl, fun _ => ⟨b, o, rfl, hr⟩⟩
theorem H4.at {w : World} {b o k : Nat} {α : Type} {l : List α} {f : α → List Value} (h : H4 w b o (l.flatMap f)) (hk : ∀ x, (f x).length = k) {i : Nat} {x : α} (hx : l[i]? = some x) : b8 w b (o + i * k) k = some (f x) := by
 have h1 : H4 w b (o + i * k) (f x) := fun j hj => by
  rw [hk] at hj
  have h2 := A2u hk l i j hj
  rw [hx] at h2
  have h3 : (l.flatMap f)[i * k + j]? = some ((f x)[j]'(by rw [hk]; exact hj)) := by rw [h2]; simp [List.getElem?_eq_getElem, hk, hj]
  rw [Nat.add_assoc, h.get h3]; simp [List.getElem?_eq_getElem, hk, hj]
 have := A2T h1
 rwa [hk] at this
theorem H4.cellAt {w : World} {b o k : Nat} {α : Type} {l : List α} {f : α → List Value} (h : H4 w b o (l.flatMap f)) (hk : ∀ x, (f x).length = k) {i j : Nat} {x : α} {u : Value} (hx : l[i]? = some x) (hu : (f x)[j]? = some u) : w.cell? ⟨b, o + i * k + j, none⟩ = some u := by
 have hj : j < k := by rw [← hk x]; exact (List.getElem?_eq_some_iff.1 hu).1
 have h2 := A2u hk l i j hj
 rw [hx] at h2
 rw [Nat.add_assoc]
 exact h.get (by rw [h2]; exact hu)
theorem H4.one {w : World} {b o : Nat} {α : Type} {l : List α} {f : α → Value} (h : H4 w b o (l.map f)) {i : Nat} {x : α} (hx : l[i]? = some x) : w.cell? ⟨b, o + i, none⟩ = some (f x) := h.get (by simp [hx])
section
variable {κ : Bool} {X : Nat → Prop} {S : List Nat} {w0 : World} {H H' Hr : List Res} {K : Value → WP} {K0 : WP} {t e : TypeId} {n k by' : Nat} {z : Value}
theorem C3Y {s : Sem Value} {v : Value} (h : ∀ w, LW κ S w0 H w → A6 PR s K w = K v w) : TW κ S w0 H (A6 PR s K) = TW κ S w0 H (K v) := TW.congr h
theorem B7m {s : Sem Value} {v : Value} (hK : TW κ S w0 H (K v)) (h : ∀ w, LW κ S w0 H w → A6 PR s K w = K v w) : TW κ S w0 H (A6 PR s K) := fun w hw => by rw [h w hw]; exact hK w hw
theorem A0Q {v : Value} {q : Nat} {xs : List Value} (hm : Res.own e k v q xs ∈ H) (hq : 0 < q) (h : ∀ g c, v = .slice (some ⟨g, 0, none⟩) q c → TW κ S w0 H K0) : TW κ S w0 H K0 := fun w hw => by
 rcases (hw.hold _ hm).2 with ⟨_, rfl⟩ | ⟨g, c, _, rfl, _⟩
 ·omega
 ·exact h g c rfl w hw
@[simp] theorem C7E [h : TS t z] {b o : Nat} {c : Array Value} {T : TypeId} {f : Nat × Nat} (hm : Res.pt b (.cells c T f) ∈ H) :
  TW κ S w0 H (A6 PR (Instr.loadAt t (.pointer (some ⟨b, o, none⟩))) K) = TW κ S w0 H (rdc c[o]? K (far PR t ⟨b, o, none⟩ K)) := let ⟨_, _, h, hd⟩ := h.ti; C1N h hd hm
@[simp] theorem C57 [h : TS t z] {g o : Nat} {k q c : Nat} {xs : List Value} (hm : Res.own e k (.slice (some ⟨g, 0, none⟩) q c) q xs ∈ H) :
  TW κ S w0 H (A6 PR (Instr.loadAt t (.pointer (some ⟨g, o, none⟩))) K) = TW κ S w0 H (rdc xs[o]? K (A6 PR (Instr.loadAt t (.pointer (some ⟨g, o, none⟩))) K)) := by
 cases hv : xs[o]? with
 | none => rfl
 | some v => exact let ⟨_, _, h, hd⟩ := h.ti; B8U h hd hm hv
@[simp] theorem C6M [h : TS t z] {b o : Nat} {v : Value} (hc : w0.cell? ⟨b, o, none⟩ = some v) (hS : b ∉ S) :
  TW κ S w0 H (A6 PR (Instr.loadAt t (.pointer (some ⟨b, o, none⟩))) K) = TW κ S w0 H (K v) := let ⟨_, _, h, hd⟩ := h.ti; B8j h hd hc hS
@[simp] theorem C55 [h : TG t n z] {b o : Nat} {c : Array Value} {T : TypeId} {f : Nat × Nat} (hm : Res.pt b (.cells c T f) ∈ H) :
  TW κ S w0 H (A6 PR (Instr.loadAt t (.pointer (some ⟨b, o, none⟩))) K) = TW κ S w0 H (rdq (V3 c.toList o n) (fun l => K (.agg l.toArray)) (A6 PR (Instr.loadAt t (.pointer (some ⟨b, o, none⟩))) K)) := by
 cases hl : V3 c.toList o n with
 | none => rfl
 | some l => exact let ⟨_, _, h, hd⟩ := h.ti; B9J h hd hm hl
@[simp] theorem C4y [h : TG t n z] {g o : Nat} {k q c : Nat} {xs : List Value} (hm : Res.own e k (.slice (some ⟨g, 0, none⟩) q c) q xs ∈ H) :
  TW κ S w0 H (A6 PR (Instr.loadAt t (.pointer (some ⟨g, o, none⟩))) K) = TW κ S w0 H (rdq (V3 xs o n) (fun l => K (.agg l.toArray)) (A6 PR (Instr.loadAt t (.pointer (some ⟨g, o, none⟩))) K)) := by
 cases hl : V3 xs o n with
 | none => rfl
 | some l => exact let ⟨_, _, h, hd⟩ := h.ti; B7H h hd hm hl
@[simp] theorem C5M [h : TG t n z] {b o : Nat} {l : List Value} (hc : b8 w0 b o n = some l) (hS : b ∉ S) :
  TW κ S w0 H (A6 PR (Instr.loadAt t (.pointer (some ⟨b, o, none⟩))) K) = TW κ S w0 H (K (.agg l.toArray)) := let ⟨_, _, h, hd⟩ := h.ti; B8H h hd hc hS
@[simp] theorem C2F [h : TS t z] {b o : Nat} {c : Array Value} {T : TypeId} {f : Nat × Nat} (hm : Res.pt b (.cells c T f) ∈ H) {v : Value} (hv : c[o]? = some v) :
  TW κ S w0 H (A6 PR (E5 [.c t (.pointer (some ⟨b, o, none⟩))]) K) = TW κ S w0 H (K v) := let ⟨_, _, h, hd⟩ := h.ti; C2Y h hd hm hv
@[simp] theorem C7V [h : TG t n z] {b o : Nat} {c : Array Value} {T : TypeId} {f : Nat × Nat} (hm : Res.pt b (.cells c T f) ∈ H) :
  TW κ S w0 H (A6 PR (E5 [.c t (.pointer (some ⟨b, o, none⟩))]) K) = TW κ S w0 H (rdq (V3 c.toList o n) (fun l => K (.agg l.toArray)) (A6 PR (E5 [.c t (.pointer (some ⟨b, o, none⟩))]) K)) := by
 cases hl : V3 c.toList o n with
 | none => rfl
 | some l => exact let ⟨_, _, h, hd⟩ := h.ti; C2L h hd hm hl
@[simp] theorem C69 [h : TG t n z] {b o : Nat} {c : Array Value} {T : TypeId} {f : Nat × Nat} {x : Value} (hm : Res.pt b (.cells c T f) ∈ H) :
  TW κ S w0 H (A6 PR (E5 [.c t (.pointer (some ⟨b, o, none⟩)), .v x]) K) = TW κ S w0 H (rdq (V3 c.toList o n) (fun l => K (.tuple #[.agg l.toArray, x])) (A6 PR (E5 [.c t (.pointer (some ⟨b, o, none⟩)), .v x]) K)) := by
 cases hl : V3 c.toList o n with
 | none => rfl
 | some l =>
   obtain ⟨_, _, h, hd⟩ := h.ti
   refine TW.congr fun w hw => ?_
   rw [B3d]
   have hr := A2P hl (H4.bl (hw.pt hm)); have h2 := w8 hr
   refine Q3 ?_ K
   have := A1Z h hd h2.1 h2.2
   simp only [Instr.loadAt, Instr.sureAddr, Sem.run_bind, Sem.run_pure, Result.andThen_ok] at this
   simp [E5, A2s, RV.sem, asAddr, this, one]
@[simp] theorem C7H [h : TG t n z] {b o : Nat} {c : Array Value} {T : TypeId} {f : Nat × Nat} {x y : Value} (hm : Res.pt b (.cells c T f) ∈ H) :
  TW κ S w0 H (A6 PR (E5 [.c t (.pointer (some ⟨b, o, none⟩)), .v x, .v y]) K) = TW κ S w0 H (rdq (V3 c.toList o n) (fun l => K (.tuple #[.agg l.toArray, x, y])) (A6 PR (E5 [.c t (.pointer (some ⟨b, o, none⟩)), .v x, .v y]) K)) := by
 cases hl : V3 c.toList o n with
 | none => rfl
 | some l =>
   obtain ⟨_, _, h, hd⟩ := h.ti
   refine TW.congr fun w hw => ?_
   rw [B3d]
   have hr := A2P hl (H4.bl (hw.pt hm)); have h2 := w8 hr
   refine Q3 ?_ K
   have := A1Z h hd h2.1 h2.2
   simp only [Instr.loadAt, Instr.sureAddr, Sem.run_bind, Sem.run_pure, Result.andThen_ok] at this
   simp [E5, A2s, RV.sem, asAddr, this, one]
@[simp] theorem C4B [h : TS t z] {b o : Nat} {c : Array Value} {T : TypeId} {f : Nat × Nat} {v : Value} {l : List Rd} (hm : Res.pt b (.cells c T f) ∈ H) (hv : c[o]? = some v) :
  TW κ S w0 H (watch PR ((none, Instr.loadAt t (.pointer (some ⟨b, o, none⟩)), v) :: l) K0) = TW κ S w0 H (watch PR l K0) := let ⟨_, _, h, hd⟩ := h.ti; A7E fun w hw => z6 h hd (by rw [G5 (hw.pt hm)]; exact hv)
@[simp] theorem C2s [h : TS t z] {b o : Nat} {v : Value} {l : List Rd} (hc : w0.cell? ⟨b, o, none⟩ = some v) (hS : b ∉ S) :
  TW κ S w0 H (watch PR ((none, Instr.loadAt t (.pointer (some ⟨b, o, none⟩)), v) :: l) K0) = TW κ S w0 H (watch PR l K0) := let ⟨_, _, h, hd⟩ := h.ti; A7E fun w hw => z6 h hd (hw.ks.cell hS hc)
@[simp] theorem C7x [h : TA t n z] {v : Value} {b o : Nat} {c : Array Value} {T : TypeId} (hv : v.cells.size = n)
  (hu : Up (.pt b (.cells c T (0, 0))) (.pt b (.cells (E6 c o v.cells.toList) T (0, 0))) H H') (hs : o + n ≤ c.size) (hp : v.cells.toList.all plain = true) :
  TW κ S w0 H (B9 PR X (Instr.storeAt t (.pointer (some ⟨b, o, none⟩)) v) K0) = TW κ S w0 H' K0 := let ⟨_, _, h⟩ := h.ti; C6x h hv hu hs hp
theorem A05 [h : TA t n z] {v : Value} {g o q c : Nat} {xs : List Value} (hu : Up (.own e k (.slice (some ⟨g, 0, none⟩) q c) q xs) (.own e k (.slice (some ⟨g, 0, none⟩) q c) q (A2k xs o v.cells.toList)) H H')
  (hv : v.cells.size = n) (hs : o + n ≤ xs.length) (hp : v.cells.toList.all plain = true) (hK : TW κ S w0 H' K0) :
  TW κ S w0 H (B9 PR X (Instr.storeAt t (.pointer (some ⟨g, o, none⟩)) v) K0) := let ⟨_, _, h⟩ := h.ti; B9p h hv hu hs hp hK
theorem A4 [h : TA t n z] (hK : ∀ b, TW κ S w0 (.pt b (.cells z.cells t) :: H) (K (.pointer (some ⟨b, 0, none⟩)))) : TW κ S w0 H (B1 PR X (Instr.alloc t true (.tuple #[])) K) := let ⟨_, _, h⟩ := h.ti; C5y h hK
theorem C18 {k1 k2 : IntKind} {l : Int} [h : SL t e k by' z] (h0 : 0 ≤ l) (hb : l * by' ≤ 140737488355328) (hc : l ≤ 9223372036854775807) (hk : 0 < k)
  (hK : ∀ b, TW κ S w0 (.own e k (.slice (some ⟨b, 0, none⟩) l.toNat l.toNat) l.toNat (Builtin.zeroCells z.cells l.toNat).toList :: H) (K (.slice (some ⟨b, 0, none⟩) l.toNat l.toNat))) :
  TW κ S w0 H (B1 PR X (Instr.makeSlice t (.int k1 l) (.int k2 l)) K) := let ⟨⟨_, _, _, h1⟩, ⟨_, h2⟩, h3⟩ := h.ti; C53 h1 h2 h3 hk h0 rfl hb hc hK
theorem D0 [h : SL t e k by' z] (hK : ∀ b, TW κ S w0 (.own e k (.slice (some ⟨b, 0, none⟩) 0 0) 0 [] :: H) (K (.slice (some ⟨b, 0, none⟩) 0 0))) : TW κ S w0 H (B1 PR X (Instr.buildSlice t 0 #[]) K) :=
 let ⟨⟨_, _, _, h1⟩, ⟨_, h2⟩, h3⟩ := h.ti; C3J h1 h2 hK
theorem B8d {m n q : Nat} (hq : 0 < n) : ∀ (vs : List Value) (i : Nat) (cs : Array Value), (∀ v ∈ vs, v.cells.size = n) → (i + vs.length) * n ≤ cs.size →
  Instr.fill (fun i => some (i * n, n)) cs ((List.range' i vs.length).zip vs) = some (E6 cs (i * n) (vs.flatMap fun v => v.cells.toList)) := by
 intro vs
 induction vs with
 | nil => intro i cs _ _; simp [Instr.fill]
 | cons v vs ih =>
  intro i cs hv hs
  simp only [List.length_cons] at hs
  have hv0 : v.cells.size = n := hv v (by simp)
  have e1 : (i + (vs.length + 1)) * n = i * n + n + vs.length * n := by rw [Nat.add_mul, Nat.add_mul]; omega
  simp only [List.length_cons, List.range'_succ, List.zip_cons_cons]
  rw [B7 rfl hv0 (by omega), ih (i + 1) _ (fun u hu => hv u (by simp [hu])) (by rw [C0]; (have : (i + 1 + vs.length) * n = i * n + n + vs.length * n := by (rw [Nat.add_mul, Nat.add_mul]; omega)); omega)]
  have spl_spl : ∀ (l l' : List Value) (c : Array Value) (o : Nat), E6 (E6 c o l) (o + l.length) l' = E6 c o (l ++ l') := by
   intro l
   induction l with
   | nil => intro l' c o; simp
   | cons u l ih => intro l' c o; simp only [B2N, List.cons_append, List.length_cons]; rw [← ih]; congr 1; omega
  rw [List.flatMap_cons, ← spl_spl]
  congr 2
  have : v.cells.toList.length = n := by simp [hv0]
  rw [this, Nat.add_mul]; omega
theorem B2A {len : Nat} {parts : Array (Nat × Value)} (vs : List Value) [h : SL t e k by' z] (hk : 0 < k) (h0 : 0 < len) (hb : len * k ≤ 2 ^ 24) (hp : parts.toList = (List.range' 0 len).zip vs) (hl : vs.length = len) (hv : ∀ v ∈ vs, v.cells.size = k)
  (hK : ∀ b, TW κ S w0 (.own e k (.slice (some ⟨b, 0, none⟩) len len) len (vs.flatMap fun v => v.cells.toList) :: H) (K (.slice (some ⟨b, 0, none⟩) len len))) :
  TW κ S w0 H (B1 PR X (Instr.buildSlice t len parts) K) := by
 obtain ⟨⟨_, _, _, h1⟩, ⟨_, h2⟩, h3⟩ := h.ti
 have hlen : (vs.flatMap fun v => v.cells.toList).length = len * k := by
  rw [← hl]; clear hp hl hK hb h0
  induction vs with
  | nil => simp
  | cons v vs ih =>
   have := hv v (by simp)
   rw [List.flatMap_cons, List.length_append, ih fun u hu => hv u (by simp [hu])]
   simp only [Array.length_toList, List.length_cons, this]; rw [Nat.add_mul]; omega
 have hf := B8d (m := 0) (q := 0) hk vs 0 ((Array.range (len * k)).map (z.cells[· % z.cells.size]!)) hv (by simp [hl])
 rw [hl, ← hp] at hf
 have hz : E6 ((Array.range (len * k)).map (z.cells[· % z.cells.size]!)) (0 * k) (vs.flatMap fun v => v.cells.toList) = (vs.flatMap fun v => v.cells.toList).toArray := by
  apply Array.toList_inj.1
  rw [A0K _ _ _ (by simp [-List.length_flatMap, hlen])]
  simp only [Nat.zero_mul, List.take_zero, List.nil_append, hlen, Nat.zero_add]
  rw [List.drop_eq_nil_of_le (by simp)]; simp
 refine C6c h1 h2 hb (by have : 0 < len * k := Nat.mul_pos h0 hk; omega) (hf.trans (by rw [hz])) (by simp [-List.length_flatMap, hlen]) ?_
 simpa using hK
theorem C9 {v0 : Value} [h : SL t e k by' z] (hk : 0 < k := by decide) (hb : 1 * k ≤ 2 ^ 24 := by decide) (h0 : v0.cells.size = k := by simp) (hK : ∀ b, TW κ S w0 (.own e k (.slice (some ⟨b, 0, none⟩) 1 1) 1 (v0.cells.toList) :: H) (K (.slice (some ⟨b, 0, none⟩) 1 1))) :
  TW κ S w0 H (B1 PR X (Instr.buildSlice t 1 #[(0, v0)]) K) := B2A [v0] hk (by omega) hb rfl rfl (by intro v hv; simp only [List.mem_cons, List.not_mem_nil, or_false] at hv; subst hv; assumption) (by simpa using hK)
theorem C6 {v0 v1 : Value} [h : SL t e k by' z] (hk : 0 < k := by decide) (hb : 2 * k ≤ 2 ^ 24 := by decide) (h0 : v0.cells.size = k := by simp) (h1 : v1.cells.size = k := by simp) (hK : ∀ b, TW κ S w0 (.own e k (.slice (some ⟨b, 0, none⟩) 2 2) 2 (v0.cells.toList ++ v1.cells.toList) :: H) (K (.slice (some ⟨b, 0, none⟩) 2 2))) :
  TW κ S w0 H (B1 PR X (Instr.buildSlice t 2 #[(0, v0), (1, v1)]) K) := B2A [v0, v1] hk (by omega) hb rfl rfl (by intro v hv; simp only [List.mem_cons, List.not_mem_nil, or_false] at hv; rcases hv with rfl | rfl <;> assumption) (by simpa using hK)
theorem C8 {v0 v1 v2 : Value} [h : SL t e k by' z] (hk : 0 < k := by decide) (hb : 3 * k ≤ 2 ^ 24 := by decide) (h0 : v0.cells.size = k := by simp) (h1 : v1.cells.size = k := by simp) (h2 : v2.cells.size = k := by simp) (hK : ∀ b, TW κ S w0 (.own e k (.slice (some ⟨b, 0, none⟩) 3 3) 3 (v0.cells.toList ++ v1.cells.toList ++ v2.cells.toList) :: H) (K (.slice (some ⟨b, 0, none⟩) 3 3))) :
  TW κ S w0 H (B1 PR X (Instr.buildSlice t 3 #[(0, v0), (1, v1), (2, v2)]) K) := B2A [v0, v1, v2] hk (by omega) hb rfl rfl (by intro v hv; simp only [List.mem_cons, List.not_mem_nil, or_false] at hv; rcases hv with rfl | rfl | rfl <;> assumption) (by simpa using hK)
theorem C7 {v0 v1 v2 v3 v4 : Value} [h : SL t e k by' z] (hk : 0 < k := by decide) (hb : 5 * k ≤ 2 ^ 24 := by decide) (h0 : v0.cells.size = k := by simp) (h1 : v1.cells.size = k := by simp) (h2 : v2.cells.size = k := by simp) (h3 : v3.cells.size = k := by simp) (h4 : v4.cells.size = k := by simp) (hK : ∀ b, TW κ S w0 (.own e k (.slice (some ⟨b, 0, none⟩) 5 5) 5 (v0.cells.toList ++ v1.cells.toList ++ v2.cells.toList ++ v3.cells.toList ++ v4.cells.toList) :: H) (K (.slice (some ⟨b, 0, none⟩) 5 5))) :
  TW κ S w0 H (B1 PR X (Instr.buildSlice t 5 #[(0, v0), (1, v1), (2, v2), (3, v3), (4, v4)]) K) := B2A [v0, v1, v2, v3, v4] hk (by omega) hb rfl rfl (by intro v hv; simp only [List.mem_cons, List.not_mem_nil, or_false] at hv; rcases hv with rfl | rfl | rfl | rfl | rfl <;> assumption) (by simpa using hK)
theorem D1 {v0 v1 v2 v3 v4 v5 : Value} [h : SL t e k by' z] (hk : 0 < k := by decide) (hb : 6 * k ≤ 2 ^ 24 := by decide) (h0 : v0.cells.size = k := by simp) (h1 : v1.cells.size = k := by simp) (h2 : v2.cells.size = k := by simp) (h3 : v3.cells.size = k := by simp) (h4 : v4.cells.size = k := by simp) (h5 : v5.cells.size = k := by simp) (hK : ∀ b, TW κ S w0 (.own e k (.slice (some ⟨b, 0, none⟩) 6 6) 6 (v0.cells.toList ++ v1.cells.toList ++ v2.cells.toList ++ v3.cells.toList ++ v4.cells.toList ++ v5.cells.toList) :: H) (K (.slice (some ⟨b, 0, none⟩) 6 6))) :
  TW κ S w0 H (B1 PR X (Instr.buildSlice t 6 #[(0, v0), (1, v1), (2, v2), (3, v3), (4, v4), (5, v5)]) K) := B2A [v0, v1, v2, v3, v4, v5] hk (by omega) hb rfl rfl (by intro v hv; simp only [List.mem_cons, List.not_mem_nil, or_false] at hv; rcases hv with rfl | rfl | rfl | rfl | rfl | rfl <;> assumption) (by simpa using hK)
theorem M4.form {w : World} {e : TypeId} {k n : Nat} {v : Value} {xs : List Value} (h : M4 w e k v n xs) : ∃ a c, v = .slice a n c := by
 rcases h.2 with ⟨rfl, rfl⟩ | ⟨g, cap, cur, rfl, _⟩
 ·exact ⟨_, _, rfl⟩
 ·exact ⟨_, _, rfl⟩
theorem B8B {q : Nat} {xs : List Value} {A : Value → WP} (h : ∀ a c, TW κ S w0 (.own e k (.slice a q c) q xs :: H) (A (.slice a q c))) (v : Value) : TW κ S w0 (.own e k v q xs :: H) (A v) := fun w hw => by
 obtain ⟨a, c, rfl⟩ := M4.form (hw.hold _ A1)
 exact h a c w hw
theorem A0J {ty : TypeId} {v x : Value} {q r : Nat} {xs news : List Value} [h : SL t e k by' z] (hs : Sel (.own e k v q xs) H Hr) (hx : N0 κ S w0 H x r news) (hk : 0 < k) (hl : news.length = r * k) (hp : news.all plain = true)
  (h63 : q + r ≤ maxLen) (hby : (q + r) * by' ≤ 140737488355328) (hK : ∀ a c, TW κ S w0 (.own e k (.slice a (q + r) c) (q + r) (xs ++ news) :: Hr) (K (.slice a (q + r) c))) : TW κ S w0 H (B1 PR X (A8 .append #[t, t] ty [v, x]) K) := by
 obtain ⟨⟨_, _, _, h1⟩, ⟨_, h2⟩, h3⟩ := h.ti
 refine TW.perm ?_ hs.perm
 exact C3a (H'' := fun v' => .own e k v' (q + r) (xs ++ news) :: Hr) h1 h2 h3 hk (fun v' => .here) (fun w hw => hx w (hw.perm hs.perm.symm)) hl hp h63 hby (B8B hK)
end
end Go.Proofs.YtpbmephflllolaaGreat
namespace Go.Proofs.YtpbmephflllolaaGreat
open Go
instance : TS 3 (.int .i64 0) := ⟨_, _, H0, rfl⟩
instance : TS 5 (.int .u8 0) := ⟨_, _, ty5, rfl⟩
instance : TS 9 (.string (ByteArray.mk #[])) := ⟨_, _, ty9, rfl⟩
instance : TS 21 (.int .i32 0) := ⟨_, _, C2j, rfl⟩
instance : TG 23 5 (.agg #[(.int .i64 0), (.int .i64 0), (.int .i64 0), (.int .i64 0), (.int .i64 0)]) := ⟨_, _, A2w, rfl⟩
instance : TS 25 .nilFunc := ⟨_, _, C2U, rfl⟩
instance : TS 28 (.int .i64 0) := ⟨_, _, A6y, rfl⟩
instance : TS 32 (.slice none 0 0) := ⟨_, _, A8N, rfl⟩
instance : SL 32 75 2 16 (.agg #[(.int .i64 0), (.int .i64 0)]) := ⟨⟨_, _, _, A8N⟩, ⟨_, A8V⟩, rfl⟩
instance : SL 34 3 1 8 (.int .i64 0) := ⟨⟨_, _, _, B6T⟩, ⟨_, H0⟩, rfl⟩
instance : TG 39 4 (.agg #[(.int .i64 0), (.int .i64 0), (.bool false), (.int .i64 0)]) := ⟨_, _, A2c, rfl⟩
instance : TG 42 4 (.agg #[(.int .i64 0), (.string (ByteArray.mk #[])), (.slice none 0 0), (.int .i64 0)]) := ⟨_, _, A3y, rfl⟩
instance : TS 48 (.slice none 0 0) := ⟨_, _, B5J, rfl⟩
instance : SL 48 9 1 16 (.string (ByteArray.mk #[])) := ⟨⟨_, _, _, B5J⟩, ⟨_, ty9⟩, rfl⟩
instance : TG 56 6 (.agg #[(.int .i64 0), (.string (ByteArray.mk #[])), (.string (ByteArray.mk #[])), (.int .i64 0), (.int .i64 0), (.int .i64 0)]) := ⟨_, _, A2Z, rfl⟩
instance : TG 58 7 (.agg #[(.int .i64 0), (.string (ByteArray.mk #[])), (.string (ByteArray.mk #[])), (.int .i64 0), (.int .i64 0), (.int .i64 0), (.int .i64 0)]) := ⟨_, _, A9q, rfl⟩
instance : TG 75 2 (.agg #[(.int .i64 0), (.int .i64 0)]) := ⟨_, _, A8V, rfl⟩
instance : SL 76 42 4 56 (.agg #[(.int .i64 0), (.string (ByteArray.mk #[])), (.slice none 0 0), (.int .i64 0)]) := ⟨⟨_, _, _, B88⟩, ⟨_, A3y⟩, rfl⟩
instance : TS 86 (.slice none 0 0) := ⟨_, _, B3g, rfl⟩
instance : SL 86 93 1 8 (.pointer none) := ⟨⟨_, _, _, B3g⟩, ⟨_, B9b⟩, rfl⟩
instance : TS 90 (.slice none 0 0) := ⟨_, _, B9N, rfl⟩
instance : SL 90 217 2 16 (.agg #[(.int .u64 0), (.int .i64 0)]) := ⟨⟨_, _, _, B9N⟩, ⟨_, B1z⟩, rfl⟩
instance : TS 93 (.pointer none) := ⟨_, _, B9b, rfl⟩
instance : TS 94 (.slice none 0 0) := ⟨_, _, A9p, rfl⟩
instance : SL 94 160 4 40 (.agg #[(.int .i64 0), (.string (ByteArray.mk #[])), (.int .i64 0), (.int .i64 0)]) := ⟨⟨_, _, _, A9p⟩, ⟨_, A1D⟩, rfl⟩
instance : TG 119 3 (.agg #[(.int .i64 0), (.int .i64 0), (.int .i64 0)]) := ⟨_, _, A5K, rfl⟩
instance : TG 122 3 (.agg #[(.string (ByteArray.mk #[])), (.string (ByteArray.mk #[])), (.int .i64 0)]) := ⟨_, _, A7B, rfl⟩
instance : TG 124 3 (.agg #[(.string (ByteArray.mk #[])), (.string (ByteArray.mk #[])), (.int .i64 0)]) := ⟨_, _, A68, rfl⟩
instance : TG 126 38 (.agg #[(.int .u8 0), (.int .u8 0), (.int .u8 0), (.int .u8 0), (.int .u8 0), (.int .u8 0), (.int .u8 0), (.int .u8 0), (.int .u8 0), (.int .u8 0), (.int .u8 0), (.int .u8 0), (.int .u8 0), (.int .u8 0), (.int .u8 0), (.int .u8 0), (.int .u8 0), (.int .u8 0), (.int .u8 0), (.int .u8 0), (.int .u8 0), (.int .u8 0), (.int .u8 0), (.int .u8 0), (.int .u8 0), (.int .u8 0), (.int .u8 0), (.int .u8 0), (.int .u8 0), (.int .u8 0), (.int .u8 0), (.int .u8 0), (.int .u8 0), (.int .u8 0), (.int .u8 0), (.int .u8 0), (.int .u8 0), (.int .u8 0)]) := ⟨_, _, B6b, rfl⟩
instance : TS 127 (.slice none 0 0) := ⟨_, _, A2C, rfl⟩
instance : SL 127 5 1 1 (.int .u8 0) := ⟨⟨_, _, _, A2C⟩, ⟨_, ty5⟩, rfl⟩
instance : TS 129 (.int .u64 0) := ⟨_, _, A3K, rfl⟩
instance : TS 149 .nilFunc := ⟨_, _, C26, rfl⟩
instance : TG 153 2 (.agg #[(.int .i64 0), (.int .i64 0)]) := ⟨_, _, A9M, rfl⟩
instance : TG 160 4 (.agg #[(.int .i64 0), (.string (ByteArray.mk #[])), (.int .i64 0), (.int .i64 0)]) := ⟨_, _, A1D, rfl⟩
instance : TS 176 (.slice none 0 0) := ⟨_, _, B5B, rfl⟩
instance : TS 185 (.pointer none) := ⟨_, _, B1x, rfl⟩
instance : TG 189 2 (.agg #[(.pointer none), (.slice none 0 0)]) := ⟨_, _, C0D, rfl⟩
instance : TS 208 (.slice none 0 0) := ⟨_, _, B14, rfl⟩
instance : SL 208 211 2 16 (.agg #[(.int .u64 0), (.int .i64 0)]) := ⟨⟨_, _, _, B14⟩, ⟨_, A4y⟩, rfl⟩
instance : TG 211 2 (.agg #[(.int .u64 0), (.int .i64 0)]) := ⟨_, _, A4y, rfl⟩
instance : TS 218 .nilFunc := ⟨_, _, C3G, rfl⟩
instance : SL 229 153 2 16 (.agg #[(.int .i64 0), (.int .i64 0)]) := ⟨⟨_, _, _, B5M⟩, ⟨_, A9M⟩, rfl⟩
instance : TG 296 2 (.agg #[.nilFunc, (.int .i64 0)]) := ⟨_, _, A7D, rfl⟩
instance : TS 300 .nilFunc := ⟨_, _, C30, rfl⟩
instance : TS 302 (.int .u64 0) := ⟨_, _, C0K, rfl⟩
instance : TS 307 (.slice none 0 0) := ⟨_, _, B6c, rfl⟩
instance : SL 320 296 2 16 (.agg #[.nilFunc, (.int .i64 0)]) := ⟨⟨_, _, _, B53⟩, ⟨_, A7D⟩, rfl⟩
@[simp] theorem C3C (a : Option Addr) (x y : Operand) (K : Value → WP) : A6 PR (H8 .eql 185 x y (.pointer a) (.pointer none)) K = K (.bool a.isNone) := funext fun w => B5N a x y K w
@[simp] theorem C4s (a : Option Addr) (x y : Operand) (K : Value → WP) : A6 PR (H8 .eql 27 x y (.pointer a) (.pointer none)) K = K (.bool a.isNone) := funext fun w => B7a a x y K w
@[simp] theorem C6w (a0 b0 : Int) (a1 b1 : Int) (a2 b2 : Bool) (a3 b3 : Int) (x y : Operand) (K : Value → WP) : A6 PR (H8 .eql 39 x y (.agg #[.int .i64 a0, .int .i64 a1, .bool a2, .int .i64 a3]) (.agg #[.int .i64 b0, .int .i64 b1, .bool b2, .int .i64 b3])) K = K (.bool (decide (a0 = b0) && (decide (a1 = b1) && ((a2 == b2) && (decide (a3 = b3) && true))))) := funext fun w => B9n a0 b0 a1 b1 a2 b2 a3 b3 x y K w
@[simp] theorem C5x (a : Option Addr) (x y : Operand) (K : Value → WP) : A6 PR (H8 .neq 27 x y (.pointer a) (.pointer none)) K = K (.bool (!a.isNone)) := funext fun w => B7N a x y K w
@[simp] theorem C6m (a0 b0 : Int) (a1 b1 : Int) (a2 b2 : Bool) (a3 b3 : Int) (x y : Operand) (K : Value → WP) : A6 PR (H8 .neq 39 x y (.agg #[.int .i64 a0, .int .i64 a1, .bool a2, .int .i64 a3]) (.agg #[.int .i64 b0, .int .i64 b1, .bool b2, .int .i64 b3])) K = K (.bool !(decide (a0 = b0) && (decide (a1 = b1) && ((a2 == b2) && (decide (a3 = b3) && true))))) := funext fun w => B8z a0 b0 a1 b1 a2 b2 a3 b3 x y K w
end Go.Proofs.YtpbmephflllolaaGreat
namespace Go.Proofs.YtpbmephflllolaaGreat
open Go
def A95 (n i : Nat) : List Value := [.int .i64 (i : Int), .int .u64 (8 * ((n : Int) - 1 - i))]
abbrev B7q (b : Nat) : Value := .func (.func 141) #[] #[.pointer (some ⟨b, 0, none⟩)]
theorem B3Z (w : World) (n : Int) : Fn PR B4 99 #[.int .i64 n] w (Rn [] w (fun b v => v = B7q b) fun b => [.pt b (.cells #[.int .i64 n] 3)]) := by
 refine A98 (TW.go (κ := false) (S := []) ?_)
 unfold A39
 (have zz:=trivial;repeat((first|clear zz|with_reducible first|refine A3 ?_|refine A5 fun _=>?_|refine A4 fun _=>?_);try simp(disch:=first|omega|assumption|((repeat(first|exact A1|exact uH|apply A2|apply uT));first|done|fail)|(simp;first|done|omega|fail))[]))
 rename_i b
 exact V7 b rfl (by simp)
theorem B3f (b : Nat) {n : Nat} (hn : n ≤ 8) : A1F (B7q b) [.pt b (.cells #[.int .i64 (n : Int)] 3)] (fun _ _ => True) ((List.range n).map (A95 n)) := by
 refine ⟨_, _, _, rfl, fun l J E hJ hE stJ stE hy w0 h0 => ?_⟩
 refine A7J (A7Q (TW.at (κ := true) ?_ (hJ _ _ _ h0).1))
 unfold A13
 (have zz:=trivial;repeat((first|clear zz|with_reducible first|refine A3 ?_|refine A5 fun _=>?_|refine A4 fun _=>?_);try simp(disch:=first|omega|assumption|((repeat(first|exact A1|exact uH|apply A2|apply uT));first|done|fail)|(simp;first|done|omega|fail))[]))
 refine A1Q n (fun i => i) (fun _ => _) hJ stJ h0 fun i a hi hJi _ L hL => ?_
 by_cases hlt : i < n
 ·(have zz:=trivial;repeat((first|clear zz|with_reducible first|refine A3 ?_|refine A5 fun _=>?_|refine A4 fun _=>?_);try simp(disch:=first|omega|assumption|((repeat(first|exact A1|exact uH|apply A2|apply uT));first|done|fail)|(simp;first|done|omega|fail))[hlt]))
  refine A2J hJ hE stJ hy hJi (by simpa using hlt) (by simp [A95]) (fun w3 h => ?_) (fun w3 h => ?_)
  ·(have zz:=trivial;repeat((first|clear zz|with_reducible first|refine A3 ?_|refine A5 fun _=>?_|refine A4 fun _=>?_);try simp(disch:=first|omega|assumption|((repeat(first|exact A1|exact uH|apply A2|apply uT));first|done|fail)|(simp;first|done|omega|fail))[]))
   exact fun w' hw' => hL hlt w' (stJ _ _ _ _ _ h hw')
  ·(have zz:=trivial;repeat((first|clear zz|with_reducible first|refine A3 ?_|refine A5 fun _=>?_|refine A4 fun _=>?_);try simp(disch:=first|omega|assumption|((repeat(first|exact A1|exact uH|apply A2|apply uT));first|done|fail)|(simp;first|done|omega|fail))[]))
   exact A0H stE h
 ·obtain rfl : i = n := by omega
  (have zz:=trivial;repeat((first|clear zz|with_reducible first|refine A3 ?_|refine A5 fun _=>?_|refine A4 fun _=>?_);try simp(disch:=first|omega|assumption|((repeat(first|exact A1|exact uH|apply A2|apply uT));first|done|fail)|(simp;first|done|omega|fail))[]))
  exact A0L stJ (by simpa using hJi)
def E2 (s : ByteArray) (i : Nat) : Nat := (s.data.getD i 0).toNat
def p6 (s : ByteArray) (a : Nat) : Nat → Nat
 | 0 => 0
 | i + 1 => p6 s a i * 256 + E2 s (a + i)
theorem y8 (s : ByteArray) (i : Nat) : E2 s i < 256 := (s.data.getD i 0).toNat_lt
theorem A6H (s : ByteArray) (a i : Nat) : p6 s a i < 256 ^ i := by
 induction i with
 | zero => simp [p6]
 | succ i ih =>
  have := y8 s (a + i)
  simp only [p6, Nat.pow_succ]
  omega
theorem y0 {s : ByteArray} {i : Nat} (h : i < s.size) : ∃ b : UInt8, s[i]? = some b ∧ b.toNat = E2 s i := by
 refine ⟨s[i], by simp [h], ?_⟩
 have h' : i < s.data.size := h
 have e : s.data.getD i 0 = s[i] := by rw [Array.getD_eq_getD_getElem?, Array.getElem?_eq_getElem h']; rfl
 rw [E2, e]
def A1G (s : ByteArray) (a n : Int) : Bool := decide (1 ≤ n ∧ n ≤ 8 ∧ 0 ≤ a ∧ a ≤ s.size - n)
def A3v (s : ByteArray) (a n : Int) : Int := if A1G s a n = true then (p6 s a.toNat n.toNat : Nat) else 0
theorem A1M (w : World) (s : ByteArray) (hs : s.size < 2 ^ 63) (a n : Int) :
  Fn PR B4 148 #[.string s, .int .i64 a, .int .i64 n] w (fun v w' => v = .tuple #[.int .u64 (A3v s a n), .bool (A1G s a n)] ∧ C3 [] w w') := by
 refine Fn.pure (B2B (TW.go (κ := false) (S := []) ?_))
 unfold A6l
 by_cases hok : A1G s a n = true
 case neg =>
  have hv : A3v s a n = 0 := if_neg hok
  have hok' : A1G s a n = false := by simpa using hok
  rw [hv, hok']
  have hc : n < 1 ∨ 8 < n ∨ a < 0 ∨ (s.size : Int) - n < a := by
   simp only [A1G, decide_eq_true_eq] at hok; omega
  by_cases h1 : n < 1
  ·(have zz:=trivial;repeat((first|clear zz|with_reducible first|refine A3 ?_|refine A5 fun _=>?_|refine A4 fun _=>?_);try simp(disch:=first|omega|assumption|((repeat(first|exact A1|exact uH|apply A2|apply uT));first|done|fail)|(simp;first|done|omega|fail))[h1])); exact B0 rfl
  by_cases h2 : 8 < n
  ·(have zz:=trivial;repeat((first|clear zz|with_reducible first|refine A3 ?_|refine A5 fun _=>?_|refine A4 fun _=>?_);try simp(disch:=first|omega|assumption|((repeat(first|exact A1|exact uH|apply A2|apply uT));first|done|fail)|(simp;first|done|omega|fail))[h1, h2])); exact B0 rfl
  by_cases h3 : a < 0
  ·(have zz:=trivial;repeat((first|clear zz|with_reducible first|refine A3 ?_|refine A5 fun _=>?_|refine A4 fun _=>?_);try simp(disch:=first|omega|assumption|((repeat(first|exact A1|exact uH|apply A2|apply uT));first|done|fail)|(simp;first|done|omega|fail))[h1, h2, h3])); exact B0 rfl
  have h4 : (s.size : Int) - n < a := by omega
  (have zz:=trivial;repeat((first|clear zz|with_reducible first|refine A3 ?_|refine A5 fun _=>?_|refine A4 fun _=>?_);try simp(disch:=first|omega|assumption|((repeat(first|exact A1|exact uH|apply A2|apply uT));first|done|fail)|(simp;first|done|omega|fail))[h1, h2, h3, h4])); exact B0 rfl
 have hv : A3v s a n = (p6 s a.toNat n.toNat : Nat) := if_pos hok
 rw [hv, hok]
 simp only [A1G, decide_eq_true_eq] at hok
 obtain ⟨m, rfl⟩ : ∃ m : Nat, n = m := ⟨n.toNat, by omega⟩
 obtain ⟨k, rfl⟩ : ∃ k : Nat, a = k := ⟨a.toNat, by omega⟩
 have h1 : ¬ (m : Int) < 1 := by omega
 have h2 : ¬ 8 < (m : Int) := by omega
 have h4 : ¬ (s.size : Int) - m < k := by omega
 have h5 : ¬ (k : Int) < 0 := by omega
 (have zz:=trivial;repeat((first|clear zz|with_reducible first|refine A3 ?_|refine A5 fun _=>?_|refine A4 fun _=>?_);try simp(disch:=first|omega|assumption|((repeat(first|exact A1|exact uH|apply A2|apply uT));first|done|fail)|(simp;first|done|omega|fail))[h1, h2, h4, h5]))
 rename_i bs ba bv
 refine M3 A3g (fun w' _ => B3Z w' m) ?_
 rintro b v rfl
 refine v6 (B3f b (n := m) (by omega)) (by simp [A95]) (fun _ (_ : Unit) => True) (fun i _ => [.pt bv (.cells #[.int .u64 ((p6 s k i * 256 ^ (m - i) : Nat) : Int)] 129), .pt ba (.cells #[.int .i64 (k : Int)] 3), .pt bs (.cells #[.string s] 9)])
  (fun _ (_ : Unit) => False) (fun _ => []) () trivial ?_ ?_ ?_ ?_ (by simp [p6])
 ·intros; trivial
 ·rintro i hi _ F _ K' hK _
  have hi' : i < m := by simpa using hi
  obtain ⟨by0, hb0, hb1⟩ := y0 (s := s) (i := k + i) (by omega)
  have hidx : ((k : Int) + i).toNat = k + i := by omega
  have hbl := y8 s (k + i)
  rw [← hidx] at hb0
  have hsh : (0 : Int) ≤ 8 * ((m : Int) - 1 - i) := by omega
  simp only [List.getElem_map, List.getElem_range, A95, VF.app]
  (have zz:=trivial;repeat((first|clear zz|with_reducible first|refine A3 ?_|refine A5 fun _=>?_|refine A4 fun _=>?_);try simp(disch:=first|omega|assumption|((repeat(first|exact A1|exact uH|apply A2|apply uT));first|done|fail)|(simp;first|done|omega|fail))[Y7]))
  refine TW.eqH ?_ (hK () trivial)
  have hlt : (p6 s k i * 256 + E2 s (k + i)) * 256 ^ (m - 1 - i) < 2 ^ 64 := by
   have hA : p6 s k (i + 1) < 256 ^ (i + 1) := A6H s k (i + 1)
   have h8 : 256 ^ (i + 1) * 256 ^ (m - 1 - i) ≤ 2 ^ 64 := by
    rw [← Nat.pow_add, show (2 : Nat) ^ 64 = 256 ^ 8 from rfl]
    exact Nat.pow_le_pow_right (by omega) (by omega)
   exact Nat.lt_of_lt_of_le (Nat.mul_lt_mul_of_pos_right hA (Nat.pow_pos (by omega))) h8
  have hval := C0Q hbl hlt (by omega)
  rw [show m - (i + 1) = m - 1 - i from by omega]
  simp [p6, ← hval]
  rw [hb1, show (8 * ((m : Int) - 1 - i)).toNat = 8 * (m - 1 - i) from by omega, show m - i = m - 1 - i + 1 from by omega]
 ·rintro _ _
  (have zz:=trivial;repeat((first|clear zz|with_reducible first|refine A3 ?_|refine A5 fun _=>?_|refine A4 fun _=>?_);try simp(disch:=first|omega|assumption|((repeat(first|exact A1|exact uH|apply A2|apply uT));first|done|fail)|(simp;first|done|omega|fail))[]))
  exact B0 (by simp)
 ·rintro _ _ h; exact h.elim
def B1w (v : Int) (n i : Nat) : Int := IntKind.u8.wrap (v.fdiv (2 ^ min (8 * ((n : Int) - 1 - i)).toNat IntKind.u64.bits))
def x8 (v : Int) (n i : Nat) : List Int := (List.range n).map fun j => if j < i then B1w v n j else 0
def E0 (v n : Int) : ByteArray := if 1 ≤ n ∧ n ≤ 8 then A2M (x8 v n.toNat n.toNat) else ByteArray.mk #[]
theorem B8e (v : Int) {n i : Nat} (h : i < n) : (x8 v n i).set i (B1w v n i) = x8 v n (i + 1) := by
 apply List.ext_getElem (by simp [x8])
 intro j h1 h2
 simp only [x8, List.length_set, List.length_map, List.length_range] at h1
 rw [List.getElem_set]
 simp only [x8, List.getElem_map, List.getElem_range]
 by_cases hij : i = j
 ·subst hij; simp
 ·by_cases hj : j < i
  ·simp [hij, hj, Nat.lt_succ_of_lt hj]
  ·have : ¬ j < i + 1 := by omega
   simp [hij, hj, this]
def A3u (v : Int) (n i : Nat) : Array Value := ((x8 v n i).map (Value.int .u8)).toArray
theorem B7Q (v : Int) {m : Nat} (h : m ≤ 8) : Builtin.zeroCells (Value.int .u8 0).cells m = A3u v m 0 := by
 have : m = 0 ∨ m = 1 ∨ m = 2 ∨ m = 3 ∨ m = 4 ∨ m = 5 ∨ m = 6 ∨ m = 7 ∨ m = 8 := by omega
 rcases this with rfl | rfl | rfl | rfl | rfl | rfl | rfl | rfl | rfl <;>
  (apply Array.ext'; simp [Builtin.zeroCells, A3u, x8, List.range, List.range.loop])
@[simp] theorem B8C {v n : Int} (h1 : 1 ≤ n) (h2 : n ≤ 8) : (E0 v n).size = n.toNat := by simp [E0, h1, h2, x8]
theorem V2 (w : World) (v n : Int) :
  Fn PR B4 55 #[.int .u64 v, .int .i64 n] w (fun u w' => u = .string (E0 v n) ∧ C3 [] w w') := by
 refine Fn.pure (B2S (TW.go (κ := false) (S := []) ?_))
 unfold A58
 by_cases hok : 1 ≤ n ∧ n ≤ 8
 case neg =>
  have hv : E0 v n = ByteArray.mk #[] := if_neg hok
  rw [hv]
  by_cases h1 : n < 1
  ·(have zz:=trivial;repeat((first|clear zz|with_reducible first|refine A3 ?_|refine A5 fun _=>?_|refine A4 fun _=>?_);try simp(disch:=first|omega|assumption|((repeat(first|exact A1|exact uH|apply A2|apply uT));first|done|fail)|(simp;first|done|omega|fail))[h1])); exact B0 rfl
  ·have h2 : 8 < n := by omega
   (have zz:=trivial;repeat((first|clear zz|with_reducible first|refine A3 ?_|refine A5 fun _=>?_|refine A4 fun _=>?_);try simp(disch:=first|omega|assumption|((repeat(first|exact A1|exact uH|apply A2|apply uT));first|done|fail)|(simp;first|done|omega|fail))[h1, h2])); exact B0 rfl
 have hv : E0 v n = A2M (x8 v n.toNat n.toNat) := if_pos hok
 rw [hv]
 obtain ⟨m, rfl⟩ : ∃ m : Nat, n = m := ⟨n.toNat, by omega⟩
 have h1 : ¬ (m : Int) < 1 := by omega
 have h2 : ¬ 8 < (m : Int) := by omega
 (have zz:=trivial;repeat((first|clear zz|with_reducible first|refine A3 ?_|refine A5 fun _=>?_|refine A4 fun _=>?_);try simp(disch:=first|omega|assumption|((repeat(first|exact A1|exact uH|apply A2|apply uT));first|done|fail)|(simp;first|done|omega|fail))[h1, h2]))
 refine C18 (by omega) (by omega) (by omega) (by omega) fun bs => ?_
 rw [Int.toNat_natCast, B7Q v (by omega)]
 (have zz:=trivial;repeat((first|clear zz|with_reducible first|refine A3 ?_|refine A5 fun _=>?_|refine A4 fun _=>?_);try simp(disch:=first|omega|assumption|((repeat(first|exact A1|exact uH|apply A2|apply uT));first|done|fail)|(simp;first|done|omega|fail))[h1, h2]))
 rename_i bv bb
 refine M3 A3g (fun w' _ => B3Z w' m) ?_
 rintro b v rfl
 refine v6 (B3f b (n := m) (by omega)) (by simp [A95]) (fun _ (_ : Unit) => True) (fun i _ => [.pt bb (.cells #[.slice (some ⟨bs, 0, none⟩) m m] 127),
   .own 5 1 (.slice (some ⟨bs, 0, none⟩) m m) m (A3u v m i).toList, .pt bv (.cells #[.int .u64 v] 129)])
  (fun _ (_ : Unit) => False) (fun _ => []) () trivial ?_ ?_ ?_ ?_ (by simp)
 ·intros; trivial
 ·rintro i hi _ F _ K' hK _
  have hi' : i < m := by simpa using hi
  have hsh : (0 : Int) ≤ 8 * ((m : Int) - 1 - i) := by omega
  simp only [List.getElem_map, List.getElem_range, A95, VF.app]
  (have zz:=trivial;repeat((first|clear zz|with_reducible first|refine A3 ?_|refine A5 fun _=>?_|refine A4 fun _=>?_);try simp(disch:=first|omega|assumption|((repeat(first|exact A1|exact uH|apply A2|apply uT));first|done|fail)|(simp;first|done|omega|fail))[]))
  refine A05 (by (repeat constructor)) (by simp) (by simp [A3u, x8]; omega) (by simp) ?_
  refine TW.eqH ?_ (hK () trivial)
  have e : A2k (A3u v m i).toList i [.int .u8 (B1w v m i)] = (A3u v m (i + 1)).toList := by
   rw [B8y (by simp [A3u, x8]; omega)]; simp [A3u, ← B8e v hi', List.map_set]
  rw [← e]; simp [B1w]
 ·rintro _ _
  (have zz:=trivial;repeat((first|clear zz|with_reducible first|refine A3 ?_|refine A5 fun _=>?_|refine A4 fun _=>?_);try simp(disch:=first|omega|assumption|((repeat(first|exact A1|exact uH|apply A2|apply uT));first|done|fail)|(simp;first|done|omega|fail))[]))
  have hlen : (x8 v m m).length = m := by simp [x8]
  have := fun w' K (hr : H4 w' bs 0 ((x8 v m m).map (Value.int .u8))) => @B3u K w' bs 0 m _ hr
  rw [hlen] at this
  rw [C3Y fun w' hw' => this w' _ (by simpa [A3u] using hw'.ownr (e := 5) (k := 1) (q := m) (c := m) (xs := (A3u v m m).toList) (by (repeat constructor)))]
  simp only [C3Q]
  exact B0 rfl
 ·rintro _ _ h; exact h.elim
end Go.Proofs.YtpbmephflllolaaGreat
