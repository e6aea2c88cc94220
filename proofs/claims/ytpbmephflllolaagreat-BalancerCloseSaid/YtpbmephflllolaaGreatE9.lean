/- The proof of a given statement, a part of it (ShStd ShOctet Ins Tc Tn Oct). No condition but what each lemma says. -/
import Derived.Test.YtpbmephflllolaaGreatE8
set_option linter.unusedVariables false
set_option linter.unusedSimpArgs false
namespace Go.Proofs.YtpbmephflllolaaGreat
open Go
def M4 (X : Nat → Prop) (t0 t1 : Value) (R : Value → WP) : WP :=
 A0 PR (F5 t0) fun t5 =>
 A0 PR (Instr.fieldAt 85 t5 2) fun t6 =>
 A6 PR (convert 79 83 t1) fun t8 =>
 B2 PR X 72 [t6, t8] fun t9 =>
 R (.tuple #[])
theorem M0 : A9 PR 36 := A7 Tryz.func36 (by kernel_rfl) rfl
theorem W3 {X : Nat → Prop} {t0 t1 : Value} {R : Value → WP} {w : World} (h : M4 X t0 t1 R w) : Fn PR X 36 #[t0, t1] w R := D5 (args := [t0, t1]) mixed Tryz.func36 (by kernel_rfl) h
def P9 (X : Nat → Prop) (t0 : Value) (R : Value → WP) : WP :=
 jn (n := 1) (fun t2 =>
 B1 PR X (Instr.buildSlice 32 0 #[]) fun t5 =>
 B1 PR X (A8 .append #[32, 32] 32 [t5, t0]) fun t7 =>
 R t7) fun J1 =>
 A6 PR (N4 .eql 32 (.tmp 3) (.const (.slice none 0 0)) t0 (.slice none 0 0)) fun t4 =>
 C5 t4 (
 R (.slice none 0 0)) (
 J1 (.slice none 0 0))
theorem P6 : A9 PR 49 := A7 Tryz.func49 (by kernel_rfl) rfl
theorem j5 {X : Nat → Prop} {t0 : Value} {R : Value → WP} {w : World} (h : P9 X t0 R w) : Fn PR X 49 #[t0] w R := D5 (args := [t0]) mixed Tryz.func49 (by kernel_rfl) h
def M9 (X : Nat → Prop) (t0 : Value) (R : Value → WP) : WP :=
 A0 PR (F5 t0) fun t4 =>
 A0 PR (Instr.fieldAt 85 t4 2) fun t5 =>
 B2 PR X 91 [t5] fun t6 =>
 A6 PR (convert 83 79 t6) fun t7 =>
 R t7
theorem M5 : A9 PR 50 := A7 Tryz.func50 (by kernel_rfl) rfl
theorem Y2 {X : Nat → Prop} {t0 : Value} {R : Value → WP} {w : World} (h : M9 X t0 R w) : Fn PR X 50 #[t0] w R := D5 (args := [t0]) mixed Tryz.func50 (by kernel_rfl) h
def A1J (X : Nat → Prop) (t0 t1 : Value) (R : Value → WP) : WP :=
 B2 PR X 120 [t0] fun t8 =>
 B2 PR X 120 [t1] fun t10 =>
 jn (n := 1) (fun t4 =>
 jn (n := 1) (fun t4_1 =>
 jn (n := 1) (fun t4_2 =>
 jn (n := 1) (fun t4_3 =>
 R (.int .i64 0)) fun J1 =>
 A0 PR (binOp .gtr 3 t0 t1) fun t19 =>
 C5 t19 (
 R (.int .i64 1)) (
 J1 t4_2)) fun J2 =>
 A0 PR (binOp .lss 3 t0 t1) fun t16 =>
 C5 t16 (
 R (.int .i64 (-1))) (
 J2 t4_1)) fun J3 =>
 C5 t10 (
 R (.int .i64 1)) (
 J3 t4)) fun J4 =>
 C5 t8 (
 jn (n := 1) (fun t4_4 =>
 R (.int .i64 (-1))) fun J5 =>
 C5 t10 (
 R (.int .i64 0)) (
 J5 (.int .i64 0))) (
 J4 (.int .i64 0))
theorem A5Z : A9 PR 69 := A7 Tryz.func69 (by kernel_rfl) rfl
theorem A6H {X : Nat → Prop} {t0 t1 : Value} {R : Value → WP} {w : World} (h : A1J X t0 t1 R w) : Fn PR X 69 #[t0, t1] w R := D5 (args := [t0, t1]) mixed Tryz.func69 (by kernel_rfl) h
theorem A69 {X : Nat → Prop} {t0 t1 : Value} {K : Value → WP} {w : World} (h : Fn PR X 69 #[t0, t1] w K) : B2 PR X 69 [t0, t1] K w := Or.inl ⟨A5Z, h⟩
def A04 (X : Nat → Prop) (t0 : Value) (R : Value → WP) : WP :=
 A0 PR (F5 t0) fun t3 =>
 A0 PR (Instr.fieldAt 101 t3 1) fun t4 =>
 B2 PR X 135 [t4] fun t5 =>
 R (.tuple #[])
theorem A5d : A9 PR 86 := A7 Tryz.func86 (by kernel_rfl) rfl
theorem A57 {X : Nat → Prop} {t0 : Value} {R : Value → WP} {w : World} (h : A04 X t0 R w) : Fn PR X 86 #[t0] w R := D5 (args := [t0]) mixed Tryz.func86 (by kernel_rfl) h
def L5 (X : Nat → Prop) (t0 : Value) (R : Value → WP) : WP :=
 B1 PR X (Instr.box 86 t0) fun t1 =>
 A0 PR (Instr.makeFunc (.func 136) #[] #[t1]) fun t3 =>
 R t3
theorem U8 : A9 PR 88 := A7 Tryz.func88 (by kernel_rfl) rfl
theorem V4 {X : Nat → Prop} {t0 : Value} {R : Value → WP} {w : World} (h : L5 X t0 R w) : Fn PR X 88 #[t0] w R := D5 (args := [t0]) mixed Tryz.func88 (by kernel_rfl) h
def A0E (X : Nat → Prop) (t0 : Value) (R : Value → WP) : WP :=
 A0 PR (F5 t0) fun t3 =>
 A0 PR (Instr.fieldAt 101 t3 1) fun t4 =>
 B2 PR X 137 [t4] fun t5 =>
 R (.tuple #[])
theorem A3q : A9 PR 89 := A7 Tryz.func89 (by kernel_rfl) rfl
theorem A4c {X : Nat → Prop} {t0 : Value} {R : Value → WP} {w : World} (h : A0E X t0 R w) : Fn PR X 89 #[t0] w R := D5 (args := [t0]) mixed Tryz.func89 (by kernel_rfl) h
def Z1 (X : Nat → Prop) (t0 t1 : Value) (R : Value → WP) : WP :=
 B2 PR X 139 [t0] fun t7 =>
 A0 PR (F5 t0) fun t10 =>
 A0 PR (Instr.fieldAt 187 t10 1) fun t11 =>
 A6 PR (Instr.loadAt 127 t11) fun t12 =>
 B1 PR X (A8 .append #[127, 9] 127 [t12, t1]) fun t14 =>
 A0 PR (F5 t0) fun t15 =>
 A0 PR (Instr.fieldAt 187 t15 1) fun t16 =>
 C3 PR X (Instr.storeAt 127 t16 t14) <|
 A0 PR (A8 .len #[9] 0 [t1]) fun t18 =>
 R (.tuple #[t18, .nilIface])
theorem J7 : A9 PR 95 := A7 Tryz.func95 (by kernel_rfl) rfl
theorem z7 {X : Nat → Prop} {t0 t1 : Value} {R : Value → WP} {w : World} (h : Z1 X t0 t1 R w) : Fn PR X 95 #[t0, t1] w R := D5 (args := [t0, t1]) mixed Tryz.func95 (by kernel_rfl) h
def k5 (X : Nat → Prop) (t0 : Value) (R : Value → WP) : WP :=
 drw <|
 A0 PR (F5 t0) fun t4 =>
 A0 PR (Instr.fieldAt 187 t4 1) fun t5 =>
 A6 PR (Instr.loadAt 127 t5) fun t6 =>
 A0 PR (F5 t0) fun t9 =>
 A0 PR (Instr.fieldAt 187 t9 1) fun t10 =>
 A6 PR (Instr.loadAt 127 t10) fun t11 =>
 A0 PR (A8 .len #[127] 0 [t11]) fun t12 =>
 B1 PR X (A8 .unsafeSliceData #[127] 249 [t6]) fun t7 =>
 watch PR [(none, (Instr.loadAt 127 t10), t11)] <|
 B1 PR X (A8 .unsafeString #[249, 3] 9 [t7, t12]) fun t13 =>
 R t13
theorem A1V : A9 PR 96 := A7 Tryz.func96 (by kernel_rfl) rfl
theorem A1x {X : Nat → Prop} {t0 : Value} {R : Value → WP} {w : World} (h : k5 X t0 R w) : Fn PR X 96 #[t0] w R := D5 (args := [t0]) mixed Tryz.func96 (by kernel_rfl) h
def U6 (X : Nat → Prop) (t0 t1 : Value) (R : Value → WP) : WP :=
 B2 PR X 157 [t0] fun t7 =>
 B2 PR X 158 [t7, t1] fun t10 =>
 R t7
theorem p9 : A9 PR 107 := A7 Tryz.func107 (by kernel_rfl) rfl
theorem q7 {X : Nat → Prop} {t0 t1 : Value} {R : Value → WP} {w : World} (h : U6 X t0 t1 R w) : Fn PR X 107 #[t0, t1] w R := D5 (args := [t0, t1]) mixed Tryz.func107 (by kernel_rfl) h
def S8 (X : Nat → Prop) (t0 : Value) (R : Value → WP) : WP :=
 jn (n := 1) (fun t2 =>
 B1 PR X (Instr.buildSlice 94 0 #[]) fun t5 =>
 B1 PR X (A8 .append #[94, 94] 94 [t5, t0]) fun t7 =>
 R t7) fun J1 =>
 A6 PR (N4 .eql 94 (.tmp 3) (.const (.slice none 0 0)) t0 (.slice none 0 0)) fun t4 =>
 C5 t4 (
 R (.slice none 0 0)) (
 J1 (.slice none 0 0))
theorem S3 : A9 PR 111 := A7 Tryz.func111 (by kernel_rfl) rfl
theorem n0 {X : Nat → Prop} {t0 : Value} {R : Value → WP} {w : World} (h : S8 X t0 R w) : Fn PR X 111 #[t0] w R := D5 (args := [t0]) mixed Tryz.func111 (by kernel_rfl) h
def A2e (X : Nat → Prop) (t0 : Value) (R : Value → WP) : WP :=
 A0 PR (binOp .neq 3 t0 t0) fun t5 =>
 R t5
theorem A7F : A9 PR 120 := A7 Tryz.func120 (by kernel_rfl) rfl
theorem A7w {X : Nat → Prop} {t0 : Value} {R : Value → WP} {w : World} (h : A2e X t0 R w) : Fn PR X 120 #[t0] w R := D5 (args := [t0]) mixed Tryz.func120 (by kernel_rfl) h
theorem A2v {X : Nat → Prop} {t0 : Value} {K : Value → WP} {w : World} (h : Fn PR X 120 #[t0] w K) : B2 PR X 120 [t0] K w := Or.inl ⟨A7F, h⟩
def T6 (X : Nat → Prop) (t0 t1 : Value) (R : Value → WP) : WP :=
 B2 PR X 170 [t0, t1] fun t7 =>
 A0 PR (binOp .geq 3 t7 (.int .i64 0)) fun t8 =>
 R t8
theorem m6 : A9 PR 121 := A7 Tryz.func121 (by kernel_rfl) rfl
theorem q5 {X : Nat → Prop} {t0 t1 : Value} {R : Value → WP} {w : World} (h : T6 X t0 t1 R w) : Fn PR X 121 #[t0, t1] w R := D5 (args := [t0, t1]) mixed Tryz.func121 (by kernel_rfl) h
def e6 (X : Nat → Prop) (t0 : Value) (R : Value → WP) : WP :=
 B2 PR X 177 [] fun t2 =>
 jn (n := 0) (
 B2 PR X 181 [t0] fun t12 =>
 R (.tuple #[])) fun J1 =>
 A0 PR (F5 t0) fun t4 =>
 A0 PR (Instr.fieldAt 99 t4 0) fun t5 =>
 B2 PR X 178 [t5, (.int .i32 0), (.int .i32 1)] fun t6 =>
 C5 t6 (
 jn (n := 0) (
 R (.tuple #[])) fun J2 =>
 C5 (.bool true) (
 B2 PR X 179 [] fun t7 =>
 A6 PR (convert 283 83 t0) fun t9 =>
 B2 PR X 180 [t9] fun t10 =>
 J2) (
 J2)) (
 J1)
theorem A0b : A9 PR 135 := A7 Tryz.func135 (by kernel_rfl) rfl
theorem A02 {X : Nat → Prop} {t0 : Value} {R : Value → WP} {w : World} (h : e6 X t0 R w) : Fn PR X 135 #[t0] w R := D5 (args := [t0]) mixed Tryz.func135 (by kernel_rfl) h
def K6 (X : Nat → Prop) (t0 t1 : Value) (R : Value → WP) : WP :=
 A6 PR (Instr.loadAt 86 t1) fun t4 =>
 A0 PR (A8 .len #[86] 0 [t4]) fun t5 =>
 A0 PR (binOp .sub 3 t5 (.int .i64 1)) fun t6 =>
 lp (n := 1) (fun L1 t3 =>
 jn (n := 0) (
 jn (n := 0) (
 A0 PR (binOp .sub 3 t3 (.int .i64 1)) fun t10 =>
 L1 t10) fun J2 =>
 A6 PR (Instr.loadAt 86 t1) fun t13 =>
 A0 PR (Instr.indexAt 86 t13 t3) fun t15 =>
 A6 PR (Instr.loadAt 93 t15) fun t16 =>
 H3 PR X t0 [t3, t16] fun t17 =>
 A0 PR (Op.unary .not t17) fun t18 =>
 C5 t18 (
 R (.tuple #[])) (
 J2)) fun J3 =>
 A0 PR (binOp .geq 3 t3 (.int .i64 0)) fun t8 =>
 C5 t8 (
 J3) (
 R (.tuple #[]))) t6
theorem T3 : A9 PR 136 := A7 Tryz.func136 (by kernel_rfl) rfl
theorem T4 {X : Nat → Prop} {t0 t1 : Value} {R : Value → WP} {w : World} (h : K6 X t0 t1 R w) : Fn PR X 136 #[t0, t1] w R := D5 (args := [t0, t1]) mixed Tryz.func136 (by kernel_rfl) h
theorem T8 {X : Nat → Prop} {t0 t1 : Value} {K : Value → WP} {w : World} (h : Fn PR X 136 #[t0, t1] w K) : s7 PR X 136 [t0, t1] K w := ⟨T3, h⟩
def Z9 (X : Nat → Prop) (t0 : Value) (R : Value → WP) : WP :=
 jn (n := 0) (
 A0 PR (F5 t0) fun t12 =>
 A0 PR (Instr.fieldAt 99 t12 0) fun t13 =>
 B2 PR X 183 [t13, (.int .i32 (-1))] fun t14 =>
 jn (n := 0) (
 B2 PR X 179 [] fun t20 =>
 R (.tuple #[])) fun J1 =>
 A0 PR (binOp .neq 21 t14 (.int .i32 0)) fun t16 =>
 C5 t16 (
 B2 PR X 184 [t0, t14] fun t19 =>
 J1) (
 J1)) fun J2 =>
 C5 (.bool true) (
 A0 PR (F5 t0) fun t4 =>
 A0 PR (Instr.fieldAt 99 t4 0) fun t5 =>
 A6 PR (Instr.loadAt 21 t5) fun t6 =>
 A6 PR (convert 283 83 t0) fun t8 =>
 B2 PR X 182 [t8] fun t9 =>
 B2 PR X 177 [] fun t10 =>
 J2) (
 J2)
theorem A0C : A9 PR 137 := A7 Tryz.func137 (by kernel_rfl) rfl
theorem A0M {X : Nat → Prop} {t0 : Value} {R : Value → WP} {w : World} (h : Z9 X t0 R w) : Fn PR X 137 #[t0] w R := D5 (args := [t0]) mixed Tryz.func137 (by kernel_rfl) h
def d6 (X : Nat → Prop) (t0 : Value) (R : Value → WP) : WP :=
 A0 PR (F5 t0) fun t3 =>
 A0 PR (Instr.fieldAt 187 t3 0) fun t4 =>
 A6 PR (Instr.loadAt 185 t4) fun t5 =>
 A6 PR (N4 .eql 185 (.tmp 5) (.const (.pointer none)) t5 (.pointer none)) fun t6 =>
 C5 t6 (
 A6 PR (convert 185 83 t0) fun t9 =>
 B2 PR X 185 [t9] fun t10 =>
 A6 PR (convert 83 185 t10) fun t11 =>
 A0 PR (F5 t0) fun t12 =>
 A0 PR (Instr.fieldAt 187 t12 0) fun t13 =>
 C3 PR X (Instr.storeAt 185 t13 t11) <|
 R (.tuple #[])) (
 A0 PR (F5 t0) fun t15 =>
 A0 PR (Instr.fieldAt 187 t15 0) fun t16 =>
 A6 PR (Instr.loadAt 185 t16) fun t17 =>
 A6 PR (N4 .neq 185 (.tmp 17) (.tmp 18) t17 t0) fun t19 =>
 C5 t19 (
 E0) (
 R (.tuple #[])))
theorem A0N : A9 PR 139 := A7 Tryz.func139 (by kernel_rfl) rfl
theorem A0Z {X : Nat → Prop} {t0 : Value} {R : Value → WP} {w : World} (h : d6 X t0 R w) : Fn PR X 139 #[t0] w R := D5 (args := [t0]) mixed Tryz.func139 (by kernel_rfl) h
def Z3 (X : Nat → Prop) (t0 : Value) (R : Value → WP) : WP :=
 B2 PR X 202 [(.slice none 0 0), t0] fun t4 =>
 R t4
theorem x7 : A9 PR 157 := A7 Tryz.func157 (by kernel_rfl) rfl
theorem y0 {X : Nat → Prop} {t0 : Value} {R : Value → WP} {w : World} (h : Z3 X t0 R w) : Fn PR X 157 #[t0] w R := D5 (args := [t0]) mixed Tryz.func157 (by kernel_rfl) h
theorem Y8 : A9 PR 158 := A7 Tryz.func158 (by kernel_rfl) rfl
def A5F (X : Nat → Prop) (t0 : Value) (R : Value → WP) : WP :=
 jn (n := 2) (fun t2 t8 =>
 R (.int .i64 0)) fun J1 =>
 A0 PR (A8 .len #[34] 0 [t0]) fun t7 =>
 lp (n := 2) (fun L2 t2_1 t8_1 =>
 A0 PR (binOp .lss 3 t8_1 t7) fun t9 =>
 jn (n := 0) (
 jn (n := 1) (fun t2_2 =>
 A0 PR (binOp .add 3 t8_1 (.int .i64 1)) fun t16 =>
 L2 t2_2 t16) fun J3 =>
 A0 PR (Instr.indexAt 34 t0 t8_1) fun t10 =>
 A6 PR (Instr.loadAt 3 t10) fun t11 =>
 A0 PR (binOp .neq 3 t11 (.int .i64 0)) fun t14 =>
 C5 t14 (
 R t11) (
 J3 t2_1)) fun J4 =>
 C5 t9 (
 J4) (
 J1 t2_1 t8_1)) (.int .i64 0) (.int .i64 0)
theorem B0A : A9 PR 161 := A7 Tryz.func161 (by kernel_rfl) rfl
theorem B06 {X : Nat → Prop} {t0 : Value} {R : Value → WP} {w : World} (h : A5F X t0 R w) : Fn PR X 161 #[t0] w R := D5 (args := [t0]) mixed Tryz.func161 (by kernel_rfl) h
theorem B22 {X : Nat → Prop} {t0 : Value} {K : Value → WP} {w : World} (h : Fn PR X 161 #[t0] w K) : B2 PR X 161 [t0] K w := Or.inl ⟨B0A, h⟩
def v8 (X : Nat → Prop) (t0 t1 : Value) (R : Value → WP) : WP :=
 B2 PR X 205 [t0] fun t8 =>
 B2 PR X 205 [t1] fun t10 =>
 jn (n := 1) (fun t4 =>
 jn (n := 1) (fun t4_1 =>
 jn (n := 1) (fun t4_2 =>
 jn (n := 1) (fun t4_3 =>
 R (.int .i64 0)) fun J1 =>
 A0 PR (binOp .gtr 129 t0 t1) fun t19 =>
 C5 t19 (
 R (.int .i64 1)) (
 J1 t4_2)) fun J2 =>
 A0 PR (binOp .lss 129 t0 t1) fun t16 =>
 C5 t16 (
 R (.int .i64 (-1))) (
 J2 t4_1)) fun J3 =>
 C5 t10 (
 R (.int .i64 1)) (
 J3 t4)) fun J4 =>
 C5 t8 (
 jn (n := 1) (fun t4_4 =>
 R (.int .i64 (-1))) fun J5 =>
 C5 t10 (
 R (.int .i64 0)) (
 J5 (.int .i64 0))) (
 J4 (.int .i64 0))
theorem A3a : A9 PR 162 := A7 Tryz.func162 (by kernel_rfl) rfl
theorem A3v {X : Nat → Prop} {t0 t1 : Value} {R : Value → WP} {w : World} (h : v8 X t0 t1 R w) : Fn PR X 162 #[t0, t1] w R := D5 (args := [t0, t1]) mixed Tryz.func162 (by kernel_rfl) h
theorem A4f {X : Nat → Prop} {t0 t1 : Value} {K : Value → WP} {w : World} (h : Fn PR X 162 #[t0, t1] w K) : B2 PR X 162 [t0, t1] K w := Or.inl ⟨A3a, h⟩
def W1 (X : Nat → Prop) (t0 t1 : Value) (R : Value → WP) : WP :=
 jn (n := 2) (fun t4 t8 =>
 R (.int .i64 (-1))) fun J1 =>
 A0 PR (A8 .len #[229] 0 [t0]) fun t7 =>
 lp (n := 2) (fun L2 t4_1 t8_1 =>
 A0 PR (binOp .lss 3 t8_1 t7) fun t9 =>
 jn (n := 0) (
 jn (n := 1) (fun t4_2 =>
 A0 PR (binOp .add 3 t8_1 (.int .i64 1)) fun t18 =>
 L2 t4_2 t18) fun J3 =>
 A0 PR (Instr.indexAt 229 t0 t8_1) fun t14 =>
 A6 PR (Instr.loadAt 153 t14) fun t15 =>
 H3 PR X t1 [t15] fun t16 =>
 C5 t16 (
 R t8_1) (
 J3 t4_1)) fun J4 =>
 C5 t9 (
 J4) (
 J1 t4_1 t8_1)) (.int .i64 0) (.int .i64 0)
theorem u4 : A9 PR 170 := A7 Tryz.func170 (by kernel_rfl) rfl
theorem x6 {X : Nat → Prop} {t0 t1 : Value} {R : Value → WP} {w : World} (h : W1 X t0 t1 R w) : Fn PR X 170 #[t0, t1] w R := D5 (args := [t0, t1]) mixed Tryz.func170 (by kernel_rfl) h
def M7 (X : Nat → Prop) (t0 t1 : Value) (R : Value → WP) : WP :=
 B1 PR X (Instr.box 208 t0) fun t2 =>
 jn (n := 0) (
 A6 PR (Instr.loadAt 208 t2) fun t12 =>
 V5 (R t12)) fun J1 =>
 rng (N := 1) PR X (fun t7 K2 =>
 B1 PR (fun _ => False) (Instr.alloc 211 true (.tuple #[])) fun t5 =>
 C3 PR (fun _ => False) (Instr.storeAt 211 t5 t7) <|
 bgn <|
 A6 PR (Instr.loadAt 208 t2) fun t8 =>
 A6 PR (Instr.loadAt 211 t5) fun t9 =>
 B1 PR (fun _ => False) (Instr.buildSlice 208 1 #[(0, t9)]) fun t10 =>
 B1 PR (fun _ => False) (A8 .append #[208, 208] 208 [t8, t10]) fun t11 =>
 C3 PR (fun _ => False) (Instr.storeAt 208 t2 t11) <|
 K2 none) t1 (fun j => match j with | none => (J1) | some (.exit i) => (match Nat.beq i 0 with | true => (J1) | false => (E0)) | some .ret => (V5 (R (.slice none 0 0))) | some _ => E0)
theorem W5 : A9 PR 202 := A7 Tryz.func202 (by kernel_rfl) rfl
theorem Z2 {X : Nat → Prop} {t0 t1 : Value} {R : Value → WP} {w : World} (h : M7 X t0 t1 R w) : Fn PR X 202 #[t0, t1] w R := D5 (args := [t0, t1]) mixed Tryz.func202 (by kernel_rfl) h
def A0U (X : Nat → Prop) (t0 : Value) (R : Value → WP) : WP :=
 A0 PR (binOp .neq 129 t0 t0) fun t5 =>
 R t5
theorem A4U : A9 PR 205 := A7 Tryz.func205 (by kernel_rfl) rfl
theorem A5U {X : Nat → Prop} {t0 : Value} {R : Value → WP} {w : World} (h : A0U X t0 R w) : Fn PR X 205 #[t0] w R := D5 (args := [t0]) mixed Tryz.func205 (by kernel_rfl) h
theorem A1C {X : Nat → Prop} {t0 : Value} {K : Value → WP} {w : World} (h : Fn PR X 205 #[t0] w K) : B2 PR X 205 [t0] K w := Or.inl ⟨A4U, h⟩
def N6 (X : Nat → Prop) (t0 t1 : Value) (R : Value → WP) : WP :=
 jn (n := 2) (fun t4 t8 =>
 R (.int .i64 (-1))) fun J1 =>
 A0 PR (A8 .len #[32] 0 [t0]) fun t7 =>
 lp (n := 2) (fun L2 t4_1 t8_1 =>
 A0 PR (binOp .lss 3 t8_1 t7) fun t9 =>
 jn (n := 0) (
 jn (n := 1) (fun t4_2 =>
 A0 PR (binOp .add 3 t8_1 (.int .i64 1)) fun t18 =>
 L2 t4_2 t18) fun J3 =>
 A0 PR (Instr.indexAt 32 t0 t8_1) fun t14 =>
 A6 PR (Instr.loadAt 75 t14) fun t15 =>
 H3 PR X t1 [t15] fun t16 =>
 C5 t16 (
 R t8_1) (
 J3 t4_1)) fun J4 =>
 C5 t9 (
 J4) (
 J1 t4_1 t8_1)) (.int .i64 0) (.int .i64 0)
theorem Z5 : A9 PR 222 := A7 Tryz.func222 (by kernel_rfl) rfl
theorem a8 {X : Nat → Prop} {t0 t1 : Value} {R : Value → WP} {w : World} (h : N6 X t0 t1 R w) : Fn PR X 222 #[t0, t1] w R := D5 (args := [t0, t1]) mixed Tryz.func222 (by kernel_rfl) h
def A4H (X : Nat → Prop) (t0 t1 : Value) (R : Value → WP) : WP :=
 jn (n := 2) (fun t5 t6 =>
 R t5) fun J1 =>
 lp (n := 2) (fun L2 t5_1 t6_1 =>
 jn (n := 0) (
 A0 PR (binOp .add 3 t5_1 t6_1) fun t14 =>
 A0 PR (convert 3 130 t14) fun t15 =>
 A0 PR (binOp .shr 130 t15 (.int .u64 1)) fun t16 =>
 A0 PR (convert 130 3 t16) fun t17 =>
 H3 PR X t1 [t17] fun t20 =>
 A0 PR (Op.unary .not t20) fun t21 =>
 C5 t21 (
 A0 PR (binOp .add 3 t17 (.int .i64 1)) fun t23 =>
 L2 t23 t6_1) (
 L2 t5_1 t17)) fun J3 =>
 A0 PR (binOp .lss 3 t5_1 t6_1) fun t11 =>
 C5 t11 (
 J3) (
 J1 t5_1 t6_1)) (.int .i64 0) t0
theorem A8r : A9 PR 224 := A7 Tryz.func224 (by kernel_rfl) rfl
theorem A9w {X : Nat → Prop} {t0 t1 : Value} {R : Value → WP} {w : World} (h : A4H X t0 t1 R w) : Fn PR X 224 #[t0, t1] w R := D5 (args := [t0, t1]) mixed Tryz.func224 (by kernel_rfl) h
theorem A06 : A9 PR 267 := A7 Tryz.func267 (by kernel_rfl) rfl
end Go.Proofs.YtpbmephflllolaaGreat
namespace Go.Proofs.YtpbmephflllolaaGreat
open Go
def A6U (X : Nat → Prop) (t0 t1 : Value) (R : Value → WP) : WP :=
 B1 PR X (Instr.box 129 t0) fun t2 =>
 jn (n := 1) (fun t4 =>
 B1 PR X (Instr.makeSlice 127 t1 t1) fun t15 =>
 B1 PR X (Instr.alloc 127 true (.tuple #[])) fun t5 =>
 C3 PR X (Instr.storeAt 127 t5 t15) <|
 jn (n := 0) (
 A6 PR (Instr.loadAt 127 t5) fun t27 =>
 A6 PR (convert 127 9 t27) fun t28 =>
 V5 (R t28)) fun J1 =>
 B2 PR X 99 [t1] fun t17 =>
 rng (N := 2) PR X (fun t18 t19 K2 =>
 bgn <|
 A6 PR (Instr.loadAt 127 t5) fun t20 =>
 A6 PR (Instr.loadAt 129 t2) fun t22 =>
 A0 PR (binOp .shr 129 t22 t19) fun t24 =>
 A0 PR (convert 129 5 t24) fun t25 =>
 A0 PR (Instr.indexAt 127 t20 t18) fun t26 =>
 C3 PR (fun _ => False) (Instr.storeAt 5 t26 t25) <|
 K2 none) t17 (fun j => match j with | none => (J1) | some (.exit i) => (match Nat.beq i 0 with | true => (J1) | false => (E0)) | some .ret => (V5 (R t4)) | some _ => E0)) fun J3 =>
 A0 PR (binOp .lss 3 t1 (.int .i64 1)) fun t9 =>
 gj t9 false (fun J => J t1) fun t11 =>
 gj t9 false (fun J => A0 PR (binOp .gtr 3 t11 (.int .i64 8)) J) fun t12 =>
 A0 PR (do pure (if ← asBool t9 then (.bool true) else t12)) fun t13 =>
 C5 t13 (
 V5 (R (.string (ByteArray.mk #[])))) (
 J3 (.string (ByteArray.mk #[])))
theorem F6 : A9 PR 55 := A7 Tryz.func55 (by kernel_rfl) rfl
theorem B2T {X : Nat → Prop} {t0 t1 : Value} {R : Value → WP} {w : World} (h : A6U X t0 t1 R w) : Fn PR X 55 #[t0, t1] w R := D5 (args := [t0, t1]) mixed Tryz.func55 (by kernel_rfl) h
def A4G (X : Nat → Prop) (t0 : Value) (R : Value → WP) : WP :=
 B1 PR X (Instr.box 3 t0) fun t1 =>
 A0 PR (Instr.makeFunc (.func 141) #[] #[t1]) fun t3 =>
 R t3
theorem A3D : A9 PR 99 := A7 Tryz.func99 (by kernel_rfl) rfl
theorem A9y {X : Nat → Prop} {t0 : Value} {R : Value → WP} {w : World} (h : A4G X t0 R w) : Fn PR X 99 #[t0] w R := D5 (args := [t0]) mixed Tryz.func99 (by kernel_rfl) h
def A1e (X : Nat → Prop) (t0 t1 : Value) (R : Value → WP) : WP :=
 A6 PR (Instr.loadAt 3 t1) fun t4 =>
 lp (n := 1) (fun L1 t5 =>
 A0 PR (binOp .lss 3 t5 t4) fun t6 =>
 jn (n := 0) (
 jn (n := 0) (
 A0 PR (binOp .add 3 t5 (.int .i64 1)) fun t18 =>
 L1 t18) fun J2 =>
 A6 PR (Instr.loadAt 3 t1) fun t10 =>
 A0 PR (binOp .sub 3 t10 (.int .i64 1)) fun t11 =>
 A0 PR (binOp .sub 3 t11 t5) fun t13 =>
 A0 PR (binOp .mul 3 (.int .i64 8) t13) fun t14 =>
 A0 PR (convert 3 130 t14) fun t15 =>
 H3 PR X t0 [t5, t15] fun t16 =>
 A0 PR (Op.unary .not t16) fun t17 =>
 C5 t17 (
 R (.tuple #[])) (
 J2)) fun J3 =>
 C5 t6 (
 J3) (
 R (.tuple #[]))) (.int .i64 0)
theorem A6d : A9 PR 141 := A7 Tryz.func141 (by kernel_rfl) rfl
theorem A7G {X : Nat → Prop} {t0 t1 : Value} {R : Value → WP} {w : World} (h : A1e X t0 t1 R w) : Fn PR X 141 #[t0, t1] w R := D5 (args := [t0, t1]) mixed Tryz.func141 (by kernel_rfl) h
theorem A66 {X : Nat → Prop} {t0 t1 : Value} {K : Value → WP} {w : World} (h : Fn PR X 141 #[t0, t1] w K) : s7 PR X 141 [t0, t1] K w := ⟨A6d, h⟩
def A5p (X : Nat → Prop) (t0 t1 t2 : Value) (R : Value → WP) : WP :=
 B1 PR X (Instr.box 9 t0) fun t3 =>
 B1 PR X (Instr.box 3 t1) fun t4 =>
 jn (n := 2) (fun t6 t7 =>
 B1 PR X (Instr.alloc 129 true (.tuple #[])) fun t8 =>
 jn (n := 0) (
 A6 PR (Instr.loadAt 129 t8) fun t43 =>
 V5 (R (.tuple #[t43, (.bool true)]))) fun J1 =>
 B2 PR X 99 [t2] fun t30 =>
 rng (N := 2) PR X (fun t31 t32 K2 =>
 bgn <|
 drw <|
 A6 PR (Instr.loadAt 129 t8) fun t33 =>
 A6 PR (Instr.loadAt 9 t3) fun t34 =>
 A6 PR (Instr.loadAt 3 t4) fun t35 =>
 A0 PR (binOp .add 3 t35 t31) fun t37 =>
 A0 PR (Instr.index 9 t34 t37) fun t38 =>
 A0 PR (convert 5 129 t38) fun t39 =>
 A0 PR (binOp .shl 129 t39 t32) fun t41 =>
 A0 PR (binOp .or 129 t33 t41) fun t42 =>
 C3 PR (fun _ => False) (Instr.storeAt 129 t8 t42) <|
 K2 none) t30 (fun j => match j with | none => (J1) | some (.exit i) => (match Nat.beq i 0 with | true => (J1) | false => (E0)) | some .ret => (V5 (R (.tuple #[t6, t7]))) | some _ => E0)) fun J3 =>
 A0 PR (binOp .lss 3 t2 (.int .i64 1)) fun t12 =>
 gj t12 false (fun J => J t2) fun t14 =>
 gj t12 false (fun J => A0 PR (binOp .gtr 3 t14 (.int .i64 8)) J) fun t15 =>
 A0 PR (do pure (if ← asBool t12 then (.bool true) else t15)) fun t16 =>
 gj t16 false (fun J => A6 PR (Instr.loadAt 3 t4) J) fun t18 =>
 gj t16 false (fun J => A0 PR (binOp .lss 3 t18 (.int .i64 0)) J) fun t19 =>
 A0 PR (do pure (if ← asBool t16 then (.bool true) else t19)) fun t20 =>
 gj t20 false (fun J => A6 PR (Instr.loadAt 3 t4) J) fun t22 =>
 gj t20 false (fun J => A6 PR (Instr.loadAt 9 t3) J) fun t23 =>
 gj t20 false (fun J => A0 PR (A8 .len #[9] 0 [t23]) J) fun t24 =>
 gj t20 false (fun J => J t2) fun t25 =>
 gj t20 false (fun J => A0 PR (binOp .sub 3 t24 t25) J) fun t26 =>
 gj t20 false (fun J => A0 PR (binOp .gtr 3 t22 t26) J) fun t27 =>
 A0 PR (do pure (if ← asBool t20 then (.bool true) else t27)) fun t28 =>
 C5 t28 (
 V5 (R (.tuple #[(.int .u64 0), (.bool false)]))) (
 J3 (.int .u64 0) (.bool false))
theorem Q0 : A9 PR 148 := A7 Tryz.func148 (by kernel_rfl) rfl
theorem B26 {X : Nat → Prop} {t0 t1 t2 : Value} {R : Value → WP} {w : World} (h : A5p X t0 t1 t2 R w) : Fn PR X 148 #[t0, t1, t2] w R := D5 (args := [t0, t1, t2]) mixed Tryz.func148 (by kernel_rfl) h
end Go.Proofs.YtpbmephflllolaaGreat
namespace Go.Proofs.YtpbmephflllolaaGreat
open Go
theorem A4u : TI PR 119 Tryz.t118.desc 3 24 (.agg #[(.int .i64 0), (.int .i64 0), (.int .i64 0)]) := ⟨Tryz.underlying119, Tryz.t119, by kernel_rfl, rfl, rfl, rfl⟩
theorem A6w : TI PR 122 Tryz.t121.desc 3 40 (.agg #[(.string (ByteArray.mk #[])), (.string (ByteArray.mk #[])), (.int .i64 0)]) := ⟨Tryz.underlying122, Tryz.t122, by kernel_rfl, rfl, rfl, rfl⟩
theorem A6v : TI PR 124 Tryz.t121.desc 3 40 (.agg #[(.string (ByteArray.mk #[])), (.string (ByteArray.mk #[])), (.int .i64 0)]) := ⟨Tryz.underlying124, Tryz.t124, by kernel_rfl, rfl, rfl, rfl⟩
theorem B4b : TI PR 126 Tryz.t126.desc 38 38 (.agg #[(.int .u8 0), (.int .u8 0), (.int .u8 0), (.int .u8 0), (.int .u8 0), (.int .u8 0), (.int .u8 0), (.int .u8 0), (.int .u8 0), (.int .u8 0), (.int .u8 0), (.int .u8 0), (.int .u8 0), (.int .u8 0), (.int .u8 0), (.int .u8 0), (.int .u8 0), (.int .u8 0), (.int .u8 0), (.int .u8 0), (.int .u8 0), (.int .u8 0), (.int .u8 0), (.int .u8 0), (.int .u8 0), (.int .u8 0), (.int .u8 0), (.int .u8 0), (.int .u8 0), (.int .u8 0), (.int .u8 0), (.int .u8 0), (.int .u8 0), (.int .u8 0), (.int .u8 0), (.int .u8 0), (.int .u8 0), (.int .u8 0)]) := ⟨Tryz.underlying126, Tryz.t126, by kernel_rfl, rfl, rfl, rfl⟩
theorem A1n : TI PR 127 Tryz.t127.desc 1 24 (.slice none 0 0) := ⟨Tryz.underlying127, Tryz.t127, by kernel_rfl, rfl, rfl, rfl⟩
theorem A23 : TI PR 129 Tryz.t129.desc 1 8 (.int .u64 0) := ⟨Tryz.underlying129, Tryz.t129, by kernel_rfl, rfl, rfl, rfl⟩
theorem C3e : TI PR 149 Tryz.t149.desc 1 8 .nilFunc := ⟨Tryz.underlying149, Tryz.t149, by kernel_rfl, rfl, rfl, rfl⟩
theorem A0w : TI PR 160 Tryz.t159.desc 4 40 (.agg #[(.int .i64 0), (.string (ByteArray.mk #[])), (.int .i64 0), (.int .i64 0)]) := ⟨Tryz.underlying160, Tryz.t160, by kernel_rfl, rfl, rfl, rfl⟩
theorem B4p : TI PR 176 Tryz.t94.desc 1 24 (.slice none 0 0) := ⟨Tryz.underlying176, Tryz.t176, by kernel_rfl, rfl, rfl, rfl⟩
theorem A61 : TI PR 187 Tryz.t186.desc 2 32 (.agg #[(.pointer none), (.slice none 0 0)]) := ⟨Tryz.underlying187, Tryz.t187, by kernel_rfl, rfl, rfl, rfl⟩
theorem B9d : TI PR 189 Tryz.t188.desc 2 32 (.agg #[(.pointer none), (.slice none 0 0)]) := ⟨Tryz.underlying189, Tryz.t189, by kernel_rfl, rfl, rfl, rfl⟩
theorem A4Z : TI PR 211 Tryz.t210.desc 2 16 (.agg #[(.int .u64 0), (.int .i64 0)]) := ⟨Tryz.underlying211, Tryz.t211, by kernel_rfl, rfl, rfl, rfl⟩
theorem C3s : TI PR 218 Tryz.t218.desc 1 8 .nilFunc := ⟨Tryz.underlying218, Tryz.t218, by kernel_rfl, rfl, rfl, rfl⟩
theorem A99 : TI PR 28 Tryz.t3.desc 1 8 (.int .i64 0) := ⟨Tryz.underlying28, Tryz.t28, by kernel_rfl, rfl, rfl, rfl⟩
theorem A64 : TI PR 296 Tryz.t295.desc 2 16 (.agg #[.nilFunc, (.int .i64 0)]) := ⟨Tryz.underlying296, Tryz.t296, by kernel_rfl, rfl, rfl, rfl⟩
theorem H9 : TI PR 3 Tryz.t3.desc 1 8 (.int .i64 0) := ⟨Tryz.underlying3, Tryz.t3, by kernel_rfl, rfl, rfl, rfl⟩
theorem C3z : TI PR 300 Tryz.t300.desc 1 8 .nilFunc := ⟨Tryz.underlying300, Tryz.t300, by kernel_rfl, rfl, rfl, rfl⟩
theorem B9c : TI PR 302 Tryz.t129.desc 1 8 (.int .u64 0) := ⟨Tryz.underlying302, Tryz.t302, by kernel_rfl, rfl, rfl, rfl⟩
theorem A2C : TI PR 39 Tryz.t38.desc 4 32 (.agg #[(.int .i64 0), (.int .i64 0), (.bool false), (.int .i64 0)]) := ⟨Tryz.underlying39, Tryz.t39, by kernel_rfl, rfl, rfl, rfl⟩
theorem A3d : TI PR 42 Tryz.t41.desc 4 56 (.agg #[(.int .i64 0), (.string (ByteArray.mk #[])), (.slice none 0 0), (.int .i64 0)]) := ⟨Tryz.underlying42, Tryz.t42, by kernel_rfl, rfl, rfl, rfl⟩
theorem B5C : TI PR 48 Tryz.t48.desc 1 24 (.slice none 0 0) := ⟨Tryz.underlying48, Tryz.t48, by kernel_rfl, rfl, rfl, rfl⟩
theorem A1S : TI PR 56 Tryz.t55.desc 6 64 (.agg #[(.int .i64 0), (.string (ByteArray.mk #[])), (.string (ByteArray.mk #[])), (.int .i64 0), (.int .i64 0), (.int .i64 0)]) := ⟨Tryz.underlying56, Tryz.t56, by kernel_rfl, rfl, rfl, rfl⟩
theorem A5u : TI PR 58 Tryz.t57.desc 7 72 (.agg #[(.int .i64 0), (.string (ByteArray.mk #[])), (.string (ByteArray.mk #[])), (.int .i64 0), (.int .i64 0), (.int .i64 0), (.int .i64 0)]) := ⟨Tryz.underlying58, Tryz.t58, by kernel_rfl, rfl, rfl, rfl⟩
theorem A8D : TI PR 75 Tryz.t74.desc 2 16 (.agg #[(.int .i64 0), (.int .i64 0)]) := ⟨Tryz.underlying75, Tryz.t75, by kernel_rfl, rfl, rfl, rfl⟩
theorem A9Z : TI PR 94 Tryz.t94.desc 1 24 (.slice none 0 0) := ⟨Tryz.underlying94, Tryz.t94, by kernel_rfl, rfl, rfl, rfl⟩
theorem B1T : TI PR 208 Tryz.t208.desc 1 24 (.slice none 0 0) := ⟨Tryz.underlying208, Tryz.t208, by kernel_rfl, rfl, rfl, rfl⟩
theorem A8E : TI PR 32 Tryz.t32.desc 1 24 (.slice none 0 0) := ⟨Tryz.underlying32, Tryz.t32, by kernel_rfl, rfl, rfl, rfl⟩
theorem B4r : TI PR 34 Tryz.t34.desc 1 24 (.slice none 0 0) := ⟨Tryz.underlying34, Tryz.t34, by kernel_rfl, rfl, rfl, rfl⟩
theorem z6 : TI PR 9 Tryz.t9.desc 1 16 (.string (ByteArray.mk #[])) := ⟨Tryz.underlying9, Tryz.t9, by kernel_rfl, rfl, rfl, rfl⟩
theorem B79 : TI PR 76 Tryz.t76.desc 1 24 (.slice none 0 0) := ⟨Tryz.underlying76, Tryz.t76, by kernel_rfl, rfl, rfl, rfl⟩
theorem B1y : TI PR 86 Tryz.t86.desc 1 24 (.slice none 0 0) := ⟨Tryz.underlying86, Tryz.t86, by kernel_rfl, rfl, rfl, rfl⟩
theorem B87 : TI PR 93 Tryz.t93.desc 1 8 (.pointer none) := ⟨Tryz.underlying93, Tryz.t93, by kernel_rfl, rfl, rfl, rfl⟩
theorem B84 : TI PR 90 Tryz.t90.desc 1 24 (.slice none 0 0) := ⟨Tryz.underlying90, Tryz.t90, by kernel_rfl, rfl, rfl, rfl⟩
theorem B1e : TI PR 217 Tryz.t210.desc 2 16 (.agg #[(.int .u64 0), (.int .i64 0)]) := ⟨Tryz.underlying217, Tryz.t217, by kernel_rfl, rfl, rfl, rfl⟩
theorem B1Y : TI PR 103 Tryz.t102.desc 4 40 (.agg #[(.int .i32 0), (.int .u32 0), (.slice none 0 0), (.int .i64 0)]) := ⟨Tryz.underlying103, Tryz.t103, by kernel_rfl, rfl, rfl, rfl⟩
@[simp] theorem C3b {v0 : Value} (h0 : v0.cells.size = 1) (K : Value → WP) : A0 PR (Instr.build 103 #[(1, v0)]) K = K (.agg (E2 #[(.int .i32 0), (.int .u32 0), (.slice none 0 0), (.int .i64 0)] 2 v0.cells.toList)) := E8 (pl := #[(0, 2), (2, 1), (3, 1)]) B1Y (fun w => by kernel_rfl) (by rw [B8 rfl h0 (by simp [C1])]; rfl)
@[simp] theorem C4a  (K : Value → WP) : A0 PR (Instr.build 119 #[]) K = K (.agg #[(.int .i64 0), (.int .i64 0), (.int .i64 0)]) := E8 (pl := #[(0, 1), (1, 1), (2, 1)]) A4u (fun w => by kernel_rfl) rfl
@[simp] theorem C1z {v0 v1 : Value} (h0 : v0.cells.size = 1) (h1 : v1.cells.size = 1) (K : Value → WP) : A0 PR (Instr.build 119 #[(0, v0), (1, v1)]) K = K (.agg (E2 (E2 #[(.int .i64 0), (.int .i64 0), (.int .i64 0)] 0 v0.cells.toList) 1 v1.cells.toList)) := E8 (pl := #[(0, 1), (1, 1), (2, 1)]) A4u (fun w => by kernel_rfl) (by rw [B8 rfl h0 (by simp [C1]), B8 rfl h1 (by simp [C1])]; rfl)
@[simp] theorem C0V {v0 v1 v2 : Value} (h0 : v0.cells.size = 1) (h1 : v1.cells.size = 1) (h2 : v2.cells.size = 1) (K : Value → WP) : A0 PR (Instr.build 119 #[(0, v0), (1, v1), (2, v2)]) K = K (.agg (E2 (E2 (E2 #[(.int .i64 0), (.int .i64 0), (.int .i64 0)] 0 v0.cells.toList) 1 v1.cells.toList) 2 v2.cells.toList)) := E8 (pl := #[(0, 1), (1, 1), (2, 1)]) A4u (fun w => by kernel_rfl) (by rw [B8 rfl h0 (by simp [C1]), B8 rfl h1 (by simp [C1]), B8 rfl h2 (by simp [C1])]; rfl)
@[simp] theorem C4l  (K : Value → WP) : A0 PR (Instr.build 122 #[]) K = K (.agg #[(.string (ByteArray.mk #[])), (.string (ByteArray.mk #[])), (.int .i64 0)]) := E8 (pl := #[(0, 1), (1, 1), (2, 1)]) A6w (fun w => by kernel_rfl) rfl
@[simp] theorem B98 {v0 v1 v2 : Value} (h0 : v0.cells.size = 1) (h1 : v1.cells.size = 1) (h2 : v2.cells.size = 1) (K : Value → WP) : A0 PR (Instr.build 122 #[(0, v0), (1, v1), (2, v2)]) K = K (.agg (E2 (E2 (E2 #[(.string (ByteArray.mk #[])), (.string (ByteArray.mk #[])), (.int .i64 0)] 0 v0.cells.toList) 1 v1.cells.toList) 2 v2.cells.toList)) := E8 (pl := #[(0, 1), (1, 1), (2, 1)]) A6w (fun w => by kernel_rfl) (by rw [B8 rfl h0 (by simp [C1]), B8 rfl h1 (by simp [C1]), B8 rfl h2 (by simp [C1])]; rfl)
@[simp] theorem C5D  (K : Value → WP) : A0 PR (Instr.build 124 #[]) K = K (.agg #[(.string (ByteArray.mk #[])), (.string (ByteArray.mk #[])), (.int .i64 0)]) := E8 (pl := #[(0, 1), (1, 1), (2, 1)]) A6v (fun w => by kernel_rfl) rfl
@[simp] theorem B93 {v0 v1 v2 : Value} (h0 : v0.cells.size = 1) (h1 : v1.cells.size = 1) (h2 : v2.cells.size = 1) (K : Value → WP) : A0 PR (Instr.build 124 #[(0, v0), (1, v1), (2, v2)]) K = K (.agg (E2 (E2 (E2 #[(.string (ByteArray.mk #[])), (.string (ByteArray.mk #[])), (.int .i64 0)] 0 v0.cells.toList) 1 v1.cells.toList) 2 v2.cells.toList)) := E8 (pl := #[(0, 1), (1, 1), (2, 1)]) A6v (fun w => by kernel_rfl) (by rw [B8 rfl h0 (by simp [C1]), B8 rfl h1 (by simp [C1]), B8 rfl h2 (by simp [C1])]; rfl)
theorem A8j : TI PR 153 Tryz.t153.desc 2 16 (.agg #[(.int .i64 0), (.int .i64 0)]) := ⟨Tryz.underlying153, Tryz.t153, by kernel_rfl, rfl, rfl, rfl⟩
@[simp] theorem B86 {v0 v1 v2 v3 : Value} (h0 : v0.cells.size = 1) (h1 : v1.cells.size = 1) (h2 : v2.cells.size = 1) (h3 : v3.cells.size = 1) (K : Value → WP) : A0 PR (Instr.build 160 #[(0, v0), (1, v1), (2, v2), (3, v3)]) K = K (.agg (E2 (E2 (E2 (E2 #[(.int .i64 0), (.string (ByteArray.mk #[])), (.int .i64 0), (.int .i64 0)] 0 v0.cells.toList) 1 v1.cells.toList) 2 v2.cells.toList) 3 v3.cells.toList)) := E8 (pl := #[(0, 1), (1, 1), (2, 1), (3, 1)]) A0w (fun w => by kernel_rfl) (by rw [B8 rfl h0 (by simp [C1]), B8 rfl h1 (by simp [C1]), B8 rfl h2 (by simp [C1]), B8 rfl h3 (by simp [C1])]; rfl)
@[simp] theorem C3L {v0 : Value} (h0 : v0.cells.size = 1) (K : Value → WP) : A0 PR (Instr.build 160 #[(0, v0)]) K = K (.agg (E2 #[(.int .i64 0), (.string (ByteArray.mk #[])), (.int .i64 0), (.int .i64 0)] 0 v0.cells.toList)) := E8 (pl := #[(0, 1), (1, 1), (2, 1), (3, 1)]) A0w (fun w => by kernel_rfl) (by rw [B8 rfl h0 (by simp [C1])]; rfl)
@[simp] theorem C1K {v0 v1 : Value} (h0 : v0.cells.size = 1) (h1 : v1.cells.size = 1) (K : Value → WP) : A0 PR (Instr.build 211 #[(0, v0), (1, v1)]) K = K (.agg (E2 (E2 #[(.int .u64 0), (.int .i64 0)] 0 v0.cells.toList) 1 v1.cells.toList)) := E8 (pl := #[(0, 1), (1, 1)]) A4Z (fun w => by kernel_rfl) (by rw [B8 rfl h0 (by simp [C1]), B8 rfl h1 (by simp [C1])]; rfl)
theorem A2S : TI PR 23 Tryz.t22.desc 5 40 (.agg #[(.int .i64 0), (.int .i64 0), (.int .i64 0), (.int .i64 0), (.int .i64 0)]) := ⟨Tryz.underlying23, Tryz.t23, by kernel_rfl, rfl, rfl, rfl⟩
@[simp] theorem C6P  (K : Value → WP) : A0 PR (Instr.build 23 #[]) K = K (.agg #[(.int .i64 0), (.int .i64 0), (.int .i64 0), (.int .i64 0), (.int .i64 0)]) := E8 (pl := #[(0, 1), (1, 1), (2, 1), (3, 1), (4, 1)]) A2S (fun w => by kernel_rfl) rfl
@[simp] theorem B7r {v0 v1 v2 v3 v4 : Value} (h0 : v0.cells.size = 1) (h1 : v1.cells.size = 1) (h2 : v2.cells.size = 1) (h3 : v3.cells.size = 1) (h4 : v4.cells.size = 1) (K : Value → WP) : A0 PR (Instr.build 23 #[(0, v0), (1, v1), (2, v2), (3, v3), (4, v4)]) K = K (.agg (E2 (E2 (E2 (E2 (E2 #[(.int .i64 0), (.int .i64 0), (.int .i64 0), (.int .i64 0), (.int .i64 0)] 0 v0.cells.toList) 1 v1.cells.toList) 2 v2.cells.toList) 3 v3.cells.toList) 4 v4.cells.toList)) := E8 (pl := #[(0, 1), (1, 1), (2, 1), (3, 1), (4, 1)]) A2S (fun w => by kernel_rfl) (by rw [B8 rfl h0 (by simp [C1]), B8 rfl h1 (by simp [C1]), B8 rfl h2 (by simp [C1]), B8 rfl h3 (by simp [C1]), B8 rfl h4 (by simp [C1])]; rfl)
theorem B9k : TI PR 246 Tryz.t81.desc 0 0 (.agg #[]) := ⟨Tryz.underlying246, Tryz.t246, by kernel_rfl, rfl, rfl, rfl⟩
@[simp] theorem C4c  (K : Value → WP) : A0 PR (Instr.build 246 #[]) K = K (.agg #[]) := E8 (pl := #[]) B9k (fun w => by kernel_rfl) rfl
theorem B9s : TI PR 247 Tryz.t81.desc 0 0 (.agg #[]) := ⟨Tryz.underlying247, Tryz.t247, by kernel_rfl, rfl, rfl, rfl⟩
@[simp] theorem C45  (K : Value → WP) : A0 PR (Instr.build 247 #[]) K = K (.agg #[]) := E8 (pl := #[]) B9s (fun w => by kernel_rfl) rfl
@[simp] theorem C1w {v0 v1 : Value} (h0 : v0.cells.size = 1) (h1 : v1.cells.size = 1) (K : Value → WP) : A0 PR (Instr.build 296 #[(0, v0), (1, v1)]) K = K (.agg (E2 (E2 #[.nilFunc, (.int .i64 0)] 0 v0.cells.toList) 1 v1.cells.toList)) := E8 (pl := #[(0, 1), (1, 1)]) A64 (fun w => by kernel_rfl) (by rw [B8 rfl h0 (by simp [C1]), B8 rfl h1 (by simp [C1])]; rfl)
@[simp] theorem C56  (K : Value → WP) : A0 PR (Instr.build 39 #[]) K = K (.agg #[(.int .i64 0), (.int .i64 0), (.bool false), (.int .i64 0)]) := E8 (pl := #[(0, 1), (1, 1), (2, 1), (3, 1)]) A2C (fun w => by kernel_rfl) rfl
@[simp] theorem C4j {v0 : Value} (h0 : v0.cells.size = 1) (K : Value → WP) : A0 PR (Instr.build 39 #[(0, v0)]) K = K (.agg (E2 #[(.int .i64 0), (.int .i64 0), (.bool false), (.int .i64 0)] 0 v0.cells.toList)) := E8 (pl := #[(0, 1), (1, 1), (2, 1), (3, 1)]) A2C (fun w => by kernel_rfl) (by rw [B8 rfl h0 (by simp [C1])]; rfl)
@[simp] theorem C2U {v0 v1 : Value} (h0 : v0.cells.size = 1) (h1 : v1.cells.size = 1) (K : Value → WP) : A0 PR (Instr.build 39 #[(1, v0), (2, v1)]) K = K (.agg (E2 (E2 #[(.int .i64 0), (.int .i64 0), (.bool false), (.int .i64 0)] 1 v0.cells.toList) 2 v1.cells.toList)) := E8 (pl := #[(0, 1), (1, 1), (2, 1), (3, 1)]) A2C (fun w => by kernel_rfl) (by rw [B8 rfl h0 (by simp [C1]), B8 rfl h1 (by simp [C1])]; rfl)
@[simp] theorem C5J {v0 : Value} (h0 : v0.cells.size = 1) (K : Value → WP) : A0 PR (Instr.build 39 #[(1, v0)]) K = K (.agg (E2 #[(.int .i64 0), (.int .i64 0), (.bool false), (.int .i64 0)] 1 v0.cells.toList)) := E8 (pl := #[(0, 1), (1, 1), (2, 1), (3, 1)]) A2C (fun w => by kernel_rfl) (by rw [B8 rfl h0 (by simp [C1])]; rfl)
@[simp] theorem C43 {v0 : Value} (h0 : v0.cells.size = 1) (K : Value → WP) : A0 PR (Instr.build 39 #[(3, v0)]) K = K (.agg (E2 #[(.int .i64 0), (.int .i64 0), (.bool false), (.int .i64 0)] 3 v0.cells.toList)) := E8 (pl := #[(0, 1), (1, 1), (2, 1), (3, 1)]) A2C (fun w => by kernel_rfl) (by rw [B8 rfl h0 (by simp [C1])]; rfl)
@[simp] theorem C4u {v0 : Value} (h0 : v0.cells.size = 1) (K : Value → WP) : A0 PR (Instr.build 42 #[(0, v0)]) K = K (.agg (E2 #[(.int .i64 0), (.string (ByteArray.mk #[])), (.slice none 0 0), (.int .i64 0)] 0 v0.cells.toList)) := E8 (pl := #[(0, 1), (1, 1), (2, 1), (3, 1)]) A3d (fun w => by kernel_rfl) (by rw [B8 rfl h0 (by simp [C1])]; rfl)
@[simp] theorem C51  (K : Value → WP) : A0 PR (Instr.build 56 #[]) K = K (.agg #[(.int .i64 0), (.string (ByteArray.mk #[])), (.string (ByteArray.mk #[])), (.int .i64 0), (.int .i64 0), (.int .i64 0)]) := E8 (pl := #[(0, 1), (1, 1), (2, 1), (3, 1), (4, 1), (5, 1)]) A1S (fun w => by kernel_rfl) rfl
@[simp] theorem B59 {v0 v1 v2 v3 v4 v5 : Value} (h0 : v0.cells.size = 1) (h1 : v1.cells.size = 1) (h2 : v2.cells.size = 1) (h3 : v3.cells.size = 1) (h4 : v4.cells.size = 1) (h5 : v5.cells.size = 1) (K : Value → WP) : A0 PR (Instr.build 56 #[(0, v0), (1, v1), (2, v2), (3, v3), (4, v4), (5, v5)]) K = K (.agg (E2 (E2 (E2 (E2 (E2 (E2 #[(.int .i64 0), (.string (ByteArray.mk #[])), (.string (ByteArray.mk #[])), (.int .i64 0), (.int .i64 0), (.int .i64 0)] 0 v0.cells.toList) 1 v1.cells.toList) 2 v2.cells.toList) 3 v3.cells.toList) 4 v4.cells.toList) 5 v5.cells.toList)) := E8 (pl := #[(0, 1), (1, 1), (2, 1), (3, 1), (4, 1), (5, 1)]) A1S (fun w => by kernel_rfl) (by rw [B8 rfl h0 (by simp [C1]), B8 rfl h1 (by simp [C1]), B8 rfl h2 (by simp [C1]), B8 rfl h3 (by simp [C1]), B8 rfl h4 (by simp [C1]), B8 rfl h5 (by simp [C1])]; rfl)
@[simp] theorem B9j {v0 v1 v2 v3 : Value} (h0 : v0.cells.size = 1) (h1 : v1.cells.size = 1) (h2 : v2.cells.size = 1) (h3 : v3.cells.size = 1) (K : Value → WP) : A0 PR (Instr.build 56 #[(0, v0), (1, v1), (2, v2), (5, v3)]) K = K (.agg (E2 (E2 (E2 (E2 #[(.int .i64 0), (.string (ByteArray.mk #[])), (.string (ByteArray.mk #[])), (.int .i64 0), (.int .i64 0), (.int .i64 0)] 0 v0.cells.toList) 1 v1.cells.toList) 2 v2.cells.toList) 5 v3.cells.toList)) := E8 (pl := #[(0, 1), (1, 1), (2, 1), (3, 1), (4, 1), (5, 1)]) A1S (fun w => by kernel_rfl) (by rw [B8 rfl h0 (by simp [C1]), B8 rfl h1 (by simp [C1]), B8 rfl h2 (by simp [C1]), B8 rfl h3 (by simp [C1])]; rfl)
@[simp] theorem C52  (K : Value → WP) : A0 PR (Instr.build 58 #[]) K = K (.agg #[(.int .i64 0), (.string (ByteArray.mk #[])), (.string (ByteArray.mk #[])), (.int .i64 0), (.int .i64 0), (.int .i64 0), (.int .i64 0)]) := E8 (pl := #[(0, 6), (6, 1)]) A5u (fun w => by kernel_rfl) rfl
@[simp] theorem C2Q {v0 v1 : Value} (h0 : v0.cells.size = 6) (h1 : v1.cells.size = 1) (K : Value → WP) : A0 PR (Instr.build 58 #[(0, v0), (1, v1)]) K = K (.agg (E2 (E2 #[(.int .i64 0), (.string (ByteArray.mk #[])), (.string (ByteArray.mk #[])), (.int .i64 0), (.int .i64 0), (.int .i64 0), (.int .i64 0)] 0 v0.cells.toList) 6 v1.cells.toList)) := E8 (pl := #[(0, 6), (6, 1)]) A5u (fun w => by kernel_rfl) (by rw [B8 rfl h0 (by simp [C1]), B8 rfl h1 (by simp [C1])]; rfl)
@[simp] theorem C4m {v0 : Value} (h0 : v0.cells.size = 6) (K : Value → WP) : A0 PR (Instr.build 58 #[(0, v0)]) K = K (.agg (E2 #[(.int .i64 0), (.string (ByteArray.mk #[])), (.string (ByteArray.mk #[])), (.int .i64 0), (.int .i64 0), (.int .i64 0), (.int .i64 0)] 0 v0.cells.toList)) := E8 (pl := #[(0, 6), (6, 1)]) A5u (fun w => by kernel_rfl) (by rw [B8 rfl h0 (by simp [C1])]; rfl)
@[simp] theorem C2T {v0 v1 : Value} (h0 : v0.cells.size = 1) (h1 : v1.cells.size = 1) (K : Value → WP) : A0 PR (Instr.build 75 #[(0, v0), (1, v1)]) K = K (.agg (E2 (E2 #[(.int .i64 0), (.int .i64 0)] 0 v0.cells.toList) 1 v1.cells.toList)) := E8 (pl := #[(0, 1), (1, 1)]) A8D (fun w => by kernel_rfl) (by rw [B8 rfl h0 (by simp [C1]), B8 rfl h1 (by simp [C1])]; rfl)
theorem B46 : TI PR 88 Tryz.t87.desc 7 72 (.agg #[(.int .i64 0), (.int .i64 0), (.int .i64 0), (.int .i64 0), (.int .i64 0), (.pointer none), (.slice none 0 0)]) := ⟨Tryz.underlying88, Tryz.t88, by kernel_rfl, rfl, rfl, rfl⟩
@[simp] theorem C37 {v0 : Value} (h0 : v0.cells.size = 5) (K : Value → WP) : A0 PR (Instr.build 88 #[(0, v0)]) K = K (.agg (E2 #[(.int .i64 0), (.int .i64 0), (.int .i64 0), (.int .i64 0), (.int .i64 0), (.pointer none), (.slice none 0 0)] 0 v0.cells.toList)) := E8 (pl := #[(0, 5), (5, 1), (6, 1)]) B46 (fun w => by kernel_rfl) (by rw [B8 rfl h0 (by simp [C1])]; rfl)
theorem B5c : TI PR 92 Tryz.t91.desc 2 48 (.agg #[(.slice none 0 0), (.slice none 0 0)]) := ⟨Tryz.underlying92, Tryz.t92, by kernel_rfl, rfl, rfl, rfl⟩
@[simp] theorem C5n  (K : Value → WP) : A0 PR (Instr.build 92 #[]) K = K (.agg #[(.slice none 0 0), (.slice none 0 0)]) := E8 (pl := #[(0, 1), (1, 1)]) B5c (fun w => by kernel_rfl) rfl
@[simp] theorem C2V {v0 v1 : Value} (h0 : v0.cells.size = 1) (h1 : v1.cells.size = 1) (K : Value → WP) : A0 PR (Instr.build 92 #[(0, v0), (1, v1)]) K = K (.agg (E2 (E2 #[(.slice none 0 0), (.slice none 0 0)] 0 v0.cells.toList) 1 v1.cells.toList)) := E8 (pl := #[(0, 1), (1, 1)]) B5c (fun w => by kernel_rfl) (by rw [B8 rfl h0 (by simp [C1]), B8 rfl h1 (by simp [C1])]; rfl)
theorem ty5 : TI PR 5 Tryz.t5.desc 1 1 (.int .u8 0) := ⟨Tryz.underlying5, Tryz.t5, by kernel_rfl, rfl, rfl, rfl⟩
theorem B4n : TI PR 229 Tryz.t229.desc 1 24 (.slice none 0 0) := ⟨Tryz.underlying229, Tryz.t229, by kernel_rfl, rfl, rfl, rfl⟩
theorem B5F : TI PR 320 Tryz.t320.desc 1 24 (.slice none 0 0) := ⟨Tryz.underlying320, Tryz.t320, by kernel_rfl, rfl, rfl, rfl⟩
theorem B3J {K : Value → WP} {w : World} {b o cap : Nat} {ns : List Int} (hr : K8 w b o (ns.map (Value.int .u8))) : A6 PR (convert 127 9 (.slice (some ⟨b, o, none⟩) ns.length cap)) K w = K (.string (x3 ns)) w := C3C A1n ty5 z6 hr
@[simp] theorem C3H {k : IntKind} (a : Int) (K : Value → WP) : A0 PR (convert 129 3 (.int k a)) K = K (.int .i64 (IntKind.i64.wrap a)) := A1K H9 A23
@[simp] theorem C3m {k : IntKind} (a : Int) (K : Value → WP) : A0 PR (convert 129 5 (.int k a)) K = K (.int .u8 (IntKind.u8.wrap a)) := A1K ty5 A23
theorem B9W : TI PR 130 Tryz.t130.desc 1 8 (.int .u64 0) := ⟨Tryz.underlying130, Tryz.t130, by kernel_rfl, rfl, rfl, rfl⟩
@[simp] theorem C3Z {k : IntKind} (a : Int) (K : Value → WP) : A0 PR (convert 130 3 (.int k a)) K = K (.int .i64 (IntKind.i64.wrap a)) := A1K H9 B9W
@[simp] theorem C2l {k : IntKind} (a : Int) (K : Value → WP) : A0 PR (convert 3 129 (.int k a)) K = K (.int .u64 (IntKind.u64.wrap a)) := A1K A23 H9
@[simp] theorem C3T {k : IntKind} (a : Int) (K : Value → WP) : A0 PR (convert 3 130 (.int k a)) K = K (.int .u64 (IntKind.u64.wrap a)) := A1K B9W H9
@[simp] theorem C20 {k : IntKind} (a : Int) (K : Value → WP) : A0 PR (convert 5 129 (.int k a)) K = K (.int .u64 (IntKind.u64.wrap a)) := A1K A23 ty5
@[simp] theorem C54 {k : IntKind} (a : Int) (K : Value → WP) : A0 PR (convert 5 3 (.int k a)) K = K (.int .i64 (IntKind.i64.wrap a)) := A1K H9 ty5
@[simp] theorem C2u {k : IntKind} (a : Int) (K : Value → WP) : A0 PR (convert 5 302 (.int k a)) K = K (.int .u64 (IntKind.u64.wrap a)) := A1K B9c ty5
theorem B1U : TI PR 185 Tryz.t185.desc 1 8 (.pointer none) := ⟨Tryz.underlying185, Tryz.t185, by kernel_rfl, rfl, rfl, rfl⟩
@[simp] theorem B47 (a : Option Addr) (x y : Operand) (K : Value → WP) (w : World) : A6 PR (N4 .eql 185 x y (.pointer a) (.pointer none)) K w = K (.bool a.isNone) w := B4B B1U
theorem C1f : TI PR 27 Tryz.t27.desc 1 8 (.pointer none) := ⟨Tryz.underlying27, Tryz.t27, by kernel_rfl, rfl, rfl, rfl⟩
@[simp] theorem B6L (a : Option Addr) (x y : Operand) (K : Value → WP) (w : World) : A6 PR (N4 .eql 27 x y (.pointer a) (.pointer none)) K w = K (.bool a.isNone) w := B4B C1f
theorem ty4 : TI PR 4 Tryz.t4.desc 1 1 (.bool false) := ⟨Tryz.underlying4, Tryz.t4, by kernel_rfl, rfl, rfl, rfl⟩
@[simp] theorem B8m (a0 b0 : Int) (a1 b1 : Int) (a2 b2 : Bool) (a3 b3 : Int) (x y : Operand) (K : Value → WP) (w : World) : A6 PR (N4 .eql 39 x y (.agg #[.int .i64 a0, .int .i64 a1, .bool a2, .int .i64 a3]) (.agg #[.int .i64 b0, .int .i64 b1, .bool b2, .int .i64 b3])) K w = K (.bool (decide (a0 = b0) && (decide (a1 = b1) && ((a2 == b2) && (decide (a3 = b3) && true))))) w := C2r (by kernel_rfl) (B5K (e := 9999) A2C (by kernel_rfl) (A4a rfl A99 rfl rfl rfl (A93 (e := 9998) A99) (A4a rfl H9 rfl rfl rfl (A93 (e := 9998) H9) (A4a rfl ty4 rfl rfl rfl (B8W (e := 9998) ty4) (A4a rfl H9 rfl rfl rfl (A93 (e := 9998) H9) (C01))))))
@[simp] theorem B69 (a : Option Addr) (x y : Operand) (K : Value → WP) (w : World) : A6 PR (N4 .neq 27 x y (.pointer a) (.pointer none)) K w = K (.bool (!a.isNone)) w := C0e C1f
theorem B7J {cs : Array Value} {v : Value} (h : cs[0]? = some v) (K : Value → WP) : A0 PR (Instr.field 39 (.agg cs) 0) K = K v := B9E (i := 0) A2C rfl A99 rfl h
theorem B9S : TI PR 101 Tryz.t100.desc 2 8 (.agg #[(.int .i32 0), (.int .u32 0)]) := ⟨Tryz.underlying101, Tryz.t101, by kernel_rfl, rfl, rfl, rfl⟩
theorem C13 : TI PR 99 Tryz.t98.desc 2 8 (.agg #[(.int .i32 0), (.int .u32 0)]) := ⟨Tryz.underlying99, Tryz.t99, by kernel_rfl, rfl, rfl, rfl⟩
@[simp] theorem C2x (b o : Nat) (K : Value → WP) : A0 PR (Instr.fieldAt 101 (.pointer (some ⟨b, o, none⟩)) 1) K = K (.pointer (some ⟨b, o, none⟩)) := B4 (i := 1) B9S rfl ⟨_, _, _, _, C13⟩ b o
@[simp] theorem C2k (b o : Nat) (K : Value → WP) : A0 PR (Instr.fieldAt 103 (.pointer (some ⟨b, o, none⟩)) 0) K = K (.pointer (some ⟨b, o, none⟩)) := B4 (i := 0) B1Y rfl ⟨_, _, _, _, B9S⟩ b o
@[simp] theorem C2m (b o : Nat) (K : Value → WP) : A0 PR (Instr.fieldAt 103 (.pointer (some ⟨b, o, none⟩)) 1) K = K (.pointer (some ⟨b, o + 2, none⟩)) := B4 (i := 1) B1Y rfl ⟨_, _, _, _, A9Z⟩ b o
@[simp] theorem C3A (b o : Nat) (K : Value → WP) : A0 PR (Instr.fieldAt 103 (.pointer (some ⟨b, o, none⟩)) 2) K = K (.pointer (some ⟨b, o + 3, none⟩)) := B4 (i := 2) B1Y rfl ⟨_, _, _, _, H9⟩ b o
@[simp] theorem C32 (b o : Nat) (K : Value → WP) : A0 PR (Instr.fieldAt 119 (.pointer (some ⟨b, o, none⟩)) 0) K = K (.pointer (some ⟨b, o, none⟩)) := B4 (i := 0) A4u rfl ⟨_, _, _, _, H9⟩ b o
@[simp] theorem C3n (b o : Nat) (K : Value → WP) : A0 PR (Instr.fieldAt 119 (.pointer (some ⟨b, o, none⟩)) 1) K = K (.pointer (some ⟨b, o + 1, none⟩)) := B4 (i := 1) A4u rfl ⟨_, _, _, _, H9⟩ b o
@[simp] theorem C3F (b o : Nat) (K : Value → WP) : A0 PR (Instr.fieldAt 119 (.pointer (some ⟨b, o, none⟩)) 2) K = K (.pointer (some ⟨b, o + 2, none⟩)) := B4 (i := 2) A4u rfl ⟨_, _, _, _, H9⟩ b o
@[simp] theorem C3x (b o : Nat) (K : Value → WP) : A0 PR (Instr.fieldAt 122 (.pointer (some ⟨b, o, none⟩)) 0) K = K (.pointer (some ⟨b, o, none⟩)) := B4 (i := 0) A6w rfl ⟨_, _, _, _, z6⟩ b o
@[simp] theorem C27 (b o : Nat) (K : Value → WP) : A0 PR (Instr.fieldAt 122 (.pointer (some ⟨b, o, none⟩)) 1) K = K (.pointer (some ⟨b, o + 1, none⟩)) := B4 (i := 1) A6w rfl ⟨_, _, _, _, z6⟩ b o
@[simp] theorem C3f (b o : Nat) (K : Value → WP) : A0 PR (Instr.fieldAt 122 (.pointer (some ⟨b, o, none⟩)) 2) K = K (.pointer (some ⟨b, o + 2, none⟩)) := B4 (i := 2) A6w rfl ⟨_, _, _, _, H9⟩ b o
@[simp] theorem C3E (b o : Nat) (K : Value → WP) : A0 PR (Instr.fieldAt 124 (.pointer (some ⟨b, o, none⟩)) 0) K = K (.pointer (some ⟨b, o, none⟩)) := B4 (i := 0) A6v rfl ⟨_, _, _, _, z6⟩ b o
@[simp] theorem C3j (b o : Nat) (K : Value → WP) : A0 PR (Instr.fieldAt 124 (.pointer (some ⟨b, o, none⟩)) 1) K = K (.pointer (some ⟨b, o + 1, none⟩)) := B4 (i := 1) A6v rfl ⟨_, _, _, _, z6⟩ b o
@[simp] theorem C2b (b o : Nat) (K : Value → WP) : A0 PR (Instr.fieldAt 124 (.pointer (some ⟨b, o, none⟩)) 2) K = K (.pointer (some ⟨b, o + 2, none⟩)) := B4 (i := 2) A6v rfl ⟨_, _, _, _, H9⟩ b o
@[simp] theorem C2y (b o : Nat) (K : Value → WP) : A0 PR (Instr.fieldAt 160 (.pointer (some ⟨b, o, none⟩)) 0) K = K (.pointer (some ⟨b, o, none⟩)) := B4 (i := 0) A0w rfl ⟨_, _, _, _, H9⟩ b o
@[simp] theorem C3K (b o : Nat) (K : Value → WP) : A0 PR (Instr.fieldAt 160 (.pointer (some ⟨b, o, none⟩)) 1) K = K (.pointer (some ⟨b, o + 1, none⟩)) := B4 (i := 1) A0w rfl ⟨_, _, _, _, z6⟩ b o
@[simp] theorem C2f (b o : Nat) (K : Value → WP) : A0 PR (Instr.fieldAt 160 (.pointer (some ⟨b, o, none⟩)) 2) K = K (.pointer (some ⟨b, o + 2, none⟩)) := B4 (i := 2) A0w rfl ⟨_, _, _, _, H9⟩ b o
@[simp] theorem C3W (b o : Nat) (K : Value → WP) : A0 PR (Instr.fieldAt 160 (.pointer (some ⟨b, o, none⟩)) 3) K = K (.pointer (some ⟨b, o + 3, none⟩)) := B4 (i := 3) A0w rfl ⟨_, _, _, _, H9⟩ b o
@[simp] theorem C3B (b o : Nat) (K : Value → WP) : A0 PR (Instr.fieldAt 187 (.pointer (some ⟨b, o, none⟩)) 0) K = K (.pointer (some ⟨b, o, none⟩)) := B4 (i := 0) A61 rfl ⟨_, _, _, _, B1U⟩ b o
@[simp] theorem C3a (b o : Nat) (K : Value → WP) : A0 PR (Instr.fieldAt 187 (.pointer (some ⟨b, o, none⟩)) 1) K = K (.pointer (some ⟨b, o + 1, none⟩)) := B4 (i := 1) A61 rfl ⟨_, _, _, _, A1n⟩ b o
@[simp] theorem C3V (b o : Nat) (K : Value → WP) : A0 PR (Instr.fieldAt 189 (.pointer (some ⟨b, o, none⟩)) 0) K = K (.pointer (some ⟨b, o, none⟩)) := B4 (i := 0) B9d rfl ⟨_, _, _, _, A61⟩ b o
@[simp] theorem C2a (b o : Nat) (K : Value → WP) : A0 PR (Instr.fieldAt 211 (.pointer (some ⟨b, o, none⟩)) 0) K = K (.pointer (some ⟨b, o, none⟩)) := B4 (i := 0) A4Z rfl ⟨_, _, _, _, A23⟩ b o
@[simp] theorem C3r (b o : Nat) (K : Value → WP) : A0 PR (Instr.fieldAt 211 (.pointer (some ⟨b, o, none⟩)) 1) K = K (.pointer (some ⟨b, o + 1, none⟩)) := B4 (i := 1) A4Z rfl ⟨_, _, _, _, H9⟩ b o
@[simp] theorem C3P (b o : Nat) (K : Value → WP) : A0 PR (Instr.fieldAt 217 (.pointer (some ⟨b, o, none⟩)) 0) K = K (.pointer (some ⟨b, o, none⟩)) := B4 (i := 0) B1e rfl ⟨_, _, _, _, A23⟩ b o
@[simp] theorem C3g (b o : Nat) (K : Value → WP) : A0 PR (Instr.fieldAt 217 (.pointer (some ⟨b, o, none⟩)) 1) K = K (.pointer (some ⟨b, o + 1, none⟩)) := B4 (i := 1) B1e rfl ⟨_, _, _, _, H9⟩ b o
@[simp] theorem C4e (b o : Nat) (K : Value → WP) : A0 PR (Instr.fieldAt 23 (.pointer (some ⟨b, o, none⟩)) 0) K = K (.pointer (some ⟨b, o, none⟩)) := B4 (i := 0) A2S rfl ⟨_, _, _, _, H9⟩ b o
@[simp] theorem C4f (b o : Nat) (K : Value → WP) : A0 PR (Instr.fieldAt 23 (.pointer (some ⟨b, o, none⟩)) 1) K = K (.pointer (some ⟨b, o + 1, none⟩)) := B4 (i := 1) A2S rfl ⟨_, _, _, _, H9⟩ b o
@[simp] theorem C4G (b o : Nat) (K : Value → WP) : A0 PR (Instr.fieldAt 23 (.pointer (some ⟨b, o, none⟩)) 2) K = K (.pointer (some ⟨b, o + 2, none⟩)) := B4 (i := 2) A2S rfl ⟨_, _, _, _, H9⟩ b o
@[simp] theorem C4H (b o : Nat) (K : Value → WP) : A0 PR (Instr.fieldAt 23 (.pointer (some ⟨b, o, none⟩)) 3) K = K (.pointer (some ⟨b, o + 3, none⟩)) := B4 (i := 3) A2S rfl ⟨_, _, _, _, H9⟩ b o
@[simp] theorem C5P (b o : Nat) (K : Value → WP) : A0 PR (Instr.fieldAt 23 (.pointer (some ⟨b, o, none⟩)) 4) K = K (.pointer (some ⟨b, o + 4, none⟩)) := B4 (i := 4) A2S rfl ⟨_, _, _, _, H9⟩ b o
theorem C2D : TI PR 25 Tryz.t25.desc 1 8 .nilFunc := ⟨Tryz.underlying25, Tryz.t25, by kernel_rfl, rfl, rfl, rfl⟩
@[simp] theorem C2Z (b o : Nat) (K : Value → WP) : A0 PR (Instr.fieldAt 296 (.pointer (some ⟨b, o, none⟩)) 0) K = K (.pointer (some ⟨b, o, none⟩)) := B4 (i := 0) A64 rfl ⟨_, _, _, _, C2D⟩ b o
@[simp] theorem C28 (b o : Nat) (K : Value → WP) : A0 PR (Instr.fieldAt 296 (.pointer (some ⟨b, o, none⟩)) 1) K = K (.pointer (some ⟨b, o + 1, none⟩)) := B4 (i := 1) A64 rfl ⟨_, _, _, _, A99⟩ b o
@[simp] theorem C4S (b o : Nat) (K : Value → WP) : A0 PR (Instr.fieldAt 39 (.pointer (some ⟨b, o, none⟩)) 0) K = K (.pointer (some ⟨b, o, none⟩)) := B4 (i := 0) A2C rfl ⟨_, _, _, _, A99⟩ b o
@[simp] theorem C5V (b o : Nat) (K : Value → WP) : A0 PR (Instr.fieldAt 39 (.pointer (some ⟨b, o, none⟩)) 2) K = K (.pointer (some ⟨b, o + 2, none⟩)) := B4 (i := 2) A2C rfl ⟨_, _, _, _, ty4⟩ b o
@[simp] theorem C4q (b o : Nat) (K : Value → WP) : A0 PR (Instr.fieldAt 39 (.pointer (some ⟨b, o, none⟩)) 3) K = K (.pointer (some ⟨b, o + 3, none⟩)) := B4 (i := 3) A2C rfl ⟨_, _, _, _, H9⟩ b o
@[simp] theorem C4s (b o : Nat) (K : Value → WP) : A0 PR (Instr.fieldAt 42 (.pointer (some ⟨b, o, none⟩)) 0) K = K (.pointer (some ⟨b, o, none⟩)) := B4 (i := 0) A3d rfl ⟨_, _, _, _, H9⟩ b o
@[simp] theorem C4w (b o : Nat) (K : Value → WP) : A0 PR (Instr.fieldAt 42 (.pointer (some ⟨b, o, none⟩)) 1) K = K (.pointer (some ⟨b, o + 1, none⟩)) := B4 (i := 1) A3d rfl ⟨_, _, _, _, z6⟩ b o
@[simp] theorem C34 (b o : Nat) (K : Value → WP) : A0 PR (Instr.fieldAt 42 (.pointer (some ⟨b, o, none⟩)) 2) K = K (.pointer (some ⟨b, o + 2, none⟩)) := B4 (i := 2) A3d rfl ⟨_, _, _, _, A8E⟩ b o
@[simp] theorem C4z (b o : Nat) (K : Value → WP) : A0 PR (Instr.fieldAt 42 (.pointer (some ⟨b, o, none⟩)) 3) K = K (.pointer (some ⟨b, o + 3, none⟩)) := B4 (i := 3) A3d rfl ⟨_, _, _, _, H9⟩ b o
theorem B5V : TI PR 44 Tryz.t43.desc 5 64 (.agg #[(.int .i64 0), (.string (ByteArray.mk #[])), (.slice none 0 0), (.int .i64 0), (.int .i64 0)]) := ⟨Tryz.underlying44, Tryz.t44, by kernel_rfl, rfl, rfl, rfl⟩
@[simp] theorem C4r (b o : Nat) (K : Value → WP) : A0 PR (Instr.fieldAt 44 (.pointer (some ⟨b, o, none⟩)) 0) K = K (.pointer (some ⟨b, o, none⟩)) := B4 (i := 0) B5V rfl ⟨_, _, _, _, A3d⟩ b o
@[simp] theorem C4K (b o : Nat) (K : Value → WP) : A0 PR (Instr.fieldAt 44 (.pointer (some ⟨b, o, none⟩)) 1) K = K (.pointer (some ⟨b, o + 4, none⟩)) := B4 (i := 1) B5V rfl ⟨_, _, _, _, H9⟩ b o
@[simp] theorem C5Q (b o : Nat) (K : Value → WP) : A0 PR (Instr.fieldAt 56 (.pointer (some ⟨b, o, none⟩)) 0) K = K (.pointer (some ⟨b, o, none⟩)) := B4 (i := 0) A1S rfl ⟨_, _, _, _, H9⟩ b o
@[simp] theorem C5L (b o : Nat) (K : Value → WP) : A0 PR (Instr.fieldAt 56 (.pointer (some ⟨b, o, none⟩)) 1) K = K (.pointer (some ⟨b, o + 1, none⟩)) := B4 (i := 1) A1S rfl ⟨_, _, _, _, z6⟩ b o
@[simp] theorem C5G (b o : Nat) (K : Value → WP) : A0 PR (Instr.fieldAt 56 (.pointer (some ⟨b, o, none⟩)) 2) K = K (.pointer (some ⟨b, o + 2, none⟩)) := B4 (i := 2) A1S rfl ⟨_, _, _, _, z6⟩ b o
@[simp] theorem C5K (b o : Nat) (K : Value → WP) : A0 PR (Instr.fieldAt 56 (.pointer (some ⟨b, o, none⟩)) 3) K = K (.pointer (some ⟨b, o + 3, none⟩)) := B4 (i := 3) A1S rfl ⟨_, _, _, _, H9⟩ b o
@[simp] theorem C4p (b o : Nat) (K : Value → WP) : A0 PR (Instr.fieldAt 56 (.pointer (some ⟨b, o, none⟩)) 4) K = K (.pointer (some ⟨b, o + 4, none⟩)) := B4 (i := 4) A1S rfl ⟨_, _, _, _, H9⟩ b o
@[simp] theorem C33 (b o : Nat) (K : Value → WP) : A0 PR (Instr.fieldAt 56 (.pointer (some ⟨b, o, none⟩)) 5) K = K (.pointer (some ⟨b, o + 5, none⟩)) := B4 (i := 5) A1S rfl ⟨_, _, _, _, H9⟩ b o
@[simp] theorem C4Z (b o : Nat) (K : Value → WP) : A0 PR (Instr.fieldAt 58 (.pointer (some ⟨b, o, none⟩)) 0) K = K (.pointer (some ⟨b, o, none⟩)) := B4 (i := 0) A5u rfl ⟨_, _, _, _, A1S⟩ b o
@[simp] theorem C4D (b o : Nat) (K : Value → WP) : A0 PR (Instr.fieldAt 58 (.pointer (some ⟨b, o, none⟩)) 1) K = K (.pointer (some ⟨b, o + 6, none⟩)) := B4 (i := 1) A5u rfl ⟨_, _, _, _, H9⟩ b o
@[simp] theorem C5C (b o : Nat) (K : Value → WP) : A0 PR (Instr.fieldAt 75 (.pointer (some ⟨b, o, none⟩)) 0) K = K (.pointer (some ⟨b, o, none⟩)) := B4 (i := 0) A8D rfl ⟨_, _, _, _, H9⟩ b o
@[simp] theorem C35 (b o : Nat) (K : Value → WP) : A0 PR (Instr.fieldAt 75 (.pointer (some ⟨b, o, none⟩)) 1) K = K (.pointer (some ⟨b, o + 1, none⟩)) := B4 (i := 1) A8D rfl ⟨_, _, _, _, H9⟩ b o
theorem C1J : TI PR 85 Tryz.t84.desc 1 8 (.agg #[(.pointer none)]) := ⟨Tryz.underlying85, Tryz.t85, by kernel_rfl, rfl, rfl, rfl⟩
theorem C6L : TI PR 83 Tryz.t83.desc 1 8 (.pointer none) := ⟨Tryz.underlying83, Tryz.t83, by kernel_rfl, rfl, rfl, rfl⟩
@[simp] theorem C4k (b o : Nat) (K : Value → WP) : A0 PR (Instr.fieldAt 85 (.pointer (some ⟨b, o, none⟩)) 2) K = K (.pointer (some ⟨b, o, none⟩)) := B4 (i := 2) C1J rfl ⟨_, _, _, _, C6L⟩ b o
@[simp] theorem C49 (b o : Nat) (K : Value → WP) : A0 PR (Instr.fieldAt 88 (.pointer (some ⟨b, o, none⟩)) 0) K = K (.pointer (some ⟨b, o, none⟩)) := B4 (i := 0) B46 rfl ⟨_, _, _, _, A2S⟩ b o
@[simp] theorem C4b (b o : Nat) (K : Value → WP) : A0 PR (Instr.fieldAt 88 (.pointer (some ⟨b, o, none⟩)) 1) K = K (.pointer (some ⟨b, o + 5, none⟩)) := B4 (i := 1) B46 rfl ⟨_, _, _, _, C1J⟩ b o
@[simp] theorem C4M (b o : Nat) (K : Value → WP) : A0 PR (Instr.fieldAt 88 (.pointer (some ⟨b, o, none⟩)) 2) K = K (.pointer (some ⟨b, o + 6, none⟩)) := B4 (i := 2) B46 rfl ⟨_, _, _, _, B1y⟩ b o
@[simp] theorem C5U (b o : Nat) (K : Value → WP) : A0 PR (Instr.fieldAt 92 (.pointer (some ⟨b, o, none⟩)) 0) K = K (.pointer (some ⟨b, o, none⟩)) := B4 (i := 0) B5c rfl ⟨_, _, _, _, A8E⟩ b o
@[simp] theorem C4E (b o : Nat) (K : Value → WP) : A0 PR (Instr.fieldAt 92 (.pointer (some ⟨b, o, none⟩)) 1) K = K (.pointer (some ⟨b, o + 1, none⟩)) := B4 (i := 1) B5c rfl ⟨_, _, _, _, B84⟩ b o
theorem C1k : TI PR 21 Tryz.t21.desc 1 4 (.int .i32 0) := ⟨Tryz.underlying21, Tryz.t21, by kernel_rfl, rfl, rfl, rfl⟩
@[simp] theorem C4y (b o : Nat) (K : Value → WP) : A0 PR (Instr.fieldAt 99 (.pointer (some ⟨b, o, none⟩)) 0) K = K (.pointer (some ⟨b, o, none⟩)) := B4 (i := 0) C13 rfl ⟨_, _, _, _, C1k⟩ b o
theorem Y1 {k1 : IntKind} {i : Int} {s : ByteArray} {b : UInt8} (h0 : 0 ≤ i) (h1 : s[i.toNat]? = some b) (K : Value → WP) : A0 PR (Instr.index 9 (.string s) (.int k1 i)) K = K (.int .u8 b.toNat) := B8A z6 h0 h1
@[simp] theorem C5c {k : IntKind} {i : Int} {len cap : Nat} (h0 : 0 ≤ i) (h1 : i < len) (b o : Nat) (K : Value → WP) : A0 PR (Instr.indexAt 127 (.slice (some ⟨b, o, none⟩) len cap) (.int k i)) K = K (.pointer (some ⟨b, o + i.toNat, none⟩)) := (by simpa using N8 (K := K) A1n ty5 h0 h1 b o)
@[simp] theorem C6M {k : IntKind} {i : Int} (h0 : 0 ≤ i) (h1 : i < (2 : Nat)) (b o : Nat) (K : Value → WP) : A0 PR (Instr.indexAt 153 (.pointer (some ⟨b, o, none⟩)) (.int k i)) K = K (.pointer (some ⟨b, o + i.toNat, none⟩)) := (by simpa using B5P (K := K) A8j H9 h0 h1 b o)
@[simp] theorem C5W {k : IntKind} {i : Int} {len cap : Nat} (h0 : 0 ≤ i) (h1 : i < len) (b o : Nat) (K : Value → WP) : A0 PR (Instr.indexAt 176 (.slice (some ⟨b, o, none⟩) len cap) (.int k i)) K = K (.pointer (some ⟨b, o + i.toNat * 4, none⟩)) := (N8 (K := K) B4p A0w h0 h1 b o)
@[simp] theorem C5f {k : IntKind} {i : Int} {len cap : Nat} (h0 : 0 ≤ i) (h1 : i < len) (b o : Nat) (K : Value → WP) : A0 PR (Instr.indexAt 208 (.slice (some ⟨b, o, none⟩) len cap) (.int k i)) K = K (.pointer (some ⟨b, o + i.toNat * 2, none⟩)) := (N8 (K := K) B1T A4Z h0 h1 b o)
@[simp] theorem C6V {k : IntKind} {i : Int} {len cap : Nat} (h0 : 0 ≤ i) (h1 : i < len) (b o : Nat) (K : Value → WP) : A0 PR (Instr.indexAt 229 (.slice (some ⟨b, o, none⟩) len cap) (.int k i)) K = K (.pointer (some ⟨b, o + i.toNat * 2, none⟩)) := (N8 (K := K) B4n A8j h0 h1 b o)
theorem C2C : TI PR 24 Tryz.t24.desc 1 24 (.slice none 0 0) := ⟨Tryz.underlying24, Tryz.t24, by kernel_rfl, rfl, rfl, rfl⟩
@[simp] theorem C6j {k : IntKind} {i : Int} {len cap : Nat} (h0 : 0 ≤ i) (h1 : i < len) (b o : Nat) (K : Value → WP) : A0 PR (Instr.indexAt 24 (.slice (some ⟨b, o, none⟩) len cap) (.int k i)) K = K (.pointer (some ⟨b, o + i.toNat * 5, none⟩)) := (N8 (K := K) C2C B5V h0 h1 b o)
theorem B50 : TI PR 307 Tryz.t90.desc 1 24 (.slice none 0 0) := ⟨Tryz.underlying307, Tryz.t307, by kernel_rfl, rfl, rfl, rfl⟩
@[simp] theorem C57 {k : IntKind} {i : Int} {len cap : Nat} (h0 : 0 ≤ i) (h1 : i < len) (b o : Nat) (K : Value → WP) : A0 PR (Instr.indexAt 307 (.slice (some ⟨b, o, none⟩) len cap) (.int k i)) K = K (.pointer (some ⟨b, o + i.toNat * 2, none⟩)) := (N8 (K := K) B50 B1e h0 h1 b o)
@[simp] theorem C6q {k : IntKind} {i : Int} {len cap : Nat} (h0 : 0 ≤ i) (h1 : i < len) (b o : Nat) (K : Value → WP) : A0 PR (Instr.indexAt 32 (.slice (some ⟨b, o, none⟩) len cap) (.int k i)) K = K (.pointer (some ⟨b, o + i.toNat * 2, none⟩)) := (N8 (K := K) A8E A8D h0 h1 b o)
@[simp] theorem C6Y {k : IntKind} {i : Int} {len cap : Nat} (h0 : 0 ≤ i) (h1 : i < len) (b o : Nat) (K : Value → WP) : A0 PR (Instr.indexAt 320 (.slice (some ⟨b, o, none⟩) len cap) (.int k i)) K = K (.pointer (some ⟨b, o + i.toNat * 2, none⟩)) := (N8 (K := K) B5F A64 h0 h1 b o)
@[simp] theorem C6v {k : IntKind} {i : Int} {len cap : Nat} (h0 : 0 ≤ i) (h1 : i < len) (b o : Nat) (K : Value → WP) : A0 PR (Instr.indexAt 34 (.slice (some ⟨b, o, none⟩) len cap) (.int k i)) K = K (.pointer (some ⟨b, o + i.toNat, none⟩)) := (by simpa using N8 (K := K) B4r H9 h0 h1 b o)
@[simp] theorem C6d {k : IntKind} {i : Int} {len cap : Nat} (h0 : 0 ≤ i) (h1 : i < len) (b o : Nat) (K : Value → WP) : A0 PR (Instr.indexAt 48 (.slice (some ⟨b, o, none⟩) len cap) (.int k i)) K = K (.pointer (some ⟨b, o + i.toNat, none⟩)) := (by simpa using N8 (K := K) B5C z6 h0 h1 b o)
@[simp] theorem C6s {k : IntKind} {i : Int} {len cap : Nat} (h0 : 0 ≤ i) (h1 : i < len) (b o : Nat) (K : Value → WP) : A0 PR (Instr.indexAt 76 (.slice (some ⟨b, o, none⟩) len cap) (.int k i)) K = K (.pointer (some ⟨b, o + i.toNat * 4, none⟩)) := (N8 (K := K) B79 A3d h0 h1 b o)
@[simp] theorem C6k {k : IntKind} {i : Int} {len cap : Nat} (h0 : 0 ≤ i) (h1 : i < len) (b o : Nat) (K : Value → WP) : A0 PR (Instr.indexAt 86 (.slice (some ⟨b, o, none⟩) len cap) (.int k i)) K = K (.pointer (some ⟨b, o + i.toNat, none⟩)) := (by simpa using N8 (K := K) B1y B87 h0 h1 b o)
@[simp] theorem C6f {k : IntKind} {i : Int} {len cap : Nat} (h0 : 0 ≤ i) (h1 : i < len) (b o : Nat) (K : Value → WP) : A0 PR (Instr.indexAt 94 (.slice (some ⟨b, o, none⟩) len cap) (.int k i)) K = K (.pointer (some ⟨b, o + i.toNat * 4, none⟩)) := (N8 (K := K) A9Z A0w h0 h1 b o)
@[simp] theorem C5S (a : Option Addr) (n c : Nat) (K : Value → WP) : A0 PR (A8 .len #[127] 0 [.slice a n c]) K = K (.int .i64 n) := m7 A1n a n c
@[simp] theorem C5B (a : Option Addr) (n c : Nat) (K : Value → WP) : A0 PR (A8 .len #[176] 0 [.slice a n c]) K = K (.int .i64 n) := m7 B4p a n c
@[simp] theorem C4N (a : Option Addr) (n c : Nat) (K : Value → WP) : A0 PR (A8 .len #[208] 0 [.slice a n c]) K = K (.int .i64 n) := m7 B1T a n c
@[simp] theorem C5F (a : Option Addr) (n c : Nat) (K : Value → WP) : A0 PR (A8 .len #[229] 0 [.slice a n c]) K = K (.int .i64 n) := m7 B4n a n c
@[simp] theorem C6C (a : Option Addr) (n c : Nat) (K : Value → WP) : A0 PR (A8 .len #[24] 0 [.slice a n c]) K = K (.int .i64 n) := m7 C2C a n c
@[simp] theorem C40 (a : Option Addr) (n c : Nat) (K : Value → WP) : A0 PR (A8 .len #[307] 0 [.slice a n c]) K = K (.int .i64 n) := m7 B50 a n c
@[simp] theorem C5q (a : Option Addr) (n c : Nat) (K : Value → WP) : A0 PR (A8 .len #[32] 0 [.slice a n c]) K = K (.int .i64 n) := m7 A8E a n c
@[simp] theorem C4g (a : Option Addr) (n c : Nat) (K : Value → WP) : A0 PR (A8 .len #[320] 0 [.slice a n c]) K = K (.int .i64 n) := m7 B5F a n c
@[simp] theorem C5s (a : Option Addr) (n c : Nat) (K : Value → WP) : A0 PR (A8 .len #[34] 0 [.slice a n c]) K = K (.int .i64 n) := m7 B4r a n c
@[simp] theorem C5e (a : Option Addr) (n c : Nat) (K : Value → WP) : A0 PR (A8 .len #[48] 0 [.slice a n c]) K = K (.int .i64 n) := m7 B5C a n c
@[simp] theorem C6U (a : Option Addr) (n c : Nat) (K : Value → WP) : A0 PR (A8 .len #[76] 0 [.slice a n c]) K = K (.int .i64 n) := m7 B79 a n c
@[simp] theorem C5x (a : Option Addr) (n c : Nat) (K : Value → WP) : A0 PR (A8 .len #[86] 0 [.slice a n c]) K = K (.int .i64 n) := m7 B1y a n c
@[simp] theorem C6b (s : ByteArray) (K : Value → WP) : A0 PR (A8 .len #[9] 0 [.string s]) K = K (.int .i64 s.size) := C1y z6 s
@[simp] theorem C5m (a : Option Addr) (n c : Nat) (K : Value → WP) : A0 PR (A8 .len #[94] 0 [.slice a n c]) K = K (.int .i64 n) := m7 A9Z a n c
@[simp] theorem C6E (a : Addr) (K : Value → WP) (w : World) : A6 PR (Instr.loadAt 129 (.pointer (some a))) K w = rdc (w.cell? a) K (far PR 129 a K) w := B1r A23 rfl a
@[simp] theorem C63 (a : Addr) (K : Value → WP) (w : World) : A6 PR (Instr.loadAt 3 (.pointer (some a))) K w = rdc (w.cell? a) K (far PR 3 a K) w := B1r H9 rfl a
@[simp] theorem C5j (v : Value) (K : Value → WP) : A0 PR (Instr.makeInterface 246 v) K = K (.iface 246 v) := B0V B9k (by intro ms h; cases h) v
@[simp] theorem C53 (v : Value) (K : Value → WP) : A0 PR (Instr.makeInterface 247 v) K = K (.iface 247 v) := B0V B9s (by intro ms h; cases h) v
@[simp] theorem C3U (b o : Nat) (K : Value → WP) : A0 PR (Instr.sliceAt 126 (.pointer (some ⟨b, o, none⟩)) none none none) K = K (.slice (some ⟨b, o, none⟩) 38 38) := B66 B4b ty5 b o
@[simp] theorem C6p {k1 : IntKind} {hi : Int} {s : ByteArray} (h0 : 0 ≤ hi) (h1 : hi ≤ s.size) (K : Value → WP) : A0 PR (Instr.sliceAt 9 (.string s) none (some (.int k1 hi)) none) K = K (.string (s.extract 0 hi.toNat)) := B6S z6 h0 h1
@[simp] theorem C6n {k1 : IntKind} {lo : Int} {s : ByteArray} (h0 : 0 ≤ lo) (h1 : lo ≤ s.size) (K : Value → WP) : A0 PR (Instr.sliceAt 9 (.string s) (some (.int k1 lo)) none none) K = K (.string (s.extract lo.toNat s.size)) := B7q z6 h0 h1
@[simp] theorem C66 {k1 k2 : IntKind} {lo hi : Int} {s : ByteArray} (h0 : 0 ≤ lo) (h1 : lo ≤ hi) (h2 : hi ≤ s.size) (K : Value → WP) : A0 PR (Instr.sliceAt 9 (.string s) (some (.int k1 lo)) (some (.int k2 hi)) none) K = K (.string (s.extract lo.toNat hi.toNat)) := B9J z6 h0 h1 h2
theorem B9U : TI PR 151 Tryz.t151.desc 1 8 (.map none) := ⟨Tryz.underlying151, Tryz.t151, by kernel_rfl, rfl, rfl, rfl⟩
theorem B1b : TI PR 180 Tryz.t179.desc 1 16 .nilIface := ⟨Tryz.underlying180, Tryz.t180, by kernel_rfl, rfl, rfl, rfl⟩
theorem B1c : TI PR 181 Tryz.t181.desc 1 8 (.map none) := ⟨Tryz.underlying181, Tryz.t181, by kernel_rfl, rfl, rfl, rfl⟩
end Go.Proofs.YtpbmephflllolaaGreat
namespace Go.Proofs.YtpbmephflllolaaGreat
open Go
@[simp] theorem B6H (a b : ByteArray) : (a == b) = decide (a = b) := by
 obtain ⟨x⟩ := a; obtain ⟨y⟩ := b
 have h : ((⟨x⟩ : ByteArray) == ⟨y⟩) = (x == y) := rfl
 rw [h]
 by_cases e : x = y
 ·subst e; simp
 ·simp [e]
@[simp] theorem C2s (a : Array UInt8) : (ByteArray.mk a).size = a.size := rfl
theorem B13 (ns : List Int) : (x3 ns).data.toList = ns.map fun n => UInt8.ofNat n.toNat := by
 have : ∀ (l : List Int) (r : ByteArray), (l.foldl (fun r n => r.push (UInt8.ofNat n.toNat)) r).data.toList = r.data.toList ++ l.map fun n => UInt8.ofNat n.toNat := by
  intro l
  induction l with
  | nil => intro r; simp
  | cons x l ih => intro r; rw [List.foldl_cons, ih]; simp [ByteArray.push]
 have h := this ns ByteArray.empty
 rw [show ByteArray.empty.data.toList = [] from rfl, List.nil_append] at h
 exact h
@[simp] theorem C17 (ns : List Int) : (x3 ns).size = ns.length := by
 have := congrArg List.length (B13 ns)
 rw [List.length_map] at this
 exact this
class TS (t : TypeId) (z : outParam Value) : Prop where
 ti : ∃ d m, TI PR t d 1 m z ∧ N2 d = false
class TG (t : TypeId) (n : outParam Nat) (z : outParam Value) : Prop where
 ti : ∃ d m, TI PR t d n m z ∧ N2 d = true
class TA (t : TypeId) (n : outParam Nat) (z : outParam Value) : Prop where
 ti : ∃ d m, TI PR t d n m z
class SL (t : TypeId) (e : outParam TypeId) (k by' : outParam Nat) (z : outParam Value) : Prop where
 ti : (∃ n m z', TI PR t (.slice e) n m z') ∧ (∃ d, TI PR e d k by' z) ∧ z.cells.size = k
instance TS.ta {t : TypeId} {z : Value} [h : TS t z] : TA t 1 z := ⟨let ⟨d, m, h, _⟩ := h.ti; ⟨d, m, h⟩⟩
instance TG.ta {t : TypeId} {n : Nat} {z : Value} [h : TG t n z] : TA t n z := ⟨let ⟨d, m, h, _⟩ := h.ti; ⟨d, m, h⟩⟩
def rdq (x : Option (List Value)) (G : List Value → WP) (F : WP) : WP := match x with | some l => G l | none => F
@[simp] theorem B2C (l : List Value) (G : List Value → WP) (F : WP) : rdq (some l) G F = G l := id rfl
@[congr] theorem C5N {x x' : Option (List Value)} {G : List Value → WP} {F : WP} (h : x = x') {q : Nat} (hq : V6 = q) : rdq x G F = rdq x' G F := by rw [h]
@[simp] theorem C6K (xs : List Value) : V2 xs 0 0 = some [] := by simp [V2]
@[simp] theorem C3c (x : Value) (xs : List Value) (n : Nat) : V2 (x :: xs) 0 (n + 1) = (V2 xs 0 n).map (x :: ·) := by
 simp only [V2, Nat.zero_add, List.length_cons, List.drop_zero, List.take_succ_cons]
 by_cases h : n ≤ xs.length
 ·rw [if_pos h, if_pos (by omega)]; rfl
 ·rw [if_neg h, if_neg (by omega)]; rfl
theorem B0c {α : Type} {l : List α} {f : α → List Value} {k i : Nat} {x : α} (hk : ∀ x, (f x).length = k) (hx : l[i]? = some x) : V2 (l.flatMap f) (i * k) k = some (f x) := by
 obtain ⟨hlt, hx'⟩ := List.getElem?_eq_some_iff.1 hx
 have h1 : (i + 1) * k ≤ l.length * k := Nat.mul_le_mul_right k hlt
 rw [Nat.add_mul] at h1
 rw [V2, if_pos (by rw [Q6 hk]; omega), A6Q hk, List.drop_eq_getElem_cons hlt, List.flatMap_cons, hx']
 rw [List.take_left' (hk x)]
inductive Sel (r : Res) : List Res → List Res → Prop where
 | here {H : List Res} : Sel r (r :: H) H
 | there {x : Res} {H H' : List Res} : Sel r H H' → Sel r (x :: H) (x :: H')
theorem Sel.perm {r : Res} {H Hr : List Res} (h : Sel r H Hr) : H.Perm (r :: Hr) := by
 induction h with
 | here => exact .refl _
 | there _ ih => exact (ih.cons _).trans (.swap ..)
theorem Sel.sub {r : Res} {H Hr : List Res} (h : Sel r H Hr) : Hr.Sublist H := by
 induction h with
 | here => exact List.sublist_cons_self ..
 | there _ ih => exact ih.cons_cons _
theorem A1 {r : Res} {H : List Res} : r ∈ r :: H := List.mem_cons_self ..
theorem uH {r r' : Res} {H : List Res} : Up r r' (r :: H) (r' :: H) := Up.here
theorem uT {r r' x : Res} {H H' : List Res} (h : Up r r' H H') : Up r r' (x :: H) (x :: H') := Up.there h
theorem A2 {r x : Res} {H : List Res} (h : r ∈ H) : r ∈ x :: H := List.mem_cons_of_mem _ h
inductive Sels : List Res → List Res → Prop where
 | nil {H : List Res} : Sels [] H
 | cons {r : Res} {rs H Hr : List Res} : Sel r H Hr → Sels rs Hr → Sels (r :: rs) H
theorem Sels.sub {rs H : List Res} (h : Sels rs H) : ∃ H', H.Perm H' ∧ rs.Sublist H' := by
 induction h with
 | nil => exact ⟨_, .refl _, List.nil_sublist _⟩
 | cons h1 _ ih => obtain ⟨H', h2, h3⟩ := ih; exact ⟨_ :: H', h1.perm.trans (h2.cons _), h3.cons_cons _⟩
theorem Sels.lw {κ : Bool} {S : List Nat} {w0 w : World} {rs H : List Res} (h : Sels rs H) (hw : LW κ S w0 H w) : LW κ S w0 rs w := let ⟨_, h1, h2⟩ := h.sub; (hw.perm h1).sub h2
theorem Sels.tw {κ : Bool} {S : List Nat} {w0 : World} {rs H : List Res} {K : WP} (h : Sels rs H) (hk : TW κ S w0 rs K) : TW κ S w0 H K := fun w hw => hk w (h.lw hw)
inductive Part : List Res → List Res → List Res → Prop where
 | nil {H : List Res} : Part [] H H
 | cons {r : Res} {rs H H1 Hk : List Res} : Sel r H H1 → Part rs H1 Hk → Part (r :: rs) H Hk
theorem Part.perm {Hc H Hk : List Res} (h : Part Hc H Hk) : H.Perm (Hc ++ Hk) := by
 induction h with
 | nil => exact .refl _
 | cons h1 _ ih => exact h1.perm.trans (ih.cons _)
theorem D8 {κ : Bool} {X : Nat → Prop} {S : List Nat} {w0 : World} {H Hk Hc : List Res} {K : Value → WP} {f : FuncId} {args : List Value} {α : Type} {φ : α → Value → Prop} {Hn : α → List Res} (he : A9 PR f)
  (hf : ∀ w, LW κ S w0 (Hc ++ Hk) w → LW false (B3 Hc) w Hc w → Fn PR B5 f args.toArray w (Rn (B3 Hc) w φ Hn)) (hp : Part Hc H Hk) (hK : ∀ a v, φ a v → TW κ S w0 (Hn a ++ Hk) (K v)) : TW κ S w0 H (B2 PR X f args K) :=
 A88 he hp.perm (fun w hw => let h := hw.perm hp.perm; hf w h (h.sub (List.sublist_append_left _ _)).self) hK
theorem D4 {κ : Bool} {S : List Nat} {w0 : World} {H : List Res} {α : Type} {φ : α → Value → Prop} {Hn : α → List Res} {v : Value} (a : α) (h : φ a v) (hs : Sels (Hn a) H) : TW κ S w0 H (Rn S w0 φ Hn v) := fun w hw => ⟨a, h, hs.lw hw.low⟩
theorem C2j {κ : Bool} {S : List Nat} {w0 : World} {H : List Res} {F : Value → Value → WP} {A : (Value → Value → WP) → WP} {α : Type} (φ : α → Prop) (Hh : α → List Res) (v1 v2 : α → Value) (hF : ∀ x, φ x → TW κ S w0 (Hh x) (F (v1 x) (v2 x)))
  (hA : ∀ J : Value → Value → WP, (∀ x, φ x → TW κ S w0 (Hh x) (J (v1 x) (v2 x))) → TW κ S w0 H (A J)) : TW κ S w0 H (kt (n := 2) F A) := hA F hF
theorem G1.form {w : World} {v : Value} {n : Nat} {xs : List Value} (h : G1 w v n xs) : ∃ a c, v = .slice a n c ∧ (0 < n → ∃ b o, a = some ⟨b, o, none⟩ ∧ K8 w b o xs) := by
 rcases h with ⟨rfl, rfl, a, c, rfl⟩ | ⟨b, o, c, rfl, hr⟩
 ·exact ⟨a, c, rfl, fun h => absurd h (by omega)⟩
 ·exact ⟨_, c, rfl, fun _ => ⟨b, o, rfl, hr⟩⟩
theorem K8.at {w : World} {b o k : Nat} {α : Type} {l : List α} {f : α → List Value} (h : K8 w b o (l.flatMap f)) (hk : ∀ x, (f x).length = k) {i : Nat} {x : α} (hx : l[i]? = some x) : d4 w b (o + i * k) k = some (f x) := by
 have h1 : K8 w b (o + i * k) (f x) := fun j hj => by
  rw [hk] at hj
  have h2 := A2g hk l i j hj
  rw [hx] at h2
  have h3 : (l.flatMap f)[i * k + j]? = some ((f x)[j]'(by rw [hk]; exact hj)) := by rw [h2]; simp [List.getElem?_eq_getElem, hk, hj]
  rw [Nat.add_assoc, h.get h3]; simp [List.getElem?_eq_getElem, hk, hj]
 have := A13 h1
 rwa [hk] at this
theorem K8.cellAt {w : World} {b o k : Nat} {α : Type} {l : List α} {f : α → List Value} (h : K8 w b o (l.flatMap f)) (hk : ∀ x, (f x).length = k) {i j : Nat} {x : α} {u : Value} (hx : l[i]? = some x) (hu : (f x)[j]? = some u) : w.cell? ⟨b, o + i * k + j, none⟩ = some u := by
 have hj : j < k := by rw [← hk x]; exact (List.getElem?_eq_some_iff.1 hu).1
 have h2 := A2g hk l i j hj
 rw [hx] at h2
 rw [Nat.add_assoc]
 exact h.get (by rw [h2]; exact hu)
theorem K8.one {w : World} {b o : Nat} {α : Type} {l : List α} {f : α → Value} (h : K8 w b o (l.map f)) {i : Nat} {x : α} (hx : l[i]? = some x) : w.cell? ⟨b, o + i, none⟩ = some (f x) := h.get (by simp [hx])
section
variable {κ : Bool} {X : Nat → Prop} {S : List Nat} {w0 : World} {H H' Hr : List Res} {K : Value → WP} {K0 : WP} {t e : TypeId} {n k by' : Nat} {z : Value}
theorem C3v {s : Sem Value} {v : Value} (h : ∀ w, LW κ S w0 H w → A6 PR s K w = K v w) : TW κ S w0 H (A6 PR s K) = TW κ S w0 H (K v) := TW.congr h
theorem B6D {s : Sem Value} {v : Value} (hK : TW κ S w0 H (K v)) (h : ∀ w, LW κ S w0 H w → A6 PR s K w = K v w) : TW κ S w0 H (A6 PR s K) := fun w hw => by rw [h w hw]; exact hK w hw
theorem x9 {v : Value} {q : Nat} {xs : List Value} (hm : Res.own e k v q xs ∈ H) (hq : 0 < q) (h : ∀ g c, v = .slice (some ⟨g, 0, none⟩) q c → TW κ S w0 H K0) : TW κ S w0 H K0 := fun w hw => by
 rcases (hw.hold _ hm).2 with ⟨_, rfl⟩ | ⟨g, c, _, rfl, _⟩
 ·omega
 ·exact h g c rfl w hw
@[simp] theorem C6c [h : TS t z] {b o : Nat} {c : Array Value} {T : TypeId} {f : Nat × Nat} (hm : Res.pt b (.cells c T f) ∈ H) :
  TW κ S w0 H (A6 PR (Instr.loadAt t (.pointer (some ⟨b, o, none⟩))) K) = TW κ S w0 H (rdc c[o]? K (far PR t ⟨b, o, none⟩ K)) := let ⟨_, _, h, hd⟩ := h.ti; B91 h hd hm
@[simp] theorem C5z [h : TS t z] {g o : Nat} {k q c : Nat} {xs : List Value} (hm : Res.own e k (.slice (some ⟨g, 0, none⟩) q c) q xs ∈ H) :
  TW κ S w0 H (A6 PR (Instr.loadAt t (.pointer (some ⟨g, o, none⟩))) K) = TW κ S w0 H (rdc xs[o]? K (A6 PR (Instr.loadAt t (.pointer (some ⟨g, o, none⟩))) K)) := by
 cases hv : xs[o]? with
 | none => rfl
 | some v => exact let ⟨_, _, h, hd⟩ := h.ti; B83 h hd hm hv
@[simp] theorem C5v [h : TS t z] {b o : Nat} {v : Value} (hc : w0.cell? ⟨b, o, none⟩ = some v) (hS : b ∉ S) :
  TW κ S w0 H (A6 PR (Instr.loadAt t (.pointer (some ⟨b, o, none⟩))) K) = TW κ S w0 H (K v) := let ⟨_, _, h, hd⟩ := h.ti; B8J h hd hc hS
@[simp] theorem C50 [h : TG t n z] {b o : Nat} {c : Array Value} {T : TypeId} {f : Nat × Nat} (hm : Res.pt b (.cells c T f) ∈ H) :
  TW κ S w0 H (A6 PR (Instr.loadAt t (.pointer (some ⟨b, o, none⟩))) K) = TW κ S w0 H (rdq (V2 c.toList o n) (fun l => K (.agg l.toArray)) (A6 PR (Instr.loadAt t (.pointer (some ⟨b, o, none⟩))) K)) := by
 cases hl : V2 c.toList o n with
 | none => rfl
 | some l => exact let ⟨_, _, h, hd⟩ := h.ti; B8l h hd hm hl
@[simp] theorem C41 [h : TG t n z] {g o : Nat} {k q c : Nat} {xs : List Value} (hm : Res.own e k (.slice (some ⟨g, 0, none⟩) q c) q xs ∈ H) :
  TW κ S w0 H (A6 PR (Instr.loadAt t (.pointer (some ⟨g, o, none⟩))) K) = TW κ S w0 H (rdq (V2 xs o n) (fun l => K (.agg l.toArray)) (A6 PR (Instr.loadAt t (.pointer (some ⟨g, o, none⟩))) K)) := by
 cases hl : V2 xs o n with
 | none => rfl
 | some l => exact let ⟨_, _, h, hd⟩ := h.ti; B60 h hd hm hl
@[simp] theorem C4C [h : TG t n z] {b o : Nat} {l : List Value} (hc : d4 w0 b o n = some l) (hS : b ∉ S) :
  TW κ S w0 H (A6 PR (Instr.loadAt t (.pointer (some ⟨b, o, none⟩))) K) = TW κ S w0 H (K (.agg l.toArray)) := let ⟨_, _, h, hd⟩ := h.ti; B6x h hd hc hS
@[simp] theorem C1C [h : TS t z] {b o : Nat} {c : Array Value} {T : TypeId} {f : Nat × Nat} (hm : Res.pt b (.cells c T f) ∈ H) {v : Value} (hv : c[o]? = some v) :
  TW κ S w0 H (A6 PR (E3 [.c t (.pointer (some ⟨b, o, none⟩))]) K) = TW κ S w0 H (K v) := let ⟨_, _, h, hd⟩ := h.ti; C11 h hd hm hv
@[simp] theorem C6w [h : TG t n z] {b o : Nat} {c : Array Value} {T : TypeId} {f : Nat × Nat} (hm : Res.pt b (.cells c T f) ∈ H) :
  TW κ S w0 H (A6 PR (E3 [.c t (.pointer (some ⟨b, o, none⟩))]) K) = TW κ S w0 H (rdq (V2 c.toList o n) (fun l => K (.agg l.toArray)) (A6 PR (E3 [.c t (.pointer (some ⟨b, o, none⟩))]) K)) := by
 cases hl : V2 c.toList o n with
 | none => rfl
 | some l => exact let ⟨_, _, h, hd⟩ := h.ti; C16 h hd hm hl
@[simp] theorem C6l [h : TG t n z] {b o : Nat} {c : Array Value} {T : TypeId} {f : Nat × Nat} {x : Value} (hm : Res.pt b (.cells c T f) ∈ H) :
  TW κ S w0 H (A6 PR (E3 [.c t (.pointer (some ⟨b, o, none⟩)), .v x]) K) = TW κ S w0 H (rdq (V2 c.toList o n) (fun l => K (.tuple #[.agg l.toArray, x])) (A6 PR (E3 [.c t (.pointer (some ⟨b, o, none⟩)), .v x]) K)) := by
 cases hl : V2 c.toList o n with
 | none => rfl
 | some l =>
   obtain ⟨_, _, h, hd⟩ := h.ti
   refine TW.congr fun w hw => ?_
   rw [B2C]
   have hr := A12 hl (K8.bl (hw.pt hm)); have h2 := A0f hr
   refine S5 ?_ K
   have := A2u h hd h2.1 h2.2
   simp only [Instr.loadAt, Instr.sureAddr, Sem.run_bind, Sem.run_pure, Result.andThen_ok] at this
   simp [E3, A2U, RV.sem, asAddr, this, one]
@[simp] theorem C6Z [h : TG t n z] {b o : Nat} {c : Array Value} {T : TypeId} {f : Nat × Nat} {x y : Value} (hm : Res.pt b (.cells c T f) ∈ H) :
  TW κ S w0 H (A6 PR (E3 [.c t (.pointer (some ⟨b, o, none⟩)), .v x, .v y]) K) = TW κ S w0 H (rdq (V2 c.toList o n) (fun l => K (.tuple #[.agg l.toArray, x, y])) (A6 PR (E3 [.c t (.pointer (some ⟨b, o, none⟩)), .v x, .v y]) K)) := by
 cases hl : V2 c.toList o n with
 | none => rfl
 | some l =>
   obtain ⟨_, _, h, hd⟩ := h.ti
   refine TW.congr fun w hw => ?_
   rw [B2C]
   have hr := A12 hl (K8.bl (hw.pt hm)); have h2 := A0f hr
   refine S5 ?_ K
   have := A2u h hd h2.1 h2.2
   simp only [Instr.loadAt, Instr.sureAddr, Sem.run_bind, Sem.run_pure, Result.andThen_ok] at this
   simp [E3, A2U, RV.sem, asAddr, this, one]
@[simp] theorem C3k [h : TS t z] {b o : Nat} {c : Array Value} {T : TypeId} {f : Nat × Nat} {v : Value} {l : List Rd} (hm : Res.pt b (.cells c T f) ∈ H) (hv : c[o]? = some v) :
  TW κ S w0 H (watch PR ((none, Instr.loadAt t (.pointer (some ⟨b, o, none⟩)), v) :: l) K0) = TW κ S w0 H (watch PR l K0) := let ⟨_, _, h, hd⟩ := h.ti; A9s fun w hw => w8 h hd (by rw [G7 (hw.pt hm)]; exact hv)
@[simp] theorem C2P [h : TS t z] {b o : Nat} {v : Value} {l : List Rd} (hc : w0.cell? ⟨b, o, none⟩ = some v) (hS : b ∉ S) :
  TW κ S w0 H (watch PR ((none, Instr.loadAt t (.pointer (some ⟨b, o, none⟩)), v) :: l) K0) = TW κ S w0 H (watch PR l K0) := let ⟨_, _, h, hd⟩ := h.ti; A9s fun w hw => w8 h hd (hw.ks.cell hS hc)
@[simp] theorem C7V [h : TA t n z] {v : Value} {b o : Nat} {c : Array Value} {T : TypeId} (hv : v.cells.size = n)
  (hu : Up (.pt b (.cells c T (0, 0))) (.pt b (.cells (E2 c o v.cells.toList) T (0, 0))) H H') (hs : o + n ≤ c.size) (hp : v.cells.toList.all plain = true) :
  TW κ S w0 H (C3 PR X (Instr.storeAt t (.pointer (some ⟨b, o, none⟩)) v) K0) = TW κ S w0 H' K0 := let ⟨_, _, h⟩ := h.ti; C5Y h hv hu hs hp
theorem A4x [h : TA t n z] {v : Value} {g o q c : Nat} {xs : List Value} (hu : Up (.own e k (.slice (some ⟨g, 0, none⟩) q c) q xs) (.own e k (.slice (some ⟨g, 0, none⟩) q c) q (A3j xs o v.cells.toList)) H H')
  (hv : v.cells.size = n) (hs : o + n ≤ xs.length) (hp : v.cells.toList.all plain = true) (hK : TW κ S w0 H' K0) :
  TW κ S w0 H (C3 PR X (Instr.storeAt t (.pointer (some ⟨g, o, none⟩)) v) K0) := let ⟨_, _, h⟩ := h.ti; B8V h hv hu hs hp hK
theorem A4 [h : TA t n z] (hK : ∀ b, TW κ S w0 (.pt b (.cells z.cells t) :: H) (K (.pointer (some ⟨b, 0, none⟩)))) : TW κ S w0 H (B1 PR X (Instr.alloc t true (.tuple #[])) K) := let ⟨_, _, h⟩ := h.ti; C5d h hK
theorem C1l {k1 k2 : IntKind} {l : Int} [h : SL t e k by' z] (h0 : 0 ≤ l) (hb : l * by' ≤ 140737488355328) (hc : l ≤ 9223372036854775807) (hk : 0 < k)
  (hK : ∀ b, TW κ S w0 (.own e k (.slice (some ⟨b, 0, none⟩) l.toNat l.toNat) l.toNat (Builtin.zeroCells z.cells l.toNat).toList :: H) (K (.slice (some ⟨b, 0, none⟩) l.toNat l.toNat))) :
  TW κ S w0 H (B1 PR X (Instr.makeSlice t (.int k1 l) (.int k2 l)) K) := let ⟨⟨_, _, _, h1⟩, ⟨_, h2⟩, h3⟩ := h.ti; C5g h1 h2 h3 hk h0 rfl hb hc hK
theorem D0 [h : SL t e k by' z] (hK : ∀ b, TW κ S w0 (.own e k (.slice (some ⟨b, 0, none⟩) 0 0) 0 [] :: H) (K (.slice (some ⟨b, 0, none⟩) 0 0))) : TW κ S w0 H (B1 PR X (Instr.buildSlice t 0 #[]) K) :=
 let ⟨⟨_, _, _, h1⟩, ⟨_, h2⟩, h3⟩ := h.ti; C3S h1 h2 hK
theorem B8p {m n q : Nat} (hq : 0 < n) : ∀ (vs : List Value) (i : Nat) (cs : Array Value), (∀ v ∈ vs, v.cells.size = n) → (i + vs.length) * n ≤ cs.size →
  Instr.fill (fun i => some (i * n, n)) cs ((List.range' i vs.length).zip vs) = some (E2 cs (i * n) (vs.flatMap fun v => v.cells.toList)) := by
 intro vs
 induction vs with
 | nil => intro i cs _ _; simp [Instr.fill]
 | cons v vs ih =>
  intro i cs hv hs
  simp only [List.length_cons] at hs
  have hv0 : v.cells.size = n := hv v (by simp)
  have e1 : (i + (vs.length + 1)) * n = i * n + n + vs.length * n := by rw [Nat.add_mul, Nat.add_mul]; omega
  simp only [List.length_cons, List.range'_succ, List.zip_cons_cons]
  rw [B8 rfl hv0 (by omega), ih (i + 1) _ (fun u hu => hv u (by simp [hu])) (by rw [C1]; (have : (i + 1 + vs.length) * n = i * n + n + vs.length * n := by (rw [Nat.add_mul, Nat.add_mul]; omega)); omega)]
  have spl_spl : ∀ (l l' : List Value) (c : Array Value) (o : Nat), E2 (E2 c o l) (o + l.length) l' = E2 c o (l ++ l') := by
   intro l
   induction l with
   | nil => intro l' c o; simp
   | cons u l ih => intro l' c o; simp only [B1k, List.cons_append, List.length_cons]; rw [← ih]; congr 1; omega
  rw [List.flatMap_cons, ← spl_spl]
  congr 2
  have : v.cells.toList.length = n := by simp [hv0]
  rw [this, Nat.add_mul]; omega
theorem B2m {len : Nat} {parts : Array (Nat × Value)} (vs : List Value) [h : SL t e k by' z] (hk : 0 < k) (h0 : 0 < len) (hb : len * k ≤ 2 ^ 24) (hp : parts.toList = (List.range' 0 len).zip vs) (hl : vs.length = len) (hv : ∀ v ∈ vs, v.cells.size = k)
  (hK : ∀ b, TW κ S w0 (.own e k (.slice (some ⟨b, 0, none⟩) len len) len (vs.flatMap fun v => v.cells.toList) :: H) (K (.slice (some ⟨b, 0, none⟩) len len))) :
  TW κ S w0 H (B1 PR X (Instr.buildSlice t len parts) K) := by
 obtain ⟨⟨_, _, _, h1⟩, ⟨_, h2⟩, h3⟩ := h.ti
 have hlen : (vs.flatMap fun v => v.cells.toList).length = len * k := by
  rw [← hl]; clear hp hl hK hb h0
  induction vs with
  | nil => simp
  | cons v vs ih =>
   have := hv v (by simp)
   rw [List.flatMap_cons, List.length_append, ih fun u hu => hv u (by simp [hu])]
   simp only [Array.length_toList, List.length_cons, this]; rw [Nat.add_mul]; omega
 have hf := B8p (m := 0) (q := 0) hk vs 0 ((Array.range (len * k)).map (z.cells[· % z.cells.size]!)) hv (by simp [hl])
 rw [hl, ← hp] at hf
 have hz : E2 ((Array.range (len * k)).map (z.cells[· % z.cells.size]!)) (0 * k) (vs.flatMap fun v => v.cells.toList) = (vs.flatMap fun v => v.cells.toList).toArray := by
  apply Array.toList_inj.1
  rw [A0J _ _ _ (by simp [-List.length_flatMap, hlen])]
  simp only [Nat.zero_mul, List.take_zero, List.nil_append, hlen, Nat.zero_add]
  rw [List.drop_eq_nil_of_le (by simp)]; simp
 refine C55 h1 h2 hb (by have : 0 < len * k := Nat.mul_pos h0 hk; omega) (hf.trans (by rw [hz])) (by simp [-List.length_flatMap, hlen]) ?_
 simpa using hK
theorem C7 {v0 : Value} [h : SL t e k by' z] (hk : 0 < k := by decide) (hb : 1 * k ≤ 2 ^ 24 := by decide) (h0 : v0.cells.size = k := by simp) (hK : ∀ b, TW κ S w0 (.own e k (.slice (some ⟨b, 0, none⟩) 1 1) 1 (v0.cells.toList) :: H) (K (.slice (some ⟨b, 0, none⟩) 1 1))) :
  TW κ S w0 H (B1 PR X (Instr.buildSlice t 1 #[(0, v0)]) K) := B2m [v0] hk (by omega) hb rfl rfl (by intro v hv; simp only [List.mem_cons, List.not_mem_nil, or_false] at hv; subst hv; assumption) (by simpa using hK)
theorem C9 {v0 v1 : Value} [h : SL t e k by' z] (hk : 0 < k := by decide) (hb : 2 * k ≤ 2 ^ 24 := by decide) (h0 : v0.cells.size = k := by simp) (h1 : v1.cells.size = k := by simp) (hK : ∀ b, TW κ S w0 (.own e k (.slice (some ⟨b, 0, none⟩) 2 2) 2 (v0.cells.toList ++ v1.cells.toList) :: H) (K (.slice (some ⟨b, 0, none⟩) 2 2))) :
  TW κ S w0 H (B1 PR X (Instr.buildSlice t 2 #[(0, v0), (1, v1)]) K) := B2m [v0, v1] hk (by omega) hb rfl rfl (by intro v hv; simp only [List.mem_cons, List.not_mem_nil, or_false] at hv; rcases hv with rfl | rfl <;> assumption) (by simpa using hK)
theorem D1 {v0 v1 v2 : Value} [h : SL t e k by' z] (hk : 0 < k := by decide) (hb : 3 * k ≤ 2 ^ 24 := by decide) (h0 : v0.cells.size = k := by simp) (h1 : v1.cells.size = k := by simp) (h2 : v2.cells.size = k := by simp) (hK : ∀ b, TW κ S w0 (.own e k (.slice (some ⟨b, 0, none⟩) 3 3) 3 (v0.cells.toList ++ v1.cells.toList ++ v2.cells.toList) :: H) (K (.slice (some ⟨b, 0, none⟩) 3 3))) :
  TW κ S w0 H (B1 PR X (Instr.buildSlice t 3 #[(0, v0), (1, v1), (2, v2)]) K) := B2m [v0, v1, v2] hk (by omega) hb rfl rfl (by intro v hv; simp only [List.mem_cons, List.not_mem_nil, or_false] at hv; rcases hv with rfl | rfl | rfl <;> assumption) (by simpa using hK)
theorem C8 {v0 v1 v2 v3 v4 : Value} [h : SL t e k by' z] (hk : 0 < k := by decide) (hb : 5 * k ≤ 2 ^ 24 := by decide) (h0 : v0.cells.size = k := by simp) (h1 : v1.cells.size = k := by simp) (h2 : v2.cells.size = k := by simp) (h3 : v3.cells.size = k := by simp) (h4 : v4.cells.size = k := by simp) (hK : ∀ b, TW κ S w0 (.own e k (.slice (some ⟨b, 0, none⟩) 5 5) 5 (v0.cells.toList ++ v1.cells.toList ++ v2.cells.toList ++ v3.cells.toList ++ v4.cells.toList) :: H) (K (.slice (some ⟨b, 0, none⟩) 5 5))) :
  TW κ S w0 H (B1 PR X (Instr.buildSlice t 5 #[(0, v0), (1, v1), (2, v2), (3, v3), (4, v4)]) K) := B2m [v0, v1, v2, v3, v4] hk (by omega) hb rfl rfl (by intro v hv; simp only [List.mem_cons, List.not_mem_nil, or_false] at hv; rcases hv with rfl | rfl | rfl | rfl | rfl <;> assumption) (by simpa using hK)
theorem C6 {v0 v1 v2 v3 v4 v5 : Value} [h : SL t e k by' z] (hk : 0 < k := by decide) (hb : 6 * k ≤ 2 ^ 24 := by decide) (h0 : v0.cells.size = k := by simp) (h1 : v1.cells.size = k := by simp) (h2 : v2.cells.size = k := by simp) (h3 : v3.cells.size = k := by simp) (h4 : v4.cells.size = k := by simp) (h5 : v5.cells.size = k := by simp) (hK : ∀ b, TW κ S w0 (.own e k (.slice (some ⟨b, 0, none⟩) 6 6) 6 (v0.cells.toList ++ v1.cells.toList ++ v2.cells.toList ++ v3.cells.toList ++ v4.cells.toList ++ v5.cells.toList) :: H) (K (.slice (some ⟨b, 0, none⟩) 6 6))) :
  TW κ S w0 H (B1 PR X (Instr.buildSlice t 6 #[(0, v0), (1, v1), (2, v2), (3, v3), (4, v4), (5, v5)]) K) := B2m [v0, v1, v2, v3, v4, v5] hk (by omega) hb rfl rfl (by intro v hv; simp only [List.mem_cons, List.not_mem_nil, or_false] at hv; rcases hv with rfl | rfl | rfl | rfl | rfl | rfl <;> assumption) (by simpa using hK)
theorem M8.form {w : World} {e : TypeId} {k n : Nat} {v : Value} {xs : List Value} (h : M8 w e k v n xs) : ∃ a c, v = .slice a n c := by
 rcases h.2 with ⟨rfl, rfl⟩ | ⟨g, cap, cur, rfl, _⟩
 ·exact ⟨_, _, rfl⟩
 ·exact ⟨_, _, rfl⟩
theorem B7Q {q : Nat} {xs : List Value} {A : Value → WP} (h : ∀ a c, TW κ S w0 (.own e k (.slice a q c) q xs :: H) (A (.slice a q c))) (v : Value) : TW κ S w0 (.own e k v q xs :: H) (A v) := fun w hw => by
 obtain ⟨a, c, rfl⟩ := M8.form (hw.hold _ A1)
 exact h a c w hw
theorem A0v {ty : TypeId} {v x : Value} {q r : Nat} {xs news : List Value} [h : SL t e k by' z] (hs : Sel (.own e k v q xs) H Hr) (hx : P2 κ S w0 H x r news) (hk : 0 < k) (hl : news.length = r * k) (hp : news.all plain = true)
  (h63 : q + r ≤ maxLen) (hby : (q + r) * by' ≤ 140737488355328) (hK : ∀ a c, TW κ S w0 (.own e k (.slice a (q + r) c) (q + r) (xs ++ news) :: Hr) (K (.slice a (q + r) c))) : TW κ S w0 H (B1 PR X (A8 .append #[t, t] ty [v, x]) K) := by
 obtain ⟨⟨_, _, _, h1⟩, ⟨_, h2⟩, h3⟩ := h.ti
 refine TW.perm ?_ hs.perm
 exact C3d (H'' := fun v' => .own e k v' (q + r) (xs ++ news) :: Hr) h1 h2 h3 hk (fun v' => .here) (fun w hw => hx w (hw.perm hs.perm.symm)) hl hp h63 hby (B7Q hK)
end
end Go.Proofs.YtpbmephflllolaaGreat
namespace Go.Proofs.YtpbmephflllolaaGreat
open Go
instance : TS 3 (.int .i64 0) := ⟨_, _, H9, rfl⟩
instance : TS 4 (.bool false) := ⟨_, _, ty4, rfl⟩
instance : TS 5 (.int .u8 0) := ⟨_, _, ty5, rfl⟩
instance : TS 9 (.string (ByteArray.mk #[])) := ⟨_, _, z6, rfl⟩
instance : TS 21 (.int .i32 0) := ⟨_, _, C1k, rfl⟩
instance : TG 23 5 (.agg #[(.int .i64 0), (.int .i64 0), (.int .i64 0), (.int .i64 0), (.int .i64 0)]) := ⟨_, _, A2S, rfl⟩
instance : TS 25 .nilFunc := ⟨_, _, C2D, rfl⟩
instance : TS 28 (.int .i64 0) := ⟨_, _, A99, rfl⟩
instance : TS 32 (.slice none 0 0) := ⟨_, _, A8E, rfl⟩
instance : SL 32 75 2 16 (.agg #[(.int .i64 0), (.int .i64 0)]) := ⟨⟨_, _, _, A8E⟩, ⟨_, A8D⟩, rfl⟩
instance : SL 34 3 1 8 (.int .i64 0) := ⟨⟨_, _, _, B4r⟩, ⟨_, H9⟩, rfl⟩
instance : TG 39 4 (.agg #[(.int .i64 0), (.int .i64 0), (.bool false), (.int .i64 0)]) := ⟨_, _, A2C, rfl⟩
instance : TG 42 4 (.agg #[(.int .i64 0), (.string (ByteArray.mk #[])), (.slice none 0 0), (.int .i64 0)]) := ⟨_, _, A3d, rfl⟩
instance : TS 48 (.slice none 0 0) := ⟨_, _, B5C, rfl⟩
instance : SL 48 9 1 16 (.string (ByteArray.mk #[])) := ⟨⟨_, _, _, B5C⟩, ⟨_, z6⟩, rfl⟩
instance : TG 56 6 (.agg #[(.int .i64 0), (.string (ByteArray.mk #[])), (.string (ByteArray.mk #[])), (.int .i64 0), (.int .i64 0), (.int .i64 0)]) := ⟨_, _, A1S, rfl⟩
instance : TG 58 7 (.agg #[(.int .i64 0), (.string (ByteArray.mk #[])), (.string (ByteArray.mk #[])), (.int .i64 0), (.int .i64 0), (.int .i64 0), (.int .i64 0)]) := ⟨_, _, A5u, rfl⟩
instance : TG 75 2 (.agg #[(.int .i64 0), (.int .i64 0)]) := ⟨_, _, A8D, rfl⟩
instance : SL 76 42 4 56 (.agg #[(.int .i64 0), (.string (ByteArray.mk #[])), (.slice none 0 0), (.int .i64 0)]) := ⟨⟨_, _, _, B79⟩, ⟨_, A3d⟩, rfl⟩
instance : TS 86 (.slice none 0 0) := ⟨_, _, B1y, rfl⟩
instance : SL 86 93 1 8 (.pointer none) := ⟨⟨_, _, _, B1y⟩, ⟨_, B87⟩, rfl⟩
instance : TS 90 (.slice none 0 0) := ⟨_, _, B84, rfl⟩
instance : SL 90 217 2 16 (.agg #[(.int .u64 0), (.int .i64 0)]) := ⟨⟨_, _, _, B84⟩, ⟨_, B1e⟩, rfl⟩
instance : TS 93 (.pointer none) := ⟨_, _, B87, rfl⟩
instance : TS 94 (.slice none 0 0) := ⟨_, _, A9Z, rfl⟩
instance : SL 94 160 4 40 (.agg #[(.int .i64 0), (.string (ByteArray.mk #[])), (.int .i64 0), (.int .i64 0)]) := ⟨⟨_, _, _, A9Z⟩, ⟨_, A0w⟩, rfl⟩
instance : TG 119 3 (.agg #[(.int .i64 0), (.int .i64 0), (.int .i64 0)]) := ⟨_, _, A4u, rfl⟩
instance : TG 122 3 (.agg #[(.string (ByteArray.mk #[])), (.string (ByteArray.mk #[])), (.int .i64 0)]) := ⟨_, _, A6w, rfl⟩
instance : TG 124 3 (.agg #[(.string (ByteArray.mk #[])), (.string (ByteArray.mk #[])), (.int .i64 0)]) := ⟨_, _, A6v, rfl⟩
instance : TG 126 38 (.agg #[(.int .u8 0), (.int .u8 0), (.int .u8 0), (.int .u8 0), (.int .u8 0), (.int .u8 0), (.int .u8 0), (.int .u8 0), (.int .u8 0), (.int .u8 0), (.int .u8 0), (.int .u8 0), (.int .u8 0), (.int .u8 0), (.int .u8 0), (.int .u8 0), (.int .u8 0), (.int .u8 0), (.int .u8 0), (.int .u8 0), (.int .u8 0), (.int .u8 0), (.int .u8 0), (.int .u8 0), (.int .u8 0), (.int .u8 0), (.int .u8 0), (.int .u8 0), (.int .u8 0), (.int .u8 0), (.int .u8 0), (.int .u8 0), (.int .u8 0), (.int .u8 0), (.int .u8 0), (.int .u8 0), (.int .u8 0), (.int .u8 0)]) := ⟨_, _, B4b, rfl⟩
instance : TS 127 (.slice none 0 0) := ⟨_, _, A1n, rfl⟩
instance : SL 127 5 1 1 (.int .u8 0) := ⟨⟨_, _, _, A1n⟩, ⟨_, ty5⟩, rfl⟩
instance : TS 129 (.int .u64 0) := ⟨_, _, A23, rfl⟩
instance : TS 149 .nilFunc := ⟨_, _, C3e, rfl⟩
instance : TG 153 2 (.agg #[(.int .i64 0), (.int .i64 0)]) := ⟨_, _, A8j, rfl⟩
instance : TG 160 4 (.agg #[(.int .i64 0), (.string (ByteArray.mk #[])), (.int .i64 0), (.int .i64 0)]) := ⟨_, _, A0w, rfl⟩
instance : TS 176 (.slice none 0 0) := ⟨_, _, B4p, rfl⟩
instance : TS 185 (.pointer none) := ⟨_, _, B1U, rfl⟩
instance : TG 189 2 (.agg #[(.pointer none), (.slice none 0 0)]) := ⟨_, _, B9d, rfl⟩
instance : TS 208 (.slice none 0 0) := ⟨_, _, B1T, rfl⟩
instance : SL 208 211 2 16 (.agg #[(.int .u64 0), (.int .i64 0)]) := ⟨⟨_, _, _, B1T⟩, ⟨_, A4Z⟩, rfl⟩
instance : TG 211 2 (.agg #[(.int .u64 0), (.int .i64 0)]) := ⟨_, _, A4Z, rfl⟩
instance : TS 218 .nilFunc := ⟨_, _, C3s, rfl⟩
instance : SL 229 153 2 16 (.agg #[(.int .i64 0), (.int .i64 0)]) := ⟨⟨_, _, _, B4n⟩, ⟨_, A8j⟩, rfl⟩
instance : TG 296 2 (.agg #[.nilFunc, (.int .i64 0)]) := ⟨_, _, A64, rfl⟩
instance : TS 300 .nilFunc := ⟨_, _, C3z, rfl⟩
instance : TS 302 (.int .u64 0) := ⟨_, _, B9c, rfl⟩
instance : TS 307 (.slice none 0 0) := ⟨_, _, B50, rfl⟩
instance : SL 320 296 2 16 (.agg #[.nilFunc, (.int .i64 0)]) := ⟨⟨_, _, _, B5F⟩, ⟨_, A64⟩, rfl⟩
@[simp] theorem C2n (a : Option Addr) (x y : Operand) (K : Value → WP) : A6 PR (N4 .eql 185 x y (.pointer a) (.pointer none)) K = K (.bool a.isNone) := funext fun w => B47 a x y K w
@[simp] theorem C4J (a : Option Addr) (x y : Operand) (K : Value → WP) : A6 PR (N4 .eql 27 x y (.pointer a) (.pointer none)) K = K (.bool a.isNone) := funext fun w => B6L a x y K w
@[simp] theorem C6B (a0 b0 : Int) (a1 b1 : Int) (a2 b2 : Bool) (a3 b3 : Int) (x y : Operand) (K : Value → WP) : A6 PR (N4 .eql 39 x y (.agg #[.int .i64 a0, .int .i64 a1, .bool a2, .int .i64 a3]) (.agg #[.int .i64 b0, .int .i64 b1, .bool b2, .int .i64 b3])) K = K (.bool (decide (a0 = b0) && (decide (a1 = b1) && ((a2 == b2) && (decide (a3 = b3) && true))))) := funext fun w => B8m a0 b0 a1 b1 a2 b2 a3 b3 x y K w
@[simp] theorem C46 (a : Option Addr) (x y : Operand) (K : Value → WP) : A6 PR (N4 .neq 27 x y (.pointer a) (.pointer none)) K = K (.bool (!a.isNone)) := funext fun w => B69 a x y K w
end Go.Proofs.YtpbmephflllolaaGreat
namespace Go.Proofs.YtpbmephflllolaaGreat
open Go
def A97 (n i : Nat) : List Value := [.int .i64 (i : Int), .int .u64 (8 * ((n : Int) - 1 - i))]
abbrev B6J (b : Nat) : Value := .func (.func 141) #[] #[.pointer (some ⟨b, 0, none⟩)]
theorem B1u (w : World) (n : Int) : Fn PR B5 99 #[.int .i64 n] w (Rn [] w (fun b v => v = B6J b) fun b => [.pt b (.cells #[.int .i64 n] 3)]) := by
 refine A9y (TW.go (κ := false) (S := []) ?_)
 unfold A4G
 (have zz:=trivial;repeat((first|clear zz|with_reducible first|refine A3 ?_|refine A5 fun _=>?_|refine A4 fun _=>?_);try simp(disch:=first|omega|assumption|((repeat(first|exact A1|exact uH|apply A2|apply uT));first|done|fail)|(simp;first|done|omega|fail))[]))
 rename_i b
 exact W9 b rfl (by simp)
theorem B2q (b : Nat) {n : Nat} (hn : n ≤ 8) : A1u (B6J b) [.pt b (.cells #[.int .i64 (n : Int)] 3)] (fun _ _ => True) ((List.range n).map (A97 n)) := by
 refine ⟨_, _, _, rfl, fun l J E hJ hE stJ stE hy w0 h0 => ?_⟩
 refine A66 (A7G (TW.at (κ := true) ?_ (hJ _ _ _ h0).1))
 unfold A1e
 (have zz:=trivial;repeat((first|clear zz|with_reducible first|refine A3 ?_|refine A5 fun _=>?_|refine A4 fun _=>?_);try simp(disch:=first|omega|assumption|((repeat(first|exact A1|exact uH|apply A2|apply uT));first|done|fail)|(simp;first|done|omega|fail))[]))
 refine A2c n (fun i => i) (fun _ => _) hJ stJ h0 fun i a hi hJi _ L hL => ?_
 by_cases hlt : i < n
 ·(have zz:=trivial;repeat((first|clear zz|with_reducible first|refine A3 ?_|refine A5 fun _=>?_|refine A4 fun _=>?_);try simp(disch:=first|omega|assumption|((repeat(first|exact A1|exact uH|apply A2|apply uT));first|done|fail)|(simp;first|done|omega|fail))[hlt]))
  refine A3H hJ hE stJ hy hJi (by simpa using hlt) (by simp [A97]) (fun w3 h => ?_) (fun w3 h => ?_)
  ·(have zz:=trivial;repeat((first|clear zz|with_reducible first|refine A3 ?_|refine A5 fun _=>?_|refine A4 fun _=>?_);try simp(disch:=first|omega|assumption|((repeat(first|exact A1|exact uH|apply A2|apply uT));first|done|fail)|(simp;first|done|omega|fail))[]))
   exact fun w' hw' => hL hlt w' (stJ _ _ _ _ _ h hw')
  ·(have zz:=trivial;repeat((first|clear zz|with_reducible first|refine A3 ?_|refine A5 fun _=>?_|refine A4 fun _=>?_);try simp(disch:=first|omega|assumption|((repeat(first|exact A1|exact uH|apply A2|apply uT));first|done|fail)|(simp;first|done|omega|fail))[]))
   exact A1B stE h
 ·obtain rfl : i = n := by omega
  (have zz:=trivial;repeat((first|clear zz|with_reducible first|refine A3 ?_|refine A5 fun _=>?_|refine A4 fun _=>?_);try simp(disch:=first|omega|assumption|((repeat(first|exact A1|exact uH|apply A2|apply uT));first|done|fail)|(simp;first|done|omega|fail))[]))
  exact A1N stJ (by simpa using hJi)
def B6 (s : ByteArray) (i : Nat) : Nat := (s.data.getD i 0).toNat
def Q8 (s : ByteArray) (a : Nat) : Nat → Nat
 | 0 => 0
 | i + 1 => Q8 s a i * 256 + B6 s (a + i)
theorem v7 (s : ByteArray) (i : Nat) : B6 s i < 256 := (s.data.getD i 0).toNat_lt
theorem A5y (s : ByteArray) (a i : Nat) : Q8 s a i < 256 ^ i := by
 induction i with
 | zero => simp [Q8]
 | succ i ih =>
  have := v7 s (a + i)
  simp only [Q8, Nat.pow_succ]
  omega
theorem s9 {s : ByteArray} {i : Nat} (h : i < s.size) : ∃ b : UInt8, s[i]? = some b ∧ b.toNat = B6 s i := by
 refine ⟨s[i], by simp [h], ?_⟩
 have h' : i < s.data.size := h
 have e : s.data.getD i 0 = s[i] := by rw [Array.getD_eq_getD_getElem?, Array.getElem?_eq_getElem h']; rfl
 rw [B6, e]
def A0s (s : ByteArray) (a n : Int) : Bool := decide (1 ≤ n ∧ n ≤ 8 ∧ 0 ≤ a ∧ a ≤ s.size - n)
def A3Y (s : ByteArray) (a n : Int) : Int := if A0s s a n = true then (Q8 s a.toNat n.toNat : Nat) else 0
theorem A05 (w : World) (s : ByteArray) (hs : s.size < 2 ^ 63) (a n : Int) :
  Fn PR B5 148 #[.string s, .int .i64 a, .int .i64 n] w (fun v w' => v = .tuple #[.int .u64 (A3Y s a n), .bool (A0s s a n)] ∧ C4 [] w w') := by
 refine Fn.pure (B26 (TW.go (κ := false) (S := []) ?_))
 unfold A5p
 by_cases hok : A0s s a n = true
 case neg =>
  have hv : A3Y s a n = 0 := if_neg hok
  have hok' : A0s s a n = false := by simpa using hok
  rw [hv, hok']
  have hc : n < 1 ∨ 8 < n ∨ a < 0 ∨ (s.size : Int) - n < a := by
   simp only [A0s, decide_eq_true_eq] at hok; omega
  by_cases h1 : n < 1
  ·(have zz:=trivial;repeat((first|clear zz|with_reducible first|refine A3 ?_|refine A5 fun _=>?_|refine A4 fun _=>?_);try simp(disch:=first|omega|assumption|((repeat(first|exact A1|exact uH|apply A2|apply uT));first|done|fail)|(simp;first|done|omega|fail))[h1])); exact B0 rfl
  by_cases h2 : 8 < n
  ·(have zz:=trivial;repeat((first|clear zz|with_reducible first|refine A3 ?_|refine A5 fun _=>?_|refine A4 fun _=>?_);try simp(disch:=first|omega|assumption|((repeat(first|exact A1|exact uH|apply A2|apply uT));first|done|fail)|(simp;first|done|omega|fail))[h1, h2])); exact B0 rfl
  by_cases h3 : a < 0
  ·(have zz:=trivial;repeat((first|clear zz|with_reducible first|refine A3 ?_|refine A5 fun _=>?_|refine A4 fun _=>?_);try simp(disch:=first|omega|assumption|((repeat(first|exact A1|exact uH|apply A2|apply uT));first|done|fail)|(simp;first|done|omega|fail))[h1, h2, h3])); exact B0 rfl
  have h4 : (s.size : Int) - n < a := by omega
  (have zz:=trivial;repeat((first|clear zz|with_reducible first|refine A3 ?_|refine A5 fun _=>?_|refine A4 fun _=>?_);try simp(disch:=first|omega|assumption|((repeat(first|exact A1|exact uH|apply A2|apply uT));first|done|fail)|(simp;first|done|omega|fail))[h1, h2, h3, h4])); exact B0 rfl
 have hv : A3Y s a n = (Q8 s a.toNat n.toNat : Nat) := if_pos hok
 rw [hv, hok]
 simp only [A0s, decide_eq_true_eq] at hok
 obtain ⟨m, rfl⟩ : ∃ m : Nat, n = m := ⟨n.toNat, by omega⟩
 obtain ⟨k, rfl⟩ : ∃ k : Nat, a = k := ⟨a.toNat, by omega⟩
 have h1 : ¬ (m : Int) < 1 := by omega
 have h2 : ¬ 8 < (m : Int) := by omega
 have h4 : ¬ (s.size : Int) - m < k := by omega
 have h5 : ¬ (k : Int) < 0 := by omega
 (have zz:=trivial;repeat((first|clear zz|with_reducible first|refine A3 ?_|refine A5 fun _=>?_|refine A4 fun _=>?_);try simp(disch:=first|omega|assumption|((repeat(first|exact A1|exact uH|apply A2|apply uT));first|done|fail)|(simp;first|done|omega|fail))[h1, h2, h4, h5]))
 rename_i bs ba bv
 refine N7 A3D (fun w' _ => B1u w' m) ?_
 rintro b v rfl
 refine y4 (B2q b (n := m) (by omega)) (by simp [A97]) (fun _ (_ : Unit) => True) (fun i _ => [.pt bv (.cells #[.int .u64 ((Q8 s k i * 256 ^ (m - i) : Nat) : Int)] 129), .pt ba (.cells #[.int .i64 (k : Int)] 3), .pt bs (.cells #[.string s] 9)])
  (fun _ (_ : Unit) => False) (fun _ => []) () trivial ?_ ?_ ?_ ?_ (by simp [Q8])
 ·intros; trivial
 ·rintro i hi _ F _ K' hK _
  have hi' : i < m := by simpa using hi
  obtain ⟨by0, hb0, hb1⟩ := s9 (s := s) (i := k + i) (by omega)
  have hidx : ((k : Int) + i).toNat = k + i := by omega
  have hbl := v7 s (k + i)
  rw [← hidx] at hb0
  have hsh : (0 : Int) ≤ 8 * ((m : Int) - 1 - i) := by omega
  simp only [List.getElem_map, List.getElem_range, A97, VF.app]
  (have zz:=trivial;repeat((first|clear zz|with_reducible first|refine A3 ?_|refine A5 fun _=>?_|refine A4 fun _=>?_);try simp(disch:=first|omega|assumption|((repeat(first|exact A1|exact uH|apply A2|apply uT));first|done|fail)|(simp;first|done|omega|fail))[Y1]))
  refine TW.eqH ?_ (hK () trivial)
  have hlt : (Q8 s k i * 256 + B6 s (k + i)) * 256 ^ (m - 1 - i) < 2 ^ 64 := by
   have hA : Q8 s k (i + 1) < 256 ^ (i + 1) := A5y s k (i + 1)
   have h8 : 256 ^ (i + 1) * 256 ^ (m - 1 - i) ≤ 2 ^ 64 := by
    rw [← Nat.pow_add, show (2 : Nat) ^ 64 = 256 ^ 8 from rfl]
    exact Nat.pow_le_pow_right (by omega) (by omega)
   exact Nat.lt_of_lt_of_le (Nat.mul_lt_mul_of_pos_right hA (Nat.pow_pos (by omega))) h8
  have hval := C0C hbl hlt (by omega)
  rw [show m - (i + 1) = m - 1 - i from by omega]
  simp [Q8, ← hval]
  rw [hb1, show (8 * ((m : Int) - 1 - i)).toNat = 8 * (m - 1 - i) from by omega, show m - i = m - 1 - i + 1 from by omega]
 ·rintro _ _
  (have zz:=trivial;repeat((first|clear zz|with_reducible first|refine A3 ?_|refine A5 fun _=>?_|refine A4 fun _=>?_);try simp(disch:=first|omega|assumption|((repeat(first|exact A1|exact uH|apply A2|apply uT));first|done|fail)|(simp;first|done|omega|fail))[]))
  exact B0 (by simp)
 ·rintro _ _ h; exact h.elim
def m9 (v : Int) (n i : Nat) : Int := IntKind.u8.wrap (v.fdiv (2 ^ min (8 * ((n : Int) - 1 - i)).toNat IntKind.u64.bits))
def u6 (v : Int) (n i : Nat) : List Int := (List.range n).map fun j => if j < i then m9 v n j else 0
def B7 (v n : Int) : ByteArray := if 1 ≤ n ∧ n ≤ 8 then x3 (u6 v n.toNat n.toNat) else ByteArray.mk #[]
theorem B7z (v : Int) {n i : Nat} (h : i < n) : (u6 v n i).set i (m9 v n i) = u6 v n (i + 1) := by
 apply List.ext_getElem (by simp [u6])
 intro j h1 h2
 simp only [u6, List.length_set, List.length_map, List.length_range] at h1
 rw [List.getElem_set]
 simp only [u6, List.getElem_map, List.getElem_range]
 by_cases hij : i = j
 ·subst hij; simp
 ·by_cases hj : j < i
  ·simp [hij, hj, Nat.lt_succ_of_lt hj]
  ·have : ¬ j < i + 1 := by omega
   simp [hij, hj, this]
def A3f (v : Int) (n i : Nat) : Array Value := ((u6 v n i).map (Value.int .u8)).toArray
theorem B7a (v : Int) {m : Nat} (h : m ≤ 8) : Builtin.zeroCells (Value.int .u8 0).cells m = A3f v m 0 := by
 have : m = 0 ∨ m = 1 ∨ m = 2 ∨ m = 3 ∨ m = 4 ∨ m = 5 ∨ m = 6 ∨ m = 7 ∨ m = 8 := by omega
 rcases this with rfl | rfl | rfl | rfl | rfl | rfl | rfl | rfl | rfl <;>
  (apply Array.ext'; simp [Builtin.zeroCells, A3f, u6, List.range, List.range.loop])
@[simp] theorem B7d {v n : Int} (h1 : 1 ≤ n) (h2 : n ≤ 8) : (B7 v n).size = n.toNat := by simp [B7, h1, h2, u6]
theorem V8 (w : World) (v n : Int) :
  Fn PR B5 55 #[.int .u64 v, .int .i64 n] w (fun u w' => u = .string (B7 v n) ∧ C4 [] w w') := by
 refine Fn.pure (B2T (TW.go (κ := false) (S := []) ?_))
 unfold A6U
 by_cases hok : 1 ≤ n ∧ n ≤ 8
 case neg =>
  have hv : B7 v n = ByteArray.mk #[] := if_neg hok
  rw [hv]
  by_cases h1 : n < 1
  ·(have zz:=trivial;repeat((first|clear zz|with_reducible first|refine A3 ?_|refine A5 fun _=>?_|refine A4 fun _=>?_);try simp(disch:=first|omega|assumption|((repeat(first|exact A1|exact uH|apply A2|apply uT));first|done|fail)|(simp;first|done|omega|fail))[h1])); exact B0 rfl
  ·have h2 : 8 < n := by omega
   (have zz:=trivial;repeat((first|clear zz|with_reducible first|refine A3 ?_|refine A5 fun _=>?_|refine A4 fun _=>?_);try simp(disch:=first|omega|assumption|((repeat(first|exact A1|exact uH|apply A2|apply uT));first|done|fail)|(simp;first|done|omega|fail))[h1, h2])); exact B0 rfl
 have hv : B7 v n = x3 (u6 v n.toNat n.toNat) := if_pos hok
 rw [hv]
 obtain ⟨m, rfl⟩ : ∃ m : Nat, n = m := ⟨n.toNat, by omega⟩
 have h1 : ¬ (m : Int) < 1 := by omega
 have h2 : ¬ 8 < (m : Int) := by omega
 (have zz:=trivial;repeat((first|clear zz|with_reducible first|refine A3 ?_|refine A5 fun _=>?_|refine A4 fun _=>?_);try simp(disch:=first|omega|assumption|((repeat(first|exact A1|exact uH|apply A2|apply uT));first|done|fail)|(simp;first|done|omega|fail))[h1, h2]))
 refine C1l (by omega) (by omega) (by omega) (by omega) fun bs => ?_
 rw [Int.toNat_natCast, B7a v (by omega)]
 (have zz:=trivial;repeat((first|clear zz|with_reducible first|refine A3 ?_|refine A5 fun _=>?_|refine A4 fun _=>?_);try simp(disch:=first|omega|assumption|((repeat(first|exact A1|exact uH|apply A2|apply uT));first|done|fail)|(simp;first|done|omega|fail))[h1, h2]))
 rename_i bv bb
 refine N7 A3D (fun w' _ => B1u w' m) ?_
 rintro b v rfl
 refine y4 (B2q b (n := m) (by omega)) (by simp [A97]) (fun _ (_ : Unit) => True) (fun i _ => [.pt bb (.cells #[.slice (some ⟨bs, 0, none⟩) m m] 127),
   .own 5 1 (.slice (some ⟨bs, 0, none⟩) m m) m (A3f v m i).toList, .pt bv (.cells #[.int .u64 v] 129)])
  (fun _ (_ : Unit) => False) (fun _ => []) () trivial ?_ ?_ ?_ ?_ (by simp)
 ·intros; trivial
 ·rintro i hi _ F _ K' hK _
  have hi' : i < m := by simpa using hi
  have hsh : (0 : Int) ≤ 8 * ((m : Int) - 1 - i) := by omega
  simp only [List.getElem_map, List.getElem_range, A97, VF.app]
  (have zz:=trivial;repeat((first|clear zz|with_reducible first|refine A3 ?_|refine A5 fun _=>?_|refine A4 fun _=>?_);try simp(disch:=first|omega|assumption|((repeat(first|exact A1|exact uH|apply A2|apply uT));first|done|fail)|(simp;first|done|omega|fail))[]))
  refine A4x (by (repeat constructor)) (by simp) (by simp [A3f, u6]; omega) (by simp) ?_
  refine TW.eqH ?_ (hK () trivial)
  have e : A3j (A3f v m i).toList i [.int .u8 (m9 v m i)] = (A3f v m (i + 1)).toList := by
   rw [B76 (by simp [A3f, u6]; omega)]; simp [A3f, ← B7z v hi', List.map_set]
  rw [← e]; simp [m9]
 ·rintro _ _
  (have zz:=trivial;repeat((first|clear zz|with_reducible first|refine A3 ?_|refine A5 fun _=>?_|refine A4 fun _=>?_);try simp(disch:=first|omega|assumption|((repeat(first|exact A1|exact uH|apply A2|apply uT));first|done|fail)|(simp;first|done|omega|fail))[]))
  have hlen : (u6 v m m).length = m := by simp [u6]
  have := fun w' K (hr : K8 w' bs 0 ((u6 v m m).map (Value.int .u8))) => @B3J K w' bs 0 m _ hr
  rw [hlen] at this
  rw [C3v fun w' hw' => this w' _ (by simpa [A3f] using hw'.ownr (e := 5) (k := 1) (q := m) (c := m) (xs := (A3f v m m).toList) (by (repeat constructor)))]
  simp only [C29]
  exact B0 rfl
 ·rintro _ _ h; exact h.elim
end Go.Proofs.YtpbmephflllolaaGreat
