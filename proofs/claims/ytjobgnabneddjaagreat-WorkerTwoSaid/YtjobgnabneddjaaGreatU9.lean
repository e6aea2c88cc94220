/- The proof of a given statement, a part of it (ShStd ShOctet Ins Tc Tn Oct). No condition but what each lemma says. -/
import Derived.Test.YtjobgnabneddjaaGreatU8
set_option linter.unusedVariables false
set_option linter.unusedSimpArgs false
namespace Go.Proofs.YtjobgnabneddjaaGreat
open Go
def T3 (X : Nat → Prop) (t0 : Value) (R : Value → WP) : WP :=
 jn (n := 1) (fun t2 =>
 B2 PR X (Instr.buildSlice 84 0 #[]) fun t5 =>
 B2 PR X (A8 .append #[84, 84] 84 [t5, t0]) fun t7 =>
 R t7) fun J1 =>
 A6 PR (H8 .eql 84 (.tmp 3) (.const (.slice none 0 0)) t0 (.slice none 0 0)) fun t4 =>
 C4 t4 (
 R (.slice none 0 0)) (
 J1 (.slice none 0 0))
theorem q7 : A9 PR 122 := A7 Tryz.func122 (by kernel_rfl) rfl
theorem u6 {X : Nat → Prop} {t0 : Value} {R : Value → WP} {w : World} (h : T3 X t0 R w) : Fn PR X 122 #[t0] w R := C3 (args := [t0]) mixed Tryz.func122 (by kernel_rfl) h
def S1 (X : Nat → Prop) (t0 : Value) (R : Value → WP) : WP :=
 jn (n := 1) (fun t2 =>
 B2 PR X (Instr.buildSlice 58 0 #[]) fun t5 =>
 B2 PR X (A8 .append #[58, 58] 58 [t5, t0]) fun t7 =>
 R t7) fun J1 =>
 A6 PR (H8 .eql 58 (.tmp 3) (.const (.slice none 0 0)) t0 (.slice none 0 0)) fun t4 =>
 C4 t4 (
 R (.slice none 0 0)) (
 J1 (.slice none 0 0))
theorem l4 : A9 PR 123 := A7 Tryz.func123 (by kernel_rfl) rfl
theorem m7 {X : Nat → Prop} {t0 : Value} {R : Value → WP} {w : World} (h : S1 X t0 R w) : Fn PR X 123 #[t0] w R := C3 (args := [t0]) mixed Tryz.func123 (by kernel_rfl) h
def U3 (X : Nat → Prop) (t0 t1 : Value) (R : Value → WP) : WP :=
 B4 PR X 201 [t0, t1] fun t7 =>
 A0 PR (binOp .geq 3 t7 (.int .i64 0)) fun t8 =>
 R t8
theorem u0 : A9 PR 148 := A7 Tryz.func148 (by kernel_rfl) rfl
theorem y0 {X : Nat → Prop} {t0 t1 : Value} {R : Value → WP} {w : World} (h : U3 X t0 t1 R w) : Fn PR X 148 #[t0, t1] w R := C3 (args := [t0, t1]) mixed Tryz.func148 (by kernel_rfl) h
def V2 (X : Nat → Prop) (t0 t1 : Value) (R : Value → WP) : WP :=
 B4 PR X 212 [t0] fun t7 =>
 B4 PR X 213 [t7, t1] fun t10 =>
 R t7
theorem y4 : A9 PR 160 := A7 Tryz.func160 (by kernel_rfl) rfl
theorem y5 {X : Nat → Prop} {t0 t1 : Value} {R : Value → WP} {w : World} (h : V2 X t0 t1 R w) : Fn PR X 160 #[t0, t1] w R := C3 (args := [t0, t1]) mixed Tryz.func160 (by kernel_rfl) h
def Z9 (X : Nat → Prop) (t0 t1 : Value) (R : Value → WP) : WP :=
 B4 PR X 232 [t0] fun t7 =>
 A0 PR (B6 t0) fun t10 =>
 A0 PR (Instr.fieldAt 303 t10 1) fun t11 =>
 A6 PR (Instr.loadAt 301 t11) fun t12 =>
 B2 PR X (A8 .append #[301, 9] 301 [t12, t1]) fun t14 =>
 A0 PR (B6 t0) fun t15 =>
 A0 PR (Instr.fieldAt 303 t15 1) fun t16 =>
 C0 PR X (Instr.storeAt 301 t16 t14) <|
 A0 PR (A8 .len #[9] 0 [t1]) fun t18 =>
 R (.tuple #[t18, .nilIface])
theorem M1 : A9 PR 173 := A7 Tryz.func173 (by kernel_rfl) rfl
theorem A03 {X : Nat → Prop} {t0 t1 : Value} {R : Value → WP} {w : World} (h : Z9 X t0 t1 R w) : Fn PR X 173 #[t0, t1] w R := C3 (args := [t0, t1]) mixed Tryz.func173 (by kernel_rfl) h
def p8 (X : Nat → Prop) (t0 : Value) (R : Value → WP) : WP :=
 drw <|
 A0 PR (B6 t0) fun t4 =>
 A0 PR (Instr.fieldAt 303 t4 1) fun t5 =>
 A6 PR (Instr.loadAt 301 t5) fun t6 =>
 A0 PR (B6 t0) fun t9 =>
 A0 PR (Instr.fieldAt 303 t9 1) fun t10 =>
 A6 PR (Instr.loadAt 301 t10) fun t11 =>
 A0 PR (A8 .len #[301] 0 [t11]) fun t12 =>
 B2 PR X (A8 .unsafeSliceData #[301] 363 [t6]) fun t7 =>
 watch PR [(none, (Instr.loadAt 301 t10), t11)] <|
 B2 PR X (A8 .unsafeString #[363, 3] 9 [t7, t12]) fun t13 =>
 R t13
theorem A24 : A9 PR 174 := A7 Tryz.func174 (by kernel_rfl) rfl
theorem A3W {X : Nat → Prop} {t0 : Value} {R : Value → WP} {w : World} (h : p8 X t0 R w) : Fn PR X 174 #[t0] w R := C3 (args := [t0]) mixed Tryz.func174 (by kernel_rfl) h
def s4 (X : Nat → Prop) (t0 t1 : Value) (R : Value → WP) : WP :=
 A0 PR (B6 t0) fun t6 =>
 A0 PR (Instr.fieldAt 137 t6 2) fun t7 =>
 B4 PR X 234 [t7, t1] fun t9 =>
 R t9
theorem A3M : A9 PR 178 := A7 Tryz.func178 (by kernel_rfl) rfl
theorem A3v {X : Nat → Prop} {t0 t1 : Value} {R : Value → WP} {w : World} (h : s4 X t0 t1 R w) : Fn PR X 178 #[t0, t1] w R := C3 (args := [t0, t1]) mixed Tryz.func178 (by kernel_rfl) h
def W8 (X : Nat → Prop) (t0 t1 : Value) (R : Value → WP) : WP :=
 jn (n := 2) (fun t4 t8 =>
 R (.int .i64 (-1))) fun J1 =>
 A0 PR (A8 .len #[259] 0 [t0]) fun t7 =>
 lp (n := 2) (fun L2 t4_1 t8_1 =>
 A0 PR (binOp .lss 3 t8_1 t7) fun t9 =>
 jn (n := 0) (
 jn (n := 1) (fun t4_2 =>
 A0 PR (binOp .add 3 t8_1 (.int .i64 1)) fun t18 =>
 L2 t4_2 t18) fun J3 =>
 A0 PR (Instr.indexAt 259 t0 t8_1) fun t14 =>
 A6 PR (Instr.loadAt 158 t14) fun t15 =>
 L5 PR X t1 [t15] fun t16 =>
 C4 t16 (
 R t8_1) (
 J3 t4_1)) fun J4 =>
 C4 t9 (
 J4) (
 J1 t4_1 t8_1)) (.int .i64 0) (.int .i64 0)
theorem A0Q : A9 PR 201 := A7 Tryz.func201 (by kernel_rfl) rfl
theorem A0r {X : Nat → Prop} {t0 t1 : Value} {R : Value → WP} {w : World} (h : W8 X t0 t1 R w) : Fn PR X 201 #[t0, t1] w R := C3 (args := [t0, t1]) mixed Tryz.func201 (by kernel_rfl) h
def A6L (X : Nat → Prop) (t0 t1 : Value) (R : Value → WP) : WP :=
 jn (n := 2) (fun t5 t6 =>
 R t5) fun J1 =>
 lp (n := 2) (fun L2 t5_1 t6_1 =>
 jn (n := 0) (
 A0 PR (binOp .add 3 t5_1 t6_1) fun t14 =>
 A0 PR (convert 3 242 t14) fun t15 =>
 A0 PR (binOp .shr 242 t15 (.int .u64 1)) fun t16 =>
 A0 PR (convert 242 3 t16) fun t17 =>
 L5 PR X t1 [t17] fun t20 =>
 A0 PR (Op.unary .not t20) fun t21 =>
 C4 t21 (
 A0 PR (binOp .add 3 t17 (.int .i64 1)) fun t23 =>
 L2 t23 t6_1) (
 L2 t5_1 t17)) fun J3 =>
 A0 PR (binOp .lss 3 t5_1 t6_1) fun t11 =>
 C4 t11 (
 J3) (
 J1 t5_1 t6_1)) (.int .i64 0) t0
theorem B2C : A9 PR 210 := A7 Tryz.func210 (by kernel_rfl) rfl
theorem B3x {X : Nat → Prop} {t0 t1 : Value} {R : Value → WP} {w : World} (h : A6L X t0 t1 R w) : Fn PR X 210 #[t0, t1] w R := C3 (args := [t0, t1]) mixed Tryz.func210 (by kernel_rfl) h
def Z4 (X : Nat → Prop) (t0 : Value) (R : Value → WP) : WP :=
 B4 PR X 248 [(.slice none 0 0), t0] fun t4 =>
 R t4
theorem A0q : A9 PR 212 := A7 Tryz.func212 (by kernel_rfl) rfl
theorem A0x {X : Nat → Prop} {t0 : Value} {R : Value → WP} {w : World} (h : Z4 X t0 R w) : Fn PR X 212 #[t0] w R := C3 (args := [t0]) mixed Tryz.func212 (by kernel_rfl) h
theorem Z7 : A9 PR 213 := A7 Tryz.func213 (by kernel_rfl) rfl
def A8D (X : Nat → Prop) (t0 : Value) (R : Value → WP) : WP :=
 jn (n := 2) (fun t2 t8 =>
 R (.int .i64 0)) fun J1 =>
 A0 PR (A8 .len #[37] 0 [t0]) fun t7 =>
 lp (n := 2) (fun L2 t2_1 t8_1 =>
 A0 PR (binOp .lss 3 t8_1 t7) fun t9 =>
 jn (n := 0) (
 jn (n := 1) (fun t2_2 =>
 A0 PR (binOp .add 3 t8_1 (.int .i64 1)) fun t16 =>
 L2 t2_2 t16) fun J3 =>
 A0 PR (Instr.indexAt 37 t0 t8_1) fun t10 =>
 A6 PR (Instr.loadAt 3 t10) fun t11 =>
 A0 PR (binOp .neq 3 t11 (.int .i64 0)) fun t14 =>
 C4 t14 (
 R t11) (
 J3 t2_1)) fun J4 =>
 C4 t9 (
 J4) (
 J1 t2_1 t8_1)) (.int .i64 0) (.int .i64 0)
theorem B4G : A9 PR 216 := A7 Tryz.func216 (by kernel_rfl) rfl
theorem B5B {X : Nat → Prop} {t0 : Value} {R : Value → WP} {w : World} (h : A8D X t0 R w) : Fn PR X 216 #[t0] w R := C3 (args := [t0]) mixed Tryz.func216 (by kernel_rfl) h
theorem B67 {X : Nat → Prop} {t0 : Value} {K : Value → WP} {w : World} (h : Fn PR X 216 #[t0] w K) : B4 PR X 216 [t0] K w := Or.inl ⟨B4G, h⟩
def A0p (X : Nat → Prop) (t0 t1 : Value) (R : Value → WP) : WP :=
 B4 PR X 251 [t0] fun t8 =>
 B4 PR X 251 [t1] fun t10 =>
 jn (n := 1) (fun t4 =>
 jn (n := 1) (fun t4_1 =>
 jn (n := 1) (fun t4_2 =>
 jn (n := 1) (fun t4_3 =>
 R (.int .i64 0)) fun J1 =>
 A0 PR (binOp .gtr 89 t0 t1) fun t19 =>
 C4 t19 (
 R (.int .i64 1)) (
 J1 t4_2)) fun J2 =>
 A0 PR (binOp .lss 89 t0 t1) fun t16 =>
 C4 t16 (
 R (.int .i64 (-1))) (
 J2 t4_1)) fun J3 =>
 C4 t10 (
 R (.int .i64 1)) (
 J3 t4)) fun J4 =>
 C4 t8 (
 jn (n := 1) (fun t4_4 =>
 R (.int .i64 (-1))) fun J5 =>
 C4 t10 (
 R (.int .i64 0)) (
 J5 (.int .i64 0))) (
 J4 (.int .i64 0))
theorem A5k : A9 PR 217 := A7 Tryz.func217 (by kernel_rfl) rfl
theorem A6d {X : Nat → Prop} {t0 t1 : Value} {R : Value → WP} {w : World} (h : A0p X t0 t1 R w) : Fn PR X 217 #[t0, t1] w R := C3 (args := [t0, t1]) mixed Tryz.func217 (by kernel_rfl) h
theorem A7e {X : Nat → Prop} {t0 t1 : Value} {K : Value → WP} {w : World} (h : Fn PR X 217 #[t0, t1] w K) : B4 PR X 217 [t0, t1] K w := Or.inl ⟨A5k, h⟩
def A2Z (X : Nat → Prop) (t0 t1 : Value) (R : Value → WP) : WP :=
 B4 PR X 252 [t0] fun t8 =>
 B4 PR X 252 [t1] fun t10 =>
 jn (n := 1) (fun t4 =>
 jn (n := 1) (fun t4_1 =>
 jn (n := 1) (fun t4_2 =>
 jn (n := 1) (fun t4_3 =>
 R (.int .i64 0)) fun J1 =>
 A0 PR (binOp .gtr 3 t0 t1) fun t19 =>
 C4 t19 (
 R (.int .i64 1)) (
 J1 t4_2)) fun J2 =>
 A0 PR (binOp .lss 3 t0 t1) fun t16 =>
 C4 t16 (
 R (.int .i64 (-1))) (
 J2 t4_1)) fun J3 =>
 C4 t10 (
 R (.int .i64 1)) (
 J3 t4)) fun J4 =>
 C4 t8 (
 jn (n := 1) (fun t4_4 =>
 R (.int .i64 (-1))) fun J5 =>
 C4 t10 (
 R (.int .i64 0)) (
 J5 (.int .i64 0))) (
 J4 (.int .i64 0))
theorem A82 : A9 PR 218 := A7 Tryz.func218 (by kernel_rfl) rfl
theorem A9k {X : Nat → Prop} {t0 t1 : Value} {R : Value → WP} {w : World} (h : A2Z X t0 t1 R w) : Fn PR X 218 #[t0, t1] w R := C3 (args := [t0, t1]) mixed Tryz.func218 (by kernel_rfl) h
theorem B0v {X : Nat → Prop} {t0 t1 : Value} {K : Value → WP} {w : World} (h : Fn PR X 218 #[t0, t1] w K) : B4 PR X 218 [t0, t1] K w := Or.inl ⟨A82, h⟩
def j4 (X : Nat → Prop) (t0 : Value) (R : Value → WP) : WP :=
 A0 PR (B6 t0) fun t3 =>
 A0 PR (Instr.fieldAt 303 t3 0) fun t4 =>
 A6 PR (Instr.loadAt 300 t4) fun t5 =>
 A6 PR (H8 .eql 300 (.tmp 5) (.const (.pointer none)) t5 (.pointer none)) fun t6 =>
 C4 t6 (
 A6 PR (convert 300 391 t0) fun t9 =>
 B4 PR X 264 [t9] fun t10 =>
 A6 PR (convert 391 300 t10) fun t11 =>
 A0 PR (B6 t0) fun t12 =>
 A0 PR (Instr.fieldAt 303 t12 0) fun t13 =>
 C0 PR X (Instr.storeAt 300 t13 t11) <|
 R (.tuple #[])) (
 A0 PR (B6 t0) fun t15 =>
 A0 PR (Instr.fieldAt 303 t15 0) fun t16 =>
 A6 PR (Instr.loadAt 300 t16) fun t17 =>
 A6 PR (H8 .neq 300 (.tmp 17) (.tmp 18) t17 t0) fun t19 =>
 C4 t19 (
 G2) (
 R (.tuple #[])))
theorem A1P : A9 PR 232 := A7 Tryz.func232 (by kernel_rfl) rfl
theorem A2A {X : Nat → Prop} {t0 : Value} {R : Value → WP} {w : World} (h : j4 X t0 R w) : Fn PR X 232 #[t0] w R := C3 (args := [t0]) mixed Tryz.func232 (by kernel_rfl) h
def N8 (X : Nat → Prop) (t0 t1 : Value) (R : Value → WP) : WP :=
 B2 PR X (Instr.box 281 t0) fun t2 =>
 jn (n := 0) (
 A6 PR (Instr.loadAt 281 t2) fun t12 =>
 d9 (R t12)) fun J1 =>
 rng (N := 1) PR X (fun t7 K2 =>
 B2 PR (fun _ => False) (Instr.alloc 284 true (.tuple #[])) fun t5 =>
 C0 PR (fun _ => False) (Instr.storeAt 284 t5 t7) <|
 bgn <|
 A6 PR (Instr.loadAt 281 t2) fun t8 =>
 A6 PR (Instr.loadAt 284 t5) fun t9 =>
 B2 PR (fun _ => False) (Instr.buildSlice 281 1 #[(0, t9)]) fun t10 =>
 B2 PR (fun _ => False) (A8 .append #[281, 281] 281 [t8, t10]) fun t11 =>
 C0 PR (fun _ => False) (Instr.storeAt 281 t2 t11) <|
 K2 none) t1 (fun j => match j with | none => (J1) | some (.exit i) => (match Nat.beq i 0 with | true => (J1) | false => (G2)) | some .ret => (d9 (R (.slice none 0 0))) | some _ => G2)
theorem W9 : A9 PR 248 := A7 Tryz.func248 (by kernel_rfl) rfl
theorem Z8 {X : Nat → Prop} {t0 t1 : Value} {R : Value → WP} {w : World} (h : N8 X t0 t1 R w) : Fn PR X 248 #[t0, t1] w R := C3 (args := [t0, t1]) mixed Tryz.func248 (by kernel_rfl) h
def A1S (X : Nat → Prop) (t0 : Value) (R : Value → WP) : WP :=
 A0 PR (binOp .neq 89 t0 t0) fun t5 =>
 R t5
theorem A7v : A9 PR 251 := A7 Tryz.func251 (by kernel_rfl) rfl
theorem A8w {X : Nat → Prop} {t0 : Value} {R : Value → WP} {w : World} (h : A1S X t0 R w) : Fn PR X 251 #[t0] w R := C3 (args := [t0]) mixed Tryz.func251 (by kernel_rfl) h
theorem A2x {X : Nat → Prop} {t0 : Value} {K : Value → WP} {w : World} (h : Fn PR X 251 #[t0] w K) : B4 PR X 251 [t0] K w := Or.inl ⟨A7v, h⟩
def A3e (X : Nat → Prop) (t0 : Value) (R : Value → WP) : WP :=
 A0 PR (binOp .neq 3 t0 t0) fun t5 =>
 R t5
theorem B0w : A9 PR 252 := A7 Tryz.func252 (by kernel_rfl) rfl
theorem B1J {X : Nat → Prop} {t0 : Value} {R : Value → WP} {w : World} (h : A3e X t0 R w) : Fn PR X 252 #[t0] w R := C3 (args := [t0]) mixed Tryz.func252 (by kernel_rfl) h
theorem A5P {X : Nat → Prop} {t0 : Value} {K : Value → WP} {w : World} (h : Fn PR X 252 #[t0] w K) : B4 PR X 252 [t0] K w := Or.inl ⟨B0w, h⟩
def P5 (X : Nat → Prop) (t0 t1 : Value) (R : Value → WP) : WP :=
 jn (n := 2) (fun t4 t8 =>
 R (.int .i64 (-1))) fun J1 =>
 A0 PR (A8 .len #[58] 0 [t0]) fun t7 =>
 lp (n := 2) (fun L2 t4_1 t8_1 =>
 A0 PR (binOp .lss 3 t8_1 t7) fun t9 =>
 jn (n := 0) (
 jn (n := 1) (fun t4_2 =>
 A0 PR (binOp .add 3 t8_1 (.int .i64 1)) fun t18 =>
 L2 t4_2 t18) fun J3 =>
 A0 PR (Instr.indexAt 58 t0 t8_1) fun t14 =>
 A6 PR (Instr.loadAt 155 t14) fun t15 =>
 L5 PR X t1 [t15] fun t16 =>
 C4 t16 (
 R t8_1) (
 J3 t4_1)) fun J4 =>
 C4 t9 (
 J4) (
 J1 t4_1 t8_1)) (.int .i64 0) (.int .i64 0)
theorem c9 : A9 PR 266 := A7 Tryz.func266 (by kernel_rfl) rfl
theorem e9 {X : Nat → Prop} {t0 t1 : Value} {R : Value → WP} {w : World} (h : P5 X t0 t1 R w) : Fn PR X 266 #[t0, t1] w R := C3 (args := [t0, t1]) mixed Tryz.func266 (by kernel_rfl) h
theorem A2b : A9 PR 341 := A7 Tryz.func341 (by kernel_rfl) rfl
end Go.Proofs.YtjobgnabneddjaaGreat
namespace Go.Proofs.YtjobgnabneddjaaGreat
open Go
def A9G (X : Nat → Prop) (t0 t1 t2 : Value) (R : Value → WP) : WP :=
 B2 PR X (Instr.box 9 t0) fun t3 =>
 B2 PR X (Instr.box 3 t1) fun t4 =>
 jn (n := 2) (fun t6 t7 =>
 B2 PR X (Instr.alloc 89 true (.tuple #[])) fun t8 =>
 jn (n := 0) (
 A6 PR (Instr.loadAt 89 t8) fun t43 =>
 d9 (R (.tuple #[t43, (.bool true)]))) fun J1 =>
 B4 PR X 199 [t2] fun t30 =>
 rng (N := 2) PR X (fun t31 t32 K2 =>
 bgn <|
 drw <|
 A6 PR (Instr.loadAt 89 t8) fun t33 =>
 A6 PR (Instr.loadAt 9 t3) fun t34 =>
 A6 PR (Instr.loadAt 3 t4) fun t35 =>
 A0 PR (binOp .add 3 t35 t31) fun t37 =>
 A0 PR (Instr.index 9 t34 t37) fun t38 =>
 A0 PR (convert 5 89 t38) fun t39 =>
 A0 PR (binOp .shl 89 t39 t32) fun t41 =>
 A0 PR (binOp .or 89 t33 t41) fun t42 =>
 C0 PR (fun _ => False) (Instr.storeAt 89 t8 t42) <|
 K2 none) t30 (fun j => match j with | none => (J1) | some (.exit i) => (match Nat.beq i 0 with | true => (J1) | false => (G2)) | some .ret => (d9 (R (.tuple #[t6, t7]))) | some _ => G2)) fun J3 =>
 A0 PR (binOp .lss 3 t2 (.int .i64 1)) fun t12 =>
 gj t12 false (fun J => J t2) fun t14 =>
 gj t12 false (fun J => A0 PR (binOp .gtr 3 t14 (.int .i64 8)) J) fun t15 =>
 A0 PR (do pure (if ← asBool t12 then (.bool true) else t15)) fun t16 =>
 gj t16 false (fun J => A6 PR (Instr.loadAt 3 t4) J) fun t18 =>
 gj t16 false (fun J => A0 PR (binOp .lss 3 t18 (.int .i64 0)) J) fun t19 =>
 A0 PR (do pure (if ← asBool t16 then (.bool true) else t19)) fun t20 =>
 gj t20 false (fun J => A6 PR (Instr.loadAt 3 t4) J) fun t22 =>
 gj t20 false (fun J => A6 PR (Instr.loadAt 9 t3) J) fun t23 =>
 gj t20 false (fun J => A0 PR (A8 .len #[9] 0 [t23]) J) fun t24 =>
 gj t20 false (fun J => J t2) fun t25 =>
 gj t20 false (fun J => A0 PR (binOp .sub 3 t24 t25) J) fun t26 =>
 gj t20 false (fun J => A0 PR (binOp .gtr 3 t22 t26) J) fun t27 =>
 A0 PR (do pure (if ← asBool t20 then (.bool true) else t27)) fun t28 =>
 C4 t28 (
 d9 (R (.tuple #[(.int .u64 0), (.bool false)]))) (
 J3 (.int .u64 0) (.bool false))
theorem S2 : A9 PR 145 := A7 Tryz.func145 (by kernel_rfl) rfl
theorem B7Y {X : Nat → Prop} {t0 t1 t2 : Value} {R : Value → WP} {w : World} (h : A9G X t0 t1 t2 R w) : Fn PR X 145 #[t0, t1, t2] w R := C3 (args := [t0, t1, t2]) mixed Tryz.func145 (by kernel_rfl) h
def A85 (X : Nat → Prop) (t0 t1 : Value) (R : Value → WP) : WP :=
 B2 PR X (Instr.box 89 t0) fun t2 =>
 jn (n := 1) (fun t4 =>
 B2 PR X (Instr.makeSlice 301 t1 t1) fun t15 =>
 B2 PR X (Instr.alloc 301 true (.tuple #[])) fun t5 =>
 C0 PR X (Instr.storeAt 301 t5 t15) <|
 jn (n := 0) (
 A6 PR (Instr.loadAt 301 t5) fun t27 =>
 A6 PR (convert 301 9 t27) fun t28 =>
 d9 (R t28)) fun J1 =>
 B4 PR X 199 [t1] fun t17 =>
 rng (N := 2) PR X (fun t18 t19 K2 =>
 bgn <|
 A6 PR (Instr.loadAt 301 t5) fun t20 =>
 A6 PR (Instr.loadAt 89 t2) fun t22 =>
 A0 PR (binOp .shr 89 t22 t19) fun t24 =>
 A0 PR (convert 89 5 t24) fun t25 =>
 A0 PR (Instr.indexAt 301 t20 t18) fun t26 =>
 C0 PR (fun _ => False) (Instr.storeAt 5 t26 t25) <|
 K2 none) t17 (fun j => match j with | none => (J1) | some (.exit i) => (match Nat.beq i 0 with | true => (J1) | false => (G2)) | some .ret => (d9 (R t4)) | some _ => G2)) fun J3 =>
 A0 PR (binOp .lss 3 t1 (.int .i64 1)) fun t9 =>
 gj t9 false (fun J => J t1) fun t11 =>
 gj t9 false (fun J => A0 PR (binOp .gtr 3 t11 (.int .i64 8)) J) fun t12 =>
 A0 PR (do pure (if ← asBool t9 then (.bool true) else t12)) fun t13 =>
 C4 t13 (
 d9 (R (.string (ByteArray.mk #[])))) (
 J3 (.string (ByteArray.mk #[])))
theorem G7 : A9 PR 176 := A7 Tryz.func176 (by kernel_rfl) rfl
theorem B6B {X : Nat → Prop} {t0 t1 : Value} {R : Value → WP} {w : World} (h : A85 X t0 t1 R w) : Fn PR X 176 #[t0, t1] w R := C3 (args := [t0, t1]) mixed Tryz.func176 (by kernel_rfl) h
def A6Q (X : Nat → Prop) (t0 : Value) (R : Value → WP) : WP :=
 B2 PR X (Instr.box 3 t0) fun t1 =>
 A0 PR (Instr.makeFunc (.func 243) #[] #[t1]) fun t3 =>
 R t3
theorem A49 : A9 PR 199 := A7 Tryz.func199 (by kernel_rfl) rfl
theorem B3U {X : Nat → Prop} {t0 : Value} {R : Value → WP} {w : World} (h : A6Q X t0 R w) : Fn PR X 199 #[t0] w R := C3 (args := [t0]) mixed Tryz.func199 (by kernel_rfl) h
def A3F (X : Nat → Prop) (t0 t1 : Value) (R : Value → WP) : WP :=
 A6 PR (Instr.loadAt 3 t1) fun t4 =>
 lp (n := 1) (fun L1 t5 =>
 A0 PR (binOp .lss 3 t5 t4) fun t6 =>
 jn (n := 0) (
 jn (n := 0) (
 A0 PR (binOp .add 3 t5 (.int .i64 1)) fun t18 =>
 L1 t18) fun J2 =>
 A6 PR (Instr.loadAt 3 t1) fun t10 =>
 A0 PR (binOp .sub 3 t10 (.int .i64 1)) fun t11 =>
 A0 PR (binOp .sub 3 t11 t5) fun t13 =>
 A0 PR (binOp .mul 3 (.int .i64 8) t13) fun t14 =>
 A0 PR (convert 3 242 t14) fun t15 =>
 L5 PR X t0 [t5, t15] fun t16 =>
 A0 PR (Op.unary .not t16) fun t17 =>
 C4 t17 (
 R (.tuple #[])) (
 J2)) fun J3 =>
 C4 t6 (
 J3) (
 R (.tuple #[]))) (.int .i64 0)
theorem A9u : A9 PR 243 := A7 Tryz.func243 (by kernel_rfl) rfl
theorem B0j {X : Nat → Prop} {t0 t1 : Value} {R : Value → WP} {w : World} (h : A3F X t0 t1 R w) : Fn PR X 243 #[t0, t1] w R := C3 (args := [t0, t1]) mixed Tryz.func243 (by kernel_rfl) h
theorem B0u {X : Nat → Prop} {t0 t1 : Value} {K : Value → WP} {w : World} (h : Fn PR X 243 #[t0, t1] w K) : A00 PR X 243 [t0, t1] K w := ⟨A9u, h⟩
end Go.Proofs.YtjobgnabneddjaaGreat
namespace Go.Proofs.YtjobgnabneddjaaGreat
open Go
theorem C4g : TI PR 144 Tryz.t144.desc 10 80 (.agg #[.nilFunc, .nilFunc, .nilFunc, .nilFunc, .nilFunc, .nilFunc, .nilFunc, .nilFunc, .nilFunc, .nilFunc]) := ⟨Tryz.underlying144, Tryz.t144, by kernel_rfl, rfl, rfl, rfl⟩
theorem A7G : TI PR 148 Tryz.t147.desc 3 24 (.agg #[(.int .i64 0), (.int .i64 0), (.int .i64 0)]) := ⟨Tryz.underlying148, Tryz.t148, by kernel_rfl, rfl, rfl, rfl⟩
theorem B0c : TI PR 155 Tryz.t154.desc 2 16 (.agg #[(.int .i64 0), (.int .i64 0)]) := ⟨Tryz.underlying155, Tryz.t155, by kernel_rfl, rfl, rfl, rfl⟩
theorem C9w : TI PR 180 Tryz.t180.desc 1 8 .nilFunc := ⟨Tryz.underlying180, Tryz.t180, by kernel_rfl, rfl, rfl, rfl⟩
theorem A4m : TI PR 195 Tryz.t194.desc 2 48 (.agg #[(.slice none 0 0), (.slice none 0 0)]) := ⟨Tryz.underlying195, Tryz.t195, by kernel_rfl, rfl, rfl, rfl⟩
theorem A2P : TI PR 218 Tryz.t217.desc 4 40 (.agg #[(.int .i64 0), (.string (ByteArray.mk #[])), (.int .i64 0), (.int .i64 0)]) := ⟨Tryz.underlying218, Tryz.t218, by kernel_rfl, rfl, rfl, rfl⟩
theorem B0W : TI PR 224 Tryz.t223.desc 3 40 (.agg #[(.string (ByteArray.mk #[])), (.string (ByteArray.mk #[])), (.int .i64 0)]) := ⟨Tryz.underlying224, Tryz.t224, by kernel_rfl, rfl, rfl, rfl⟩
theorem B0T : TI PR 226 Tryz.t223.desc 3 40 (.agg #[(.string (ByteArray.mk #[])), (.string (ByteArray.mk #[])), (.int .i64 0)]) := ⟨Tryz.underlying226, Tryz.t226, by kernel_rfl, rfl, rfl, rfl⟩
theorem B0b : TI PR 263 Tryz.t133.desc 0 0 (.agg #[]) := ⟨Tryz.underlying263, Tryz.t263, by kernel_rfl, rfl, rfl, rfl⟩
theorem B6y : TI PR 27 Tryz.t3.desc 1 8 (.int .i64 0) := ⟨Tryz.underlying27, Tryz.t27, by kernel_rfl, rfl, rfl, rfl⟩
theorem A7D : TI PR 284 Tryz.t283.desc 2 16 (.agg #[(.int .u64 0), (.int .i64 0)]) := ⟨Tryz.underlying284, Tryz.t284, by kernel_rfl, rfl, rfl, rfl⟩
theorem K3 : TI PR 3 Tryz.t3.desc 1 8 (.int .i64 0) := ⟨Tryz.underlying3, Tryz.t3, by kernel_rfl, rfl, rfl, rfl⟩
theorem A3Q : TI PR 301 Tryz.t301.desc 1 24 (.slice none 0 0) := ⟨Tryz.underlying301, Tryz.t301, by kernel_rfl, rfl, rfl, rfl⟩
theorem B0Z : TI PR 303 Tryz.t302.desc 2 32 (.agg #[(.pointer none), (.slice none 0 0)]) := ⟨Tryz.underlying303, Tryz.t303, by kernel_rfl, rfl, rfl, rfl⟩
theorem C49 : TI PR 305 Tryz.t304.desc 2 32 (.agg #[(.pointer none), (.slice none 0 0)]) := ⟨Tryz.underlying305, Tryz.t305, by kernel_rfl, rfl, rfl, rfl⟩
theorem B98 : TI PR 324 Tryz.t84.desc 1 24 (.slice none 0 0) := ⟨Tryz.underlying324, Tryz.t324, by kernel_rfl, rfl, rfl, rfl⟩
theorem B0Y : TI PR 330 Tryz.t329.desc 2 16 (.agg #[.nilFunc, (.int .i64 0)]) := ⟨Tryz.underlying330, Tryz.t330, by kernel_rfl, rfl, rfl, rfl⟩
theorem B9f : TI PR 355 Tryz.t355.desc 38 38 (.agg #[(.int .u8 0), (.int .u8 0), (.int .u8 0), (.int .u8 0), (.int .u8 0), (.int .u8 0), (.int .u8 0), (.int .u8 0), (.int .u8 0), (.int .u8 0), (.int .u8 0), (.int .u8 0), (.int .u8 0), (.int .u8 0), (.int .u8 0), (.int .u8 0), (.int .u8 0), (.int .u8 0), (.int .u8 0), (.int .u8 0), (.int .u8 0), (.int .u8 0), (.int .u8 0), (.int .u8 0), (.int .u8 0), (.int .u8 0), (.int .u8 0), (.int .u8 0), (.int .u8 0), (.int .u8 0), (.int .u8 0), (.int .u8 0), (.int .u8 0), (.int .u8 0), (.int .u8 0), (.int .u8 0), (.int .u8 0), (.int .u8 0)]) := ⟨Tryz.underlying355, Tryz.t355, by kernel_rfl, rfl, rfl, rfl⟩
theorem C8L : TI PR 368 Tryz.t368.desc 1 8 .nilFunc := ⟨Tryz.underlying368, Tryz.t368, by kernel_rfl, rfl, rfl, rfl⟩
theorem C5G : TI PR 370 Tryz.t89.desc 1 8 (.int .u64 0) := ⟨Tryz.underlying370, Tryz.t370, by kernel_rfl, rfl, rfl, rfl⟩
theorem B1V : TI PR 42 Tryz.t41.desc 3 3 (.agg #[(.bool false), (.bool false), (.bool false)]) := ⟨Tryz.underlying42, Tryz.t42, by kernel_rfl, rfl, rfl, rfl⟩
theorem A3w : TI PR 45 Tryz.t44.desc 6 64 (.agg #[(.int .i64 0), (.string (ByteArray.mk #[])), (.string (ByteArray.mk #[])), (.int .i64 0), (.int .i64 0), (.int .i64 0)]) := ⟨Tryz.underlying45, Tryz.t45, by kernel_rfl, rfl, rfl, rfl⟩
theorem B3N : TI PR 47 Tryz.t46.desc 7 72 (.agg #[(.int .i64 0), (.string (ByteArray.mk #[])), (.string (ByteArray.mk #[])), (.int .i64 0), (.int .i64 0), (.int .i64 0), (.int .i64 0)]) := ⟨Tryz.underlying47, Tryz.t47, by kernel_rfl, rfl, rfl, rfl⟩
theorem C0d : TI PR 51 Tryz.t51.desc 1 24 (.slice none 0 0) := ⟨Tryz.underlying51, Tryz.t51, by kernel_rfl, rfl, rfl, rfl⟩
theorem A7S : TI PR 55 Tryz.t54.desc 4 32 (.agg #[(.int .i64 0), (.int .i64 0), (.bool false), (.int .i64 0)]) := ⟨Tryz.underlying55, Tryz.t55, by kernel_rfl, rfl, rfl, rfl⟩
theorem A9y : TI PR 84 Tryz.t84.desc 1 24 (.slice none 0 0) := ⟨Tryz.underlying84, Tryz.t84, by kernel_rfl, rfl, rfl, rfl⟩
theorem A9x : TI PR 89 Tryz.t89.desc 1 8 (.int .u64 0) := ⟨Tryz.underlying89, Tryz.t89, by kernel_rfl, rfl, rfl, rfl⟩
theorem B2y : TI PR 103 Tryz.t103.desc 1 24 (.slice none 0 0) := ⟨Tryz.underlying103, Tryz.t103, by kernel_rfl, rfl, rfl, rfl⟩
theorem A7r : TI PR 270 Tryz.t269.desc 2 32 (.agg #[(.int .i64 0), (.slice none 0 0)]) := ⟨Tryz.underlying270, Tryz.t270, by kernel_rfl, rfl, rfl, rfl⟩
theorem B9d : TI PR 104 Tryz.t104.desc 1 24 (.slice none 0 0) := ⟨Tryz.underlying104, Tryz.t104, by kernel_rfl, rfl, rfl, rfl⟩
theorem C8Z : TI PR 277 Tryz.t276.desc 2 16 (.agg #[(.int .i64 0), (.int .i64 0)]) := ⟨Tryz.underlying277, Tryz.t277, by kernel_rfl, rfl, rfl, rfl⟩
theorem C0b : TI PR 193 Tryz.t193.desc 1 24 (.slice none 0 0) := ⟨Tryz.underlying193, Tryz.t193, by kernel_rfl, rfl, rfl, rfl⟩
theorem B5j : TI PR 290 Tryz.t283.desc 2 16 (.agg #[(.int .u64 0), (.int .i64 0)]) := ⟨Tryz.underlying290, Tryz.t290, by kernel_rfl, rfl, rfl, rfl⟩
theorem B5r : TI PR 281 Tryz.t281.desc 1 24 (.slice none 0 0) := ⟨Tryz.underlying281, Tryz.t281, by kernel_rfl, rfl, rfl, rfl⟩
theorem B36 : TI PR 36 Tryz.t36.desc 1 24 (.slice none 0 0) := ⟨Tryz.underlying36, Tryz.t36, by kernel_rfl, rfl, rfl, rfl⟩
theorem A64 : TI PR 37 Tryz.t37.desc 1 24 (.slice none 0 0) := ⟨Tryz.underlying37, Tryz.t37, by kernel_rfl, rfl, rfl, rfl⟩
theorem ty9 : TI PR 9 Tryz.t9.desc 1 16 (.string (ByteArray.mk #[])) := ⟨Tryz.underlying9, Tryz.t9, by kernel_rfl, rfl, rfl, rfl⟩
theorem B4L : TI PR 58 Tryz.t58.desc 1 24 (.slice none 0 0) := ⟨Tryz.underlying58, Tryz.t58, by kernel_rfl, rfl, rfl, rfl⟩
theorem A3K : TI PR 106 Tryz.t105.desc 14 208 (.agg #[(.int .i64 0), (.int .i64 0), (.int .i64 0), (.int .i64 0), (.int .i64 0), (.int .i64 0), (.int .i64 0), (.slice none 0 0), (.slice none 0 0), (.slice none 0 0), (.slice none 0 0), (.slice none 0 0), (.slice none 0 0), (.int .i64 0)]) := ⟨Tryz.underlying106, Tryz.t106, by kernel_rfl, rfl, rfl, rfl⟩
@[simp] theorem C6P {v0 v1 v2 : Value} (h0 : v0.cells.size = 5) (h1 : v1.cells.size = 1) (h2 : v2.cells.size = 1) (K : Value → WP) : A0 PR (Instr.build 106 #[(0, v0), (3, v1), (8, v2)]) K = K (.agg (E8 (E8 (E8 #[(.int .i64 0), (.int .i64 0), (.int .i64 0), (.int .i64 0), (.int .i64 0), (.int .i64 0), (.int .i64 0), (.slice none 0 0), (.slice none 0 0), (.slice none 0 0), (.slice none 0 0), (.slice none 0 0), (.slice none 0 0), (.int .i64 0)] 0 v0.cells.toList) 7 v1.cells.toList) 12 v2.cells.toList)) := E7 (pl := #[(0, 5), (5, 1), (6, 1), (7, 1), (8, 1), (9, 1), (10, 1), (11, 1), (12, 1), (13, 1)]) A3K (fun w => by kernel_rfl) (by rw [B7 rfl h0 (by simp [B9]), B7 rfl h1 (by simp [B9]), B7 rfl h2 (by simp [B9])]; rfl)
theorem B0d : TI PR 128 Tryz.t127.desc 4 48 (.agg #[(.string (ByteArray.mk #[])), (.string (ByteArray.mk #[])), (.int .i64 0), (.bool false)]) := ⟨Tryz.underlying128, Tryz.t128, by kernel_rfl, rfl, rfl, rfl⟩
@[simp] theorem C92 {v0 : Value} (h0 : v0.cells.size = 1) (K : Value → WP) : A0 PR (Instr.build 128 #[(0, v0)]) K = K (.agg (E8 #[(.string (ByteArray.mk #[])), (.string (ByteArray.mk #[])), (.int .i64 0), (.bool false)] 0 v0.cells.toList)) := E7 (pl := #[(0, 1), (1, 1), (2, 1), (3, 1)]) B0d (fun w => by kernel_rfl) (by rw [B7 rfl h0 (by simp [B9])]; rfl)
theorem A3P : TI PR 130 Tryz.t129.desc 14 144 (.agg #[(.string (ByteArray.mk #[])), (.string (ByteArray.mk #[])), (.int .i64 0), (.bool false), (.int .i64 0), (.int .i64 0), (.int .i64 0), (.int .i64 0), (.int .i64 0), (.slice none 0 0), (.int .i64 0), (.int .i64 0), (.bool false), (.int .i64 0)]) := ⟨Tryz.underlying130, Tryz.t130, by kernel_rfl, rfl, rfl, rfl⟩
@[simp] theorem C7V {v0 v1 : Value} (h0 : v0.cells.size = 4) (h1 : v1.cells.size = 1) (K : Value → WP) : A0 PR (Instr.build 130 #[(0, v0), (1, v1)]) K = K (.agg (E8 (E8 #[(.string (ByteArray.mk #[])), (.string (ByteArray.mk #[])), (.int .i64 0), (.bool false), (.int .i64 0), (.int .i64 0), (.int .i64 0), (.int .i64 0), (.int .i64 0), (.slice none 0 0), (.int .i64 0), (.int .i64 0), (.bool false), (.int .i64 0)] 0 v0.cells.toList) 4 v1.cells.toList)) := E7 (pl := #[(0, 4), (4, 1), (5, 1), (6, 1), (7, 1), (8, 1), (9, 1), (10, 4)]) A3P (fun w => by kernel_rfl) (by rw [B7 rfl h0 (by simp [B9]), B7 rfl h1 (by simp [B9])]; rfl)
theorem B5l : TI PR 141 Tryz.t140.desc 3 56 (.agg #[(.int .i64 0), (.slice none 0 0), (.slice none 0 0)]) := ⟨Tryz.underlying141, Tryz.t141, by kernel_rfl, rfl, rfl, rfl⟩
@[simp] theorem C6q {v0 v1 : Value} (h0 : v0.cells.size = 1) (h1 : v1.cells.size = 1) (K : Value → WP) : A0 PR (Instr.build 141 #[(1, v0), (2, v1)]) K = K (.agg (E8 (E8 #[(.int .i64 0), (.slice none 0 0), (.slice none 0 0)] 1 v0.cells.toList) 2 v1.cells.toList)) := E7 (pl := #[(0, 1), (1, 1), (2, 1)]) B5l (fun w => by kernel_rfl) (by rw [B7 rfl h0 (by simp [B9]), B7 rfl h1 (by simp [B9])]; rfl)
@[simp] theorem D15  (K : Value → WP) : A0 PR (Instr.build 148 #[]) K = K (.agg #[(.int .i64 0), (.int .i64 0), (.int .i64 0)]) := E7 (pl := #[(0, 1), (1, 1), (2, 1)]) A7G (fun w => by kernel_rfl) rfl
@[simp] theorem C7z {v0 v1 : Value} (h0 : v0.cells.size = 1) (h1 : v1.cells.size = 1) (K : Value → WP) : A0 PR (Instr.build 148 #[(0, v0), (1, v1)]) K = K (.agg (E8 (E8 #[(.int .i64 0), (.int .i64 0), (.int .i64 0)] 0 v0.cells.toList) 1 v1.cells.toList)) := E7 (pl := #[(0, 1), (1, 1), (2, 1)]) A7G (fun w => by kernel_rfl) (by rw [B7 rfl h0 (by simp [B9]), B7 rfl h1 (by simp [B9])]; rfl)
@[simp] theorem C5e {v0 v1 v2 : Value} (h0 : v0.cells.size = 1) (h1 : v1.cells.size = 1) (h2 : v2.cells.size = 1) (K : Value → WP) : A0 PR (Instr.build 148 #[(0, v0), (1, v1), (2, v2)]) K = K (.agg (E8 (E8 (E8 #[(.int .i64 0), (.int .i64 0), (.int .i64 0)] 0 v0.cells.toList) 1 v1.cells.toList) 2 v2.cells.toList)) := E7 (pl := #[(0, 1), (1, 1), (2, 1)]) A7G (fun w => by kernel_rfl) (by rw [B7 rfl h0 (by simp [B9]), B7 rfl h1 (by simp [B9]), B7 rfl h2 (by simp [B9])]; rfl)
theorem B2D : TI PR 158 Tryz.t158.desc 2 16 (.agg #[(.int .i64 0), (.int .i64 0)]) := ⟨Tryz.underlying158, Tryz.t158, by kernel_rfl, rfl, rfl, rfl⟩
@[simp] theorem C7s {v0 v1 : Value} (h0 : v0.cells.size = 1) (h1 : v1.cells.size = 1) (K : Value → WP) : A0 PR (Instr.build 195 #[(0, v0), (1, v1)]) K = K (.agg (E8 (E8 #[(.slice none 0 0), (.slice none 0 0)] 0 v0.cells.toList) 1 v1.cells.toList)) := E7 (pl := #[(0, 1), (1, 1)]) A4m (fun w => by kernel_rfl) (by rw [B7 rfl h0 (by simp [B9]), B7 rfl h1 (by simp [B9])]; rfl)
theorem C87 : TI PR 203 Tryz.t202.desc 17 136 (.agg #[(.int .i64 0), (.int .i64 0), (.int .i64 0), (.int .i64 0), (.int .i64 0), (.int .i64 0), (.int .i64 0), (.int .i64 0), (.int .i64 0), (.int .i64 0), (.int .i64 0), (.int .i64 0), (.int .i64 0), (.int .i64 0), (.int .i64 0), (.int .i64 0), (.int .i64 0)]) := ⟨Tryz.underlying203, Tryz.t203, by kernel_rfl, rfl, rfl, rfl⟩
@[simp] theorem C9n {v0 : Value} (h0 : v0.cells.size = 1) (K : Value → WP) : A0 PR (Instr.build 203 #[(1, v0)]) K = K (.agg (E8 #[(.int .i64 0), (.int .i64 0), (.int .i64 0), (.int .i64 0), (.int .i64 0), (.int .i64 0), (.int .i64 0), (.int .i64 0), (.int .i64 0), (.int .i64 0), (.int .i64 0), (.int .i64 0), (.int .i64 0), (.int .i64 0), (.int .i64 0), (.int .i64 0), (.int .i64 0)] 16 v0.cells.toList)) := E7 (pl := #[(0, 16), (16, 1)]) C87 (fun w => by kernel_rfl) (by rw [B7 rfl h0 (by simp [B9])]; rfl)
@[simp] theorem C3c {v0 v1 v2 v3 : Value} (h0 : v0.cells.size = 1) (h1 : v1.cells.size = 1) (h2 : v2.cells.size = 1) (h3 : v3.cells.size = 1) (K : Value → WP) : A0 PR (Instr.build 218 #[(0, v0), (1, v1), (2, v2), (3, v3)]) K = K (.agg (E8 (E8 (E8 (E8 #[(.int .i64 0), (.string (ByteArray.mk #[])), (.int .i64 0), (.int .i64 0)] 0 v0.cells.toList) 1 v1.cells.toList) 2 v2.cells.toList) 3 v3.cells.toList)) := E7 (pl := #[(0, 1), (1, 1), (2, 1), (3, 1)]) A2P (fun w => by kernel_rfl) (by rw [B7 rfl h0 (by simp [B9]), B7 rfl h1 (by simp [B9]), B7 rfl h2 (by simp [B9]), B7 rfl h3 (by simp [B9])]; rfl)
@[simp] theorem C9a {v0 : Value} (h0 : v0.cells.size = 1) (K : Value → WP) : A0 PR (Instr.build 218 #[(0, v0)]) K = K (.agg (E8 #[(.int .i64 0), (.string (ByteArray.mk #[])), (.int .i64 0), (.int .i64 0)] 0 v0.cells.toList)) := E7 (pl := #[(0, 1), (1, 1), (2, 1), (3, 1)]) A2P (fun w => by kernel_rfl) (by rw [B7 rfl h0 (by simp [B9])]; rfl)
@[simp] theorem D0w  (K : Value → WP) : A0 PR (Instr.build 224 #[]) K = K (.agg #[(.string (ByteArray.mk #[])), (.string (ByteArray.mk #[])), (.int .i64 0)]) := E7 (pl := #[(0, 1), (1, 1), (2, 1)]) B0W (fun w => by kernel_rfl) rfl
@[simp] theorem C50 {v0 v1 v2 : Value} (h0 : v0.cells.size = 1) (h1 : v1.cells.size = 1) (h2 : v2.cells.size = 1) (K : Value → WP) : A0 PR (Instr.build 224 #[(0, v0), (1, v1), (2, v2)]) K = K (.agg (E8 (E8 (E8 #[(.string (ByteArray.mk #[])), (.string (ByteArray.mk #[])), (.int .i64 0)] 0 v0.cells.toList) 1 v1.cells.toList) 2 v2.cells.toList)) := E7 (pl := #[(0, 1), (1, 1), (2, 1)]) B0W (fun w => by kernel_rfl) (by rw [B7 rfl h0 (by simp [B9]), B7 rfl h1 (by simp [B9]), B7 rfl h2 (by simp [B9])]; rfl)
@[simp] theorem D00  (K : Value → WP) : A0 PR (Instr.build 226 #[]) K = K (.agg #[(.string (ByteArray.mk #[])), (.string (ByteArray.mk #[])), (.int .i64 0)]) := E7 (pl := #[(0, 1), (1, 1), (2, 1)]) B0T (fun w => by kernel_rfl) rfl
@[simp] theorem C5v {v0 v1 v2 : Value} (h0 : v0.cells.size = 1) (h1 : v1.cells.size = 1) (h2 : v2.cells.size = 1) (K : Value → WP) : A0 PR (Instr.build 226 #[(0, v0), (1, v1), (2, v2)]) K = K (.agg (E8 (E8 (E8 #[(.string (ByteArray.mk #[])), (.string (ByteArray.mk #[])), (.int .i64 0)] 0 v0.cells.toList) 1 v1.cells.toList) 2 v2.cells.toList)) := E7 (pl := #[(0, 1), (1, 1), (2, 1)]) B0T (fun w => by kernel_rfl) (by rw [B7 rfl h0 (by simp [B9]), B7 rfl h1 (by simp [B9]), B7 rfl h2 (by simp [B9])]; rfl)
theorem A36 : TI PR 23 Tryz.t22.desc 5 40 (.agg #[(.int .i64 0), (.int .i64 0), (.int .i64 0), (.int .i64 0), (.int .i64 0)]) := ⟨Tryz.underlying23, Tryz.t23, by kernel_rfl, rfl, rfl, rfl⟩
@[simp] theorem C2l {v0 v1 v2 v3 v4 : Value} (h0 : v0.cells.size = 1) (h1 : v1.cells.size = 1) (h2 : v2.cells.size = 1) (h3 : v3.cells.size = 1) (h4 : v4.cells.size = 1) (K : Value → WP) : A0 PR (Instr.build 23 #[(0, v0), (1, v1), (2, v2), (3, v3), (4, v4)]) K = K (.agg (E8 (E8 (E8 (E8 (E8 #[(.int .i64 0), (.int .i64 0), (.int .i64 0), (.int .i64 0), (.int .i64 0)] 0 v0.cells.toList) 1 v1.cells.toList) 2 v2.cells.toList) 3 v3.cells.toList) 4 v4.cells.toList)) := E7 (pl := #[(0, 1), (1, 1), (2, 1), (3, 1), (4, 1)]) A36 (fun w => by kernel_rfl) (by rw [B7 rfl h0 (by simp [B9]), B7 rfl h1 (by simp [B9]), B7 rfl h2 (by simp [B9]), B7 rfl h3 (by simp [B9]), B7 rfl h4 (by simp [B9])]; rfl)
theorem C4p : TI PR 231 Tryz.t230.desc 1 24 (.agg #[(.slice none 0 0)]) := ⟨Tryz.underlying231, Tryz.t231, by kernel_rfl, rfl, rfl, rfl⟩
@[simp] theorem C9F {v0 : Value} (h0 : v0.cells.size = 1) (K : Value → WP) : A0 PR (Instr.build 231 #[(0, v0)]) K = K (.agg (E8 #[(.slice none 0 0)] 0 v0.cells.toList)) := E7 (pl := #[(0, 1)]) C4p (fun w => by kernel_rfl) (by rw [B7 rfl h0 (by simp [B9])]; rfl)
@[simp] theorem D0x  (K : Value → WP) : A0 PR (Instr.build 263 #[]) K = K (.agg #[]) := E7 (pl := #[]) B0b (fun w => by kernel_rfl) rfl
@[simp] theorem D1K  (K : Value → WP) : A0 PR (Instr.build 270 #[]) K = K (.agg #[(.int .i64 0), (.slice none 0 0)]) := E7 (pl := #[(0, 1), (1, 1)]) A7r (fun w => by kernel_rfl) rfl
@[simp] theorem C7y {v0 v1 : Value} (h0 : v0.cells.size = 1) (h1 : v1.cells.size = 1) (K : Value → WP) : A0 PR (Instr.build 270 #[(0, v0), (1, v1)]) K = K (.agg (E8 (E8 #[(.int .i64 0), (.slice none 0 0)] 0 v0.cells.toList) 1 v1.cells.toList)) := E7 (pl := #[(0, 1), (1, 1)]) A7r (fun w => by kernel_rfl) (by rw [B7 rfl h0 (by simp [B9]), B7 rfl h1 (by simp [B9])]; rfl)
@[simp] theorem C8P {v0 : Value} (h0 : v0.cells.size = 1) (K : Value → WP) : A0 PR (Instr.build 270 #[(0, v0)]) K = K (.agg (E8 #[(.int .i64 0), (.slice none 0 0)] 0 v0.cells.toList)) := E7 (pl := #[(0, 1), (1, 1)]) A7r (fun w => by kernel_rfl) (by rw [B7 rfl h0 (by simp [B9])]; rfl)
@[simp] theorem C7H {v0 v1 : Value} (h0 : v0.cells.size = 1) (h1 : v1.cells.size = 1) (K : Value → WP) : A0 PR (Instr.build 284 #[(0, v0), (1, v1)]) K = K (.agg (E8 (E8 #[(.int .u64 0), (.int .i64 0)] 0 v0.cells.toList) 1 v1.cells.toList)) := E7 (pl := #[(0, 1), (1, 1)]) A7D (fun w => by kernel_rfl) (by rw [B7 rfl h0 (by simp [B9]), B7 rfl h1 (by simp [B9])]; rfl)
@[simp] theorem C7n {v0 v1 : Value} (h0 : v0.cells.size = 1) (h1 : v1.cells.size = 1) (K : Value → WP) : A0 PR (Instr.build 330 #[(0, v0), (1, v1)]) K = K (.agg (E8 (E8 #[.nilFunc, (.int .i64 0)] 0 v0.cells.toList) 1 v1.cells.toList)) := E7 (pl := #[(0, 1), (1, 1)]) B0Y (fun w => by kernel_rfl) (by rw [B7 rfl h0 (by simp [B9]), B7 rfl h1 (by simp [B9])]; rfl)
theorem C4f : TI PR 333 Tryz.t133.desc 0 0 (.agg #[]) := ⟨Tryz.underlying333, Tryz.t333, by kernel_rfl, rfl, rfl, rfl⟩
@[simp] theorem D0Q  (K : Value → WP) : A0 PR (Instr.build 333 #[]) K = K (.agg #[]) := E7 (pl := #[]) C4f (fun w => by kernel_rfl) rfl
theorem C44 : TI PR 334 Tryz.t133.desc 0 0 (.agg #[]) := ⟨Tryz.underlying334, Tryz.t334, by kernel_rfl, rfl, rfl, rfl⟩
@[simp] theorem D1l  (K : Value → WP) : A0 PR (Instr.build 334 #[]) K = K (.agg #[]) := E7 (pl := #[]) C44 (fun w => by kernel_rfl) rfl
theorem B0B : TI PR 39 Tryz.t38.desc 11 120 (.agg #[(.int .i64 0), (.int .i64 0), (.int .i64 0), (.int .i64 0), (.int .i64 0), (.pointer none), (.pointer none), (.pointer none), (.slice none 0 0), (.slice none 0 0), (.int .i64 0)]) := ⟨Tryz.underlying39, Tryz.t39, by kernel_rfl, rfl, rfl, rfl⟩
@[simp] theorem D1f {v0 : Value} (h0 : v0.cells.size = 5) (K : Value → WP) : A0 PR (Instr.build 39 #[(0, v0)]) K = K (.agg (E8 #[(.int .i64 0), (.int .i64 0), (.int .i64 0), (.int .i64 0), (.int .i64 0), (.pointer none), (.pointer none), (.pointer none), (.slice none 0 0), (.slice none 0 0), (.int .i64 0)] 0 v0.cells.toList)) := E7 (pl := #[(0, 5), (5, 1), (6, 1), (7, 1), (8, 1), (9, 1), (10, 1)]) B0B (fun w => by kernel_rfl) (by rw [B7 rfl h0 (by simp [B9])]; rfl)
@[simp] theorem D2K  (K : Value → WP) : A0 PR (Instr.build 42 #[]) K = K (.agg #[(.bool false), (.bool false), (.bool false)]) := E7 (pl := #[(0, 1), (1, 1), (2, 1)]) B1V (fun w => by kernel_rfl) rfl
@[simp] theorem C77 {v0 v1 : Value} (h0 : v0.cells.size = 1) (h1 : v1.cells.size = 1) (K : Value → WP) : A0 PR (Instr.build 42 #[(0, v0), (1, v1)]) K = K (.agg (E8 (E8 #[(.bool false), (.bool false), (.bool false)] 0 v0.cells.toList) 1 v1.cells.toList)) := E7 (pl := #[(0, 1), (1, 1), (2, 1)]) B1V (fun w => by kernel_rfl) (by rw [B7 rfl h0 (by simp [B9]), B7 rfl h1 (by simp [B9])]; rfl)
@[simp] theorem D05 {v0 : Value} (h0 : v0.cells.size = 1) (K : Value → WP) : A0 PR (Instr.build 42 #[(0, v0)]) K = K (.agg (E8 #[(.bool false), (.bool false), (.bool false)] 0 v0.cells.toList)) := E7 (pl := #[(0, 1), (1, 1), (2, 1)]) B1V (fun w => by kernel_rfl) (by rw [B7 rfl h0 (by simp [B9])]; rfl)
@[simp] theorem D1Q {v0 : Value} (h0 : v0.cells.size = 1) (K : Value → WP) : A0 PR (Instr.build 42 #[(1, v0)]) K = K (.agg (E8 #[(.bool false), (.bool false), (.bool false)] 1 v0.cells.toList)) := E7 (pl := #[(0, 1), (1, 1), (2, 1)]) B1V (fun w => by kernel_rfl) (by rw [B7 rfl h0 (by simp [B9])]; rfl)
@[simp] theorem D1j {v0 : Value} (h0 : v0.cells.size = 1) (K : Value → WP) : A0 PR (Instr.build 42 #[(2, v0)]) K = K (.agg (E8 #[(.bool false), (.bool false), (.bool false)] 2 v0.cells.toList)) := E7 (pl := #[(0, 1), (1, 1), (2, 1)]) B1V (fun w => by kernel_rfl) (by rw [B7 rfl h0 (by simp [B9])]; rfl)
@[simp] theorem D2l  (K : Value → WP) : A0 PR (Instr.build 45 #[]) K = K (.agg #[(.int .i64 0), (.string (ByteArray.mk #[])), (.string (ByteArray.mk #[])), (.int .i64 0), (.int .i64 0), (.int .i64 0)]) := E7 (pl := #[(0, 1), (1, 1), (2, 1), (3, 1), (4, 1), (5, 1)]) A3w (fun w => by kernel_rfl) rfl
@[simp] theorem C0f {v0 v1 v2 v3 v4 v5 : Value} (h0 : v0.cells.size = 1) (h1 : v1.cells.size = 1) (h2 : v2.cells.size = 1) (h3 : v3.cells.size = 1) (h4 : v4.cells.size = 1) (h5 : v5.cells.size = 1) (K : Value → WP) : A0 PR (Instr.build 45 #[(0, v0), (1, v1), (2, v2), (3, v3), (4, v4), (5, v5)]) K = K (.agg (E8 (E8 (E8 (E8 (E8 (E8 #[(.int .i64 0), (.string (ByteArray.mk #[])), (.string (ByteArray.mk #[])), (.int .i64 0), (.int .i64 0), (.int .i64 0)] 0 v0.cells.toList) 1 v1.cells.toList) 2 v2.cells.toList) 3 v3.cells.toList) 4 v4.cells.toList) 5 v5.cells.toList)) := E7 (pl := #[(0, 1), (1, 1), (2, 1), (3, 1), (4, 1), (5, 1)]) A3w (fun w => by kernel_rfl) (by rw [B7 rfl h0 (by simp [B9]), B7 rfl h1 (by simp [B9]), B7 rfl h2 (by simp [B9]), B7 rfl h3 (by simp [B9]), B7 rfl h4 (by simp [B9]), B7 rfl h5 (by simp [B9])]; rfl)
@[simp] theorem C4j {v0 v1 v2 v3 : Value} (h0 : v0.cells.size = 1) (h1 : v1.cells.size = 1) (h2 : v2.cells.size = 1) (h3 : v3.cells.size = 1) (K : Value → WP) : A0 PR (Instr.build 45 #[(0, v0), (1, v1), (2, v2), (5, v3)]) K = K (.agg (E8 (E8 (E8 (E8 #[(.int .i64 0), (.string (ByteArray.mk #[])), (.string (ByteArray.mk #[])), (.int .i64 0), (.int .i64 0), (.int .i64 0)] 0 v0.cells.toList) 1 v1.cells.toList) 2 v2.cells.toList) 5 v3.cells.toList)) := E7 (pl := #[(0, 1), (1, 1), (2, 1), (3, 1), (4, 1), (5, 1)]) A3w (fun w => by kernel_rfl) (by rw [B7 rfl h0 (by simp [B9]), B7 rfl h1 (by simp [B9]), B7 rfl h2 (by simp [B9]), B7 rfl h3 (by simp [B9])]; rfl)
@[simp] theorem D2W  (K : Value → WP) : A0 PR (Instr.build 47 #[]) K = K (.agg #[(.int .i64 0), (.string (ByteArray.mk #[])), (.string (ByteArray.mk #[])), (.int .i64 0), (.int .i64 0), (.int .i64 0), (.int .i64 0)]) := E7 (pl := #[(0, 6), (6, 1)]) B3N (fun w => by kernel_rfl) rfl
@[simp] theorem C74 {v0 v1 : Value} (h0 : v0.cells.size = 6) (h1 : v1.cells.size = 1) (K : Value → WP) : A0 PR (Instr.build 47 #[(0, v0), (1, v1)]) K = K (.agg (E8 (E8 #[(.int .i64 0), (.string (ByteArray.mk #[])), (.string (ByteArray.mk #[])), (.int .i64 0), (.int .i64 0), (.int .i64 0), (.int .i64 0)] 0 v0.cells.toList) 6 v1.cells.toList)) := E7 (pl := #[(0, 6), (6, 1)]) B3N (fun w => by kernel_rfl) (by rw [B7 rfl h0 (by simp [B9]), B7 rfl h1 (by simp [B9])]; rfl)
@[simp] theorem D1F {v0 : Value} (h0 : v0.cells.size = 6) (K : Value → WP) : A0 PR (Instr.build 47 #[(0, v0)]) K = K (.agg (E8 #[(.int .i64 0), (.string (ByteArray.mk #[])), (.string (ByteArray.mk #[])), (.int .i64 0), (.int .i64 0), (.int .i64 0), (.int .i64 0)] 0 v0.cells.toList)) := E7 (pl := #[(0, 6), (6, 1)]) B3N (fun w => by kernel_rfl) (by rw [B7 rfl h0 (by simp [B9])]; rfl)
@[simp] theorem D1x {v0 : Value} (h0 : v0.cells.size = 1) (K : Value → WP) : A0 PR (Instr.build 55 #[(0, v0)]) K = K (.agg (E8 #[(.int .i64 0), (.int .i64 0), (.bool false), (.int .i64 0)] 0 v0.cells.toList)) := E7 (pl := #[(0, 1), (1, 1), (2, 1), (3, 1)]) A7S (fun w => by kernel_rfl) (by rw [B7 rfl h0 (by simp [B9])]; rfl)
@[simp] theorem C76 {v0 v1 : Value} (h0 : v0.cells.size = 1) (h1 : v1.cells.size = 1) (K : Value → WP) : A0 PR (Instr.build 55 #[(1, v0), (2, v1)]) K = K (.agg (E8 (E8 #[(.int .i64 0), (.int .i64 0), (.bool false), (.int .i64 0)] 1 v0.cells.toList) 2 v1.cells.toList)) := E7 (pl := #[(0, 1), (1, 1), (2, 1), (3, 1)]) A7S (fun w => by kernel_rfl) (by rw [B7 rfl h0 (by simp [B9]), B7 rfl h1 (by simp [B9])]; rfl)
@[simp] theorem D0a {v0 : Value} (h0 : v0.cells.size = 1) (K : Value → WP) : A0 PR (Instr.build 55 #[(1, v0)]) K = K (.agg (E8 #[(.int .i64 0), (.int .i64 0), (.bool false), (.int .i64 0)] 1 v0.cells.toList)) := E7 (pl := #[(0, 1), (1, 1), (2, 1), (3, 1)]) A7S (fun w => by kernel_rfl) (by rw [B7 rfl h0 (by simp [B9])]; rfl)
theorem B7H : TI PR 79 Tryz.t78.desc 3 40 (.agg #[(.int .i64 0), (.int .i64 0), (.slice none 0 0)]) := ⟨Tryz.underlying79, Tryz.t79, by kernel_rfl, rfl, rfl, rfl⟩
@[simp] theorem C8D {v0 v1 : Value} (h0 : v0.cells.size = 1) (h1 : v1.cells.size = 1) (K : Value → WP) : A0 PR (Instr.build 79 #[(0, v0), (2, v1)]) K = K (.agg (E8 (E8 #[(.int .i64 0), (.int .i64 0), (.slice none 0 0)] 0 v0.cells.toList) 2 v1.cells.toList)) := E7 (pl := #[(0, 1), (1, 1), (2, 1)]) B7H (fun w => by kernel_rfl) (by rw [B7 rfl h0 (by simp [B9]), B7 rfl h1 (by simp [B9])]; rfl)
@[simp] theorem D1P {v0 : Value} (h0 : v0.cells.size = 1) (K : Value → WP) : A0 PR (Instr.build 79 #[(0, v0)]) K = K (.agg (E8 #[(.int .i64 0), (.int .i64 0), (.slice none 0 0)] 0 v0.cells.toList)) := E7 (pl := #[(0, 1), (1, 1), (2, 1)]) B7H (fun w => by kernel_rfl) (by rw [B7 rfl h0 (by simp [B9])]; rfl)
theorem C0c : TI PR 228 Tryz.t228.desc 1 24 (.slice none 0 0) := ⟨Tryz.underlying228, Tryz.t228, by kernel_rfl, rfl, rfl, rfl⟩
theorem B9b : TI PR 124 Tryz.t124.desc 1 8 .nilFunc := ⟨Tryz.underlying124, Tryz.t124, by kernel_rfl, rfl, rfl, rfl⟩
theorem B9l : TI PR 259 Tryz.t259.desc 1 24 (.slice none 0 0) := ⟨Tryz.underlying259, Tryz.t259, by kernel_rfl, rfl, rfl, rfl⟩
theorem ty5 : TI PR 5 Tryz.t5.desc 1 1 (.int .u8 0) := ⟨Tryz.underlying5, Tryz.t5, by kernel_rfl, rfl, rfl, rfl⟩
theorem B9p : TI PR 375 Tryz.t375.desc 1 24 (.slice none 0 0) := ⟨Tryz.underlying375, Tryz.t375, by kernel_rfl, rfl, rfl, rfl⟩
theorem C5C : TI PR 242 Tryz.t242.desc 1 8 (.int .u64 0) := ⟨Tryz.underlying242, Tryz.t242, by kernel_rfl, rfl, rfl, rfl⟩
@[simp] theorem C9P {k : IntKind} (a : Int) (K : Value → WP) : A0 PR (convert 242 3 (.int k a)) K = K (.int .i64 (IntKind.i64.wrap a)) := A2r K3 C5C
@[simp] theorem C96 {k : IntKind} (a : Int) (K : Value → WP) : A0 PR (convert 3 242 (.int k a)) K = K (.int .u64 (IntKind.u64.wrap a)) := A2r C5C K3
@[simp] theorem D0s {k : IntKind} (a : Int) (K : Value → WP) : A0 PR (convert 3 89 (.int k a)) K = K (.int .u64 (IntKind.u64.wrap a)) := A2r A9x K3
theorem B8H {K : Value → WP} {w : World} {b o cap : Nat} {ns : List Int} (hr : N1 w b o (ns.map (Value.int .u8))) : A6 PR (convert 301 9 (.slice (some ⟨b, o, none⟩) ns.length cap)) K w = K (.string (A3c ns)) w := C9C A3Q ty5 ty9 hr
@[simp] theorem D2B {k : IntKind} (a : Int) (K : Value → WP) : A0 PR (convert 5 3 (.int k a)) K = K (.int .i64 (IntKind.i64.wrap a)) := A2r K3 ty5
@[simp] theorem C9Q {k : IntKind} (a : Int) (K : Value → WP) : A0 PR (convert 5 370 (.int k a)) K = K (.int .u64 (IntKind.u64.wrap a)) := A2r C5G ty5
@[simp] theorem D0j {k : IntKind} (a : Int) (K : Value → WP) : A0 PR (convert 5 89 (.int k a)) K = K (.int .u64 (IntKind.u64.wrap a)) := A2r A9x ty5
@[simp] theorem D1A {k : IntKind} (a : Int) (K : Value → WP) : A0 PR (convert 89 3 (.int k a)) K = K (.int .i64 (IntKind.i64.wrap a)) := A2r K3 A9x
@[simp] theorem D1N {k : IntKind} (a : Int) (K : Value → WP) : A0 PR (convert 89 5 (.int k a)) K = K (.int .u8 (IntKind.u8.wrap a)) := A2r ty5 A9x
theorem C5F : TI PR 131 Tryz.t131.desc 1 8 (.pointer none) := ⟨Tryz.underlying131, Tryz.t131, by kernel_rfl, rfl, rfl, rfl⟩
@[simp] theorem C0N (a : Option Addr) (x y : Operand) (K : Value → WP) (w : World) : A6 PR (H8 .eql 131 x y (.pointer a) (.pointer none)) K w = K (.bool a.isNone) w := B0U C5F
theorem C2m : TI PR 26 Tryz.t26.desc 1 8 (.pointer none) := ⟨Tryz.underlying26, Tryz.t26, by kernel_rfl, rfl, rfl, rfl⟩
@[simp] theorem C05 (a : Option Addr) (x y : Operand) (K : Value → WP) (w : World) : A6 PR (H8 .eql 26 x y (.pointer a) (.pointer none)) K w = K (.bool a.isNone) w := B0U C2m
theorem C7k : TI PR 30 Tryz.t30.desc 1 8 (.pointer none) := ⟨Tryz.underlying30, Tryz.t30, by kernel_rfl, rfl, rfl, rfl⟩
@[simp] theorem C19 (a : Option Addr) (x y : Operand) (K : Value → WP) (w : World) : A6 PR (H8 .eql 30 x y (.pointer a) (.pointer none)) K w = K (.bool a.isNone) w := B0U C7k
theorem B5q : TI PR 300 Tryz.t300.desc 1 8 (.pointer none) := ⟨Tryz.underlying300, Tryz.t300, by kernel_rfl, rfl, rfl, rfl⟩
@[simp] theorem B9U (a : Option Addr) (x y : Operand) (K : Value → WP) (w : World) : A6 PR (H8 .eql 300 x y (.pointer a) (.pointer none)) K w = K (.bool a.isNone) w := B0U B5q
theorem ty4 : TI PR 4 Tryz.t4.desc 1 1 (.bool false) := ⟨Tryz.underlying4, Tryz.t4, by kernel_rfl, rfl, rfl, rfl⟩
@[simp] theorem C31 (a0 b0 : Bool) (a1 b1 : Bool) (a2 b2 : Bool) (x y : Operand) (K : Value → WP) (w : World) : A6 PR (H8 .eql 42 x y (.agg #[.bool a0, .bool a1, .bool a2]) (.agg #[.bool b0, .bool b1, .bool b2])) K w = K (.bool ((a0 == b0) && ((a1 == b1) && ((a2 == b2) && true)))) w := C47 (by kernel_rfl) (B27 (e := 9999) B1V (by kernel_rfl) (A0M rfl ty4 rfl rfl rfl (A37 (e := 9998) ty4) (A0M rfl ty4 rfl rfl rfl (A37 (e := 9998) ty4) (A0M rfl ty4 rfl rfl rfl (A37 (e := 9998) ty4) (B8d)))))
@[simp] theorem C4S (a0 b0 : Int) (a1 b1 : Int) (a2 b2 : Bool) (a3 b3 : Int) (x y : Operand) (K : Value → WP) (w : World) : A6 PR (H8 .eql 55 x y (.agg #[.int .i64 a0, .int .i64 a1, .bool a2, .int .i64 a3]) (.agg #[.int .i64 b0, .int .i64 b1, .bool b2, .int .i64 b3])) K w = K (.bool (decide (a0 = b0) && (decide (a1 = b1) && ((a2 == b2) && (decide (a3 = b3) && true))))) w := C47 (by kernel_rfl) (B27 (e := 9999) A7S (by kernel_rfl) (A0M rfl B6y rfl rfl rfl (B3w (e := 9998) B6y) (A0M rfl K3 rfl rfl rfl (B3w (e := 9998) K3) (A0M rfl ty4 rfl rfl rfl (A37 (e := 9998) ty4) (A0M rfl K3 rfl rfl rfl (B3w (e := 9998) K3) (B8d))))))
@[simp] theorem C0D (a : Option Addr) (x y : Operand) (K : Value → WP) (w : World) : A6 PR (H8 .neq 131 x y (.pointer a) (.pointer none)) K w = K (.bool (!a.isNone)) w := A6e C5F
@[simp] theorem C2b (a : Option Addr) (x y : Operand) (K : Value → WP) (w : World) : A6 PR (H8 .neq 26 x y (.pointer a) (.pointer none)) K w = K (.bool (!a.isNone)) w := A6e C2m
theorem C4W : TI PR 33 Tryz.t33.desc 1 8 (.pointer none) := ⟨Tryz.underlying33, Tryz.t33, by kernel_rfl, rfl, rfl, rfl⟩
@[simp] theorem C10 (a : Option Addr) (x y : Operand) (K : Value → WP) (w : World) : A6 PR (H8 .neq 33 x y (.pointer a) (.pointer none)) K w = K (.bool (!a.isNone)) w := A6e C4W
theorem C3m : TI PR 34 Tryz.t34.desc 1 8 (.pointer none) := ⟨Tryz.underlying34, Tryz.t34, by kernel_rfl, rfl, rfl, rfl⟩
@[simp] theorem C2Q (a : Option Addr) (x y : Operand) (K : Value → WP) (w : World) : A6 PR (H8 .neq 34 x y (.pointer a) (.pointer none)) K w = K (.bool (!a.isNone)) w := A6e C3m
theorem C32 : TI PR 35 Tryz.t35.desc 1 8 (.pointer none) := ⟨Tryz.underlying35, Tryz.t35, by kernel_rfl, rfl, rfl, rfl⟩
@[simp] theorem C2D (a : Option Addr) (x y : Operand) (K : Value → WP) (w : World) : A6 PR (H8 .neq 35 x y (.pointer a) (.pointer none)) K w = K (.bool (!a.isNone)) w := A6e C32
@[simp] theorem C9x (b o : Nat) (K : Value → WP) : A0 PR (Instr.fieldAt 106 (.pointer (some ⟨b, o, none⟩)) 0) K = K (.pointer (some ⟨b, o, none⟩)) := B3 (i := 0) A3K rfl ⟨_, _, _, _, A36⟩ b o
@[simp] theorem C8k (b o : Nat) (K : Value → WP) : A0 PR (Instr.fieldAt 106 (.pointer (some ⟨b, o, none⟩)) 1) K = K (.pointer (some ⟨b, o + 5, none⟩)) := B3 (i := 1) A3K rfl ⟨_, _, _, _, K3⟩ b o
@[simp] theorem C8b (b o : Nat) (K : Value → WP) : A0 PR (Instr.fieldAt 106 (.pointer (some ⟨b, o, none⟩)) 2) K = K (.pointer (some ⟨b, o + 6, none⟩)) := B3 (i := 2) A3K rfl ⟨_, _, _, _, K3⟩ b o
@[simp] theorem C9J (b o : Nat) (K : Value → WP) : A0 PR (Instr.fieldAt 106 (.pointer (some ⟨b, o, none⟩)) 4) K = K (.pointer (some ⟨b, o + 8, none⟩)) := B3 (i := 4) A3K rfl ⟨_, _, _, _, A64⟩ b o
@[simp] theorem C9s (b o : Nat) (K : Value → WP) : A0 PR (Instr.fieldAt 106 (.pointer (some ⟨b, o, none⟩)) 5) K = K (.pointer (some ⟨b, o + 9, none⟩)) := B3 (i := 5) A3K rfl ⟨_, _, _, _, B2y⟩ b o
@[simp] theorem C8G (b o : Nat) (K : Value → WP) : A0 PR (Instr.fieldAt 106 (.pointer (some ⟨b, o, none⟩)) 6) K = K (.pointer (some ⟨b, o + 10, none⟩)) := B3 (i := 6) A3K rfl ⟨_, _, _, _, B9d⟩ b o
@[simp] theorem C9v (b o : Nat) (K : Value → WP) : A0 PR (Instr.fieldAt 106 (.pointer (some ⟨b, o, none⟩)) 7) K = K (.pointer (some ⟨b, o + 11, none⟩)) := B3 (i := 7) A3K rfl ⟨_, _, _, _, B36⟩ b o
@[simp] theorem C8E (b o : Nat) (K : Value → WP) : A0 PR (Instr.fieldAt 106 (.pointer (some ⟨b, o, none⟩)) 9) K = K (.pointer (some ⟨b, o + 13, none⟩)) := B3 (i := 9) A3K rfl ⟨_, _, _, _, K3⟩ b o
@[simp] theorem C8j (b o : Nat) (K : Value → WP) : A0 PR (Instr.fieldAt 128 (.pointer (some ⟨b, o, none⟩)) 0) K = K (.pointer (some ⟨b, o, none⟩)) := B3 (i := 0) B0d rfl ⟨_, _, _, _, ty9⟩ b o
@[simp] theorem C8m (b o : Nat) (K : Value → WP) : A0 PR (Instr.fieldAt 128 (.pointer (some ⟨b, o, none⟩)) 1) K = K (.pointer (some ⟨b, o + 1, none⟩)) := B3 (i := 1) B0d rfl ⟨_, _, _, _, ty9⟩ b o
@[simp] theorem C86 (b o : Nat) (K : Value → WP) : A0 PR (Instr.fieldAt 128 (.pointer (some ⟨b, o, none⟩)) 2) K = K (.pointer (some ⟨b, o + 2, none⟩)) := B3 (i := 2) B0d rfl ⟨_, _, _, _, K3⟩ b o
@[simp] theorem D0L (b o : Nat) (K : Value → WP) : A0 PR (Instr.fieldAt 128 (.pointer (some ⟨b, o, none⟩)) 3) K = K (.pointer (some ⟨b, o + 3, none⟩)) := B3 (i := 3) B0d rfl ⟨_, _, _, _, ty4⟩ b o
@[simp] theorem C8q (b o : Nat) (K : Value → WP) : A0 PR (Instr.fieldAt 130 (.pointer (some ⟨b, o, none⟩)) 0) K = K (.pointer (some ⟨b, o, none⟩)) := B3 (i := 0) A3P rfl ⟨_, _, _, _, B0d⟩ b o
@[simp] theorem C9r (b o : Nat) (K : Value → WP) : A0 PR (Instr.fieldAt 130 (.pointer (some ⟨b, o, none⟩)) 1) K = K (.pointer (some ⟨b, o + 4, none⟩)) := B3 (i := 1) A3P rfl ⟨_, _, _, _, K3⟩ b o
@[simp] theorem C9W (b o : Nat) (K : Value → WP) : A0 PR (Instr.fieldAt 130 (.pointer (some ⟨b, o, none⟩)) 2) K = K (.pointer (some ⟨b, o + 5, none⟩)) := B3 (i := 2) A3P rfl ⟨_, _, _, _, K3⟩ b o
@[simp] theorem C9L (b o : Nat) (K : Value → WP) : A0 PR (Instr.fieldAt 130 (.pointer (some ⟨b, o, none⟩)) 3) K = K (.pointer (some ⟨b, o + 6, none⟩)) := B3 (i := 3) A3P rfl ⟨_, _, _, _, K3⟩ b o
@[simp] theorem C8f (b o : Nat) (K : Value → WP) : A0 PR (Instr.fieldAt 130 (.pointer (some ⟨b, o, none⟩)) 4) K = K (.pointer (some ⟨b, o + 7, none⟩)) := B3 (i := 4) A3P rfl ⟨_, _, _, _, K3⟩ b o
@[simp] theorem C83 (b o : Nat) (K : Value → WP) : A0 PR (Instr.fieldAt 130 (.pointer (some ⟨b, o, none⟩)) 5) K = K (.pointer (some ⟨b, o + 8, none⟩)) := B3 (i := 5) A3P rfl ⟨_, _, _, _, K3⟩ b o
@[simp] theorem C8M (b o : Nat) (K : Value → WP) : A0 PR (Instr.fieldAt 130 (.pointer (some ⟨b, o, none⟩)) 6) K = K (.pointer (some ⟨b, o + 9, none⟩)) := B3 (i := 6) A3P rfl ⟨_, _, _, _, A9y⟩ b o
@[simp] theorem C8z (b o : Nat) (K : Value → WP) : A0 PR (Instr.fieldAt 130 (.pointer (some ⟨b, o, none⟩)) 7) K = K (.pointer (some ⟨b, o + 10, none⟩)) := B3 (i := 7) A3P rfl ⟨_, _, _, _, A7S⟩ b o
theorem C41 : TI PR 137 Tryz.t136.desc 1 8 (.agg #[(.int .i64 0)]) := ⟨Tryz.underlying137, Tryz.t137, by kernel_rfl, rfl, rfl, rfl⟩
theorem ty2 : TI PR 2 Tryz.t2.desc 1 8 (.int .i64 0) := ⟨Tryz.underlying2, Tryz.t2, by kernel_rfl, rfl, rfl, rfl⟩
@[simp] theorem C9e (b o : Nat) (K : Value → WP) : A0 PR (Instr.fieldAt 137 (.pointer (some ⟨b, o, none⟩)) 2) K = K (.pointer (some ⟨b, o, none⟩)) := B3 (i := 2) C41 rfl ⟨_, _, _, _, ty2⟩ b o
theorem C4s : TI PR 139 Tryz.t138.desc 1 8 (.agg #[(.int .i64 0)]) := ⟨Tryz.underlying139, Tryz.t139, by kernel_rfl, rfl, rfl, rfl⟩
@[simp] theorem C9p (b o : Nat) (K : Value → WP) : A0 PR (Instr.fieldAt 139 (.pointer (some ⟨b, o, none⟩)) 0) K = K (.pointer (some ⟨b, o, none⟩)) := B3 (i := 0) C4s rfl ⟨_, _, _, _, C41⟩ b o
@[simp] theorem C8u (b o : Nat) (K : Value → WP) : A0 PR (Instr.fieldAt 141 (.pointer (some ⟨b, o, none⟩)) 0) K = K (.pointer (some ⟨b, o, none⟩)) := B3 (i := 0) B5l rfl ⟨_, _, _, _, C4s⟩ b o
@[simp] theorem C93 (b o : Nat) (K : Value → WP) : A0 PR (Instr.fieldAt 141 (.pointer (some ⟨b, o, none⟩)) 1) K = K (.pointer (some ⟨b, o + 1, none⟩)) := B3 (i := 1) B5l rfl ⟨_, _, _, _, A64⟩ b o
@[simp] theorem C85 (b o : Nat) (K : Value → WP) : A0 PR (Instr.fieldAt 141 (.pointer (some ⟨b, o, none⟩)) 2) K = K (.pointer (some ⟨b, o + 2, none⟩)) := B3 (i := 2) B5l rfl ⟨_, _, _, _, A64⟩ b o
@[simp] theorem C8F (b o : Nat) (K : Value → WP) : A0 PR (Instr.fieldAt 148 (.pointer (some ⟨b, o, none⟩)) 0) K = K (.pointer (some ⟨b, o, none⟩)) := B3 (i := 0) A7G rfl ⟨_, _, _, _, K3⟩ b o
@[simp] theorem C8e (b o : Nat) (K : Value → WP) : A0 PR (Instr.fieldAt 148 (.pointer (some ⟨b, o, none⟩)) 1) K = K (.pointer (some ⟨b, o + 1, none⟩)) := B3 (i := 1) A7G rfl ⟨_, _, _, _, K3⟩ b o
@[simp] theorem C8v (b o : Nat) (K : Value → WP) : A0 PR (Instr.fieldAt 148 (.pointer (some ⟨b, o, none⟩)) 2) K = K (.pointer (some ⟨b, o + 2, none⟩)) := B3 (i := 2) A7G rfl ⟨_, _, _, _, K3⟩ b o
@[simp] theorem C9m (b o : Nat) (K : Value → WP) : A0 PR (Instr.fieldAt 155 (.pointer (some ⟨b, o, none⟩)) 0) K = K (.pointer (some ⟨b, o, none⟩)) := B3 (i := 0) B0c rfl ⟨_, _, _, _, K3⟩ b o
@[simp] theorem C9T (b o : Nat) (K : Value → WP) : A0 PR (Instr.fieldAt 155 (.pointer (some ⟨b, o, none⟩)) 1) K = K (.pointer (some ⟨b, o + 1, none⟩)) := B3 (i := 1) B0c rfl ⟨_, _, _, _, K3⟩ b o
theorem B9V : TI PR 192 Tryz.t58.desc 1 24 (.slice none 0 0) := ⟨Tryz.underlying192, Tryz.t192, by kernel_rfl, rfl, rfl, rfl⟩
@[simp] theorem C8Y (b o : Nat) (K : Value → WP) : A0 PR (Instr.fieldAt 195 (.pointer (some ⟨b, o, none⟩)) 0) K = K (.pointer (some ⟨b, o, none⟩)) := B3 (i := 0) A4m rfl ⟨_, _, _, _, B9V⟩ b o
@[simp] theorem C99 (b o : Nat) (K : Value → WP) : A0 PR (Instr.fieldAt 195 (.pointer (some ⟨b, o, none⟩)) 1) K = K (.pointer (some ⟨b, o + 1, none⟩)) := B3 (i := 1) A4m rfl ⟨_, _, _, _, C0b⟩ b o
@[simp] theorem C9N (b o : Nat) (K : Value → WP) : A0 PR (Instr.fieldAt 218 (.pointer (some ⟨b, o, none⟩)) 0) K = K (.pointer (some ⟨b, o, none⟩)) := B3 (i := 0) A2P rfl ⟨_, _, _, _, K3⟩ b o
@[simp] theorem C8p (b o : Nat) (K : Value → WP) : A0 PR (Instr.fieldAt 218 (.pointer (some ⟨b, o, none⟩)) 1) K = K (.pointer (some ⟨b, o + 1, none⟩)) := B3 (i := 1) A2P rfl ⟨_, _, _, _, ty9⟩ b o
@[simp] theorem C9y (b o : Nat) (K : Value → WP) : A0 PR (Instr.fieldAt 218 (.pointer (some ⟨b, o, none⟩)) 2) K = K (.pointer (some ⟨b, o + 2, none⟩)) := B3 (i := 2) A2P rfl ⟨_, _, _, _, K3⟩ b o
@[simp] theorem C94 (b o : Nat) (K : Value → WP) : A0 PR (Instr.fieldAt 218 (.pointer (some ⟨b, o, none⟩)) 3) K = K (.pointer (some ⟨b, o + 3, none⟩)) := B3 (i := 3) A2P rfl ⟨_, _, _, _, K3⟩ b o
@[simp] theorem C9g (b o : Nat) (K : Value → WP) : A0 PR (Instr.fieldAt 224 (.pointer (some ⟨b, o, none⟩)) 0) K = K (.pointer (some ⟨b, o, none⟩)) := B3 (i := 0) B0W rfl ⟨_, _, _, _, ty9⟩ b o
@[simp] theorem C9G (b o : Nat) (K : Value → WP) : A0 PR (Instr.fieldAt 224 (.pointer (some ⟨b, o, none⟩)) 1) K = K (.pointer (some ⟨b, o + 1, none⟩)) := B3 (i := 1) B0W rfl ⟨_, _, _, _, ty9⟩ b o
@[simp] theorem C9z (b o : Nat) (K : Value → WP) : A0 PR (Instr.fieldAt 224 (.pointer (some ⟨b, o, none⟩)) 2) K = K (.pointer (some ⟨b, o + 2, none⟩)) := B3 (i := 2) B0W rfl ⟨_, _, _, _, K3⟩ b o
@[simp] theorem C8S (b o : Nat) (K : Value → WP) : A0 PR (Instr.fieldAt 226 (.pointer (some ⟨b, o, none⟩)) 0) K = K (.pointer (some ⟨b, o, none⟩)) := B3 (i := 0) B0T rfl ⟨_, _, _, _, ty9⟩ b o
@[simp] theorem C8H (b o : Nat) (K : Value → WP) : A0 PR (Instr.fieldAt 226 (.pointer (some ⟨b, o, none⟩)) 1) K = K (.pointer (some ⟨b, o + 1, none⟩)) := B3 (i := 1) B0T rfl ⟨_, _, _, _, ty9⟩ b o
@[simp] theorem C80 (b o : Nat) (K : Value → WP) : A0 PR (Instr.fieldAt 226 (.pointer (some ⟨b, o, none⟩)) 2) K = K (.pointer (some ⟨b, o + 2, none⟩)) := B3 (i := 2) B0T rfl ⟨_, _, _, _, K3⟩ b o
@[simp] theorem D0N (b o : Nat) (K : Value → WP) : A0 PR (Instr.fieldAt 23 (.pointer (some ⟨b, o, none⟩)) 0) K = K (.pointer (some ⟨b, o, none⟩)) := B3 (i := 0) A36 rfl ⟨_, _, _, _, K3⟩ b o
@[simp] theorem D1q (b o : Nat) (K : Value → WP) : A0 PR (Instr.fieldAt 23 (.pointer (some ⟨b, o, none⟩)) 1) K = K (.pointer (some ⟨b, o + 1, none⟩)) := B3 (i := 1) A36 rfl ⟨_, _, _, _, K3⟩ b o
@[simp] theorem D11 (b o : Nat) (K : Value → WP) : A0 PR (Instr.fieldAt 23 (.pointer (some ⟨b, o, none⟩)) 2) K = K (.pointer (some ⟨b, o + 2, none⟩)) := B3 (i := 2) A36 rfl ⟨_, _, _, _, K3⟩ b o
@[simp] theorem D1e (b o : Nat) (K : Value → WP) : A0 PR (Instr.fieldAt 23 (.pointer (some ⟨b, o, none⟩)) 3) K = K (.pointer (some ⟨b, o + 3, none⟩)) := B3 (i := 3) A36 rfl ⟨_, _, _, _, K3⟩ b o
@[simp] theorem D1g (b o : Nat) (K : Value → WP) : A0 PR (Instr.fieldAt 23 (.pointer (some ⟨b, o, none⟩)) 4) K = K (.pointer (some ⟨b, o + 4, none⟩)) := B3 (i := 4) A36 rfl ⟨_, _, _, _, K3⟩ b o
theorem B2A : TI PR 229 Tryz.t229.desc 1 24 (.slice none 0 0) := ⟨Tryz.underlying229, Tryz.t229, by kernel_rfl, rfl, rfl, rfl⟩
@[simp] theorem C8c (b o : Nat) (K : Value → WP) : A0 PR (Instr.fieldAt 231 (.pointer (some ⟨b, o, none⟩)) 0) K = K (.pointer (some ⟨b, o, none⟩)) := B3 (i := 0) C4p rfl ⟨_, _, _, _, B2A⟩ b o
@[simp] theorem C9H (b o : Nat) (K : Value → WP) : A0 PR (Instr.fieldAt 270 (.pointer (some ⟨b, o, none⟩)) 0) K = K (.pointer (some ⟨b, o, none⟩)) := B3 (i := 0) A7r rfl ⟨_, _, _, _, K3⟩ b o
@[simp] theorem C8d (b o : Nat) (K : Value → WP) : A0 PR (Instr.fieldAt 284 (.pointer (some ⟨b, o, none⟩)) 0) K = K (.pointer (some ⟨b, o, none⟩)) := B3 (i := 0) A7D rfl ⟨_, _, _, _, A9x⟩ b o
@[simp] theorem C8y (b o : Nat) (K : Value → WP) : A0 PR (Instr.fieldAt 284 (.pointer (some ⟨b, o, none⟩)) 1) K = K (.pointer (some ⟨b, o + 1, none⟩)) := B3 (i := 1) A7D rfl ⟨_, _, _, _, K3⟩ b o
@[simp] theorem C9l (b o : Nat) (K : Value → WP) : A0 PR (Instr.fieldAt 290 (.pointer (some ⟨b, o, none⟩)) 0) K = K (.pointer (some ⟨b, o, none⟩)) := B3 (i := 0) B5j rfl ⟨_, _, _, _, A9x⟩ b o
@[simp] theorem C8x (b o : Nat) (K : Value → WP) : A0 PR (Instr.fieldAt 290 (.pointer (some ⟨b, o, none⟩)) 1) K = K (.pointer (some ⟨b, o + 1, none⟩)) := B3 (i := 1) B5j rfl ⟨_, _, _, _, K3⟩ b o
@[simp] theorem C9M (b o : Nat) (K : Value → WP) : A0 PR (Instr.fieldAt 303 (.pointer (some ⟨b, o, none⟩)) 0) K = K (.pointer (some ⟨b, o, none⟩)) := B3 (i := 0) B0Z rfl ⟨_, _, _, _, B5q⟩ b o
@[simp] theorem C8l (b o : Nat) (K : Value → WP) : A0 PR (Instr.fieldAt 303 (.pointer (some ⟨b, o, none⟩)) 1) K = K (.pointer (some ⟨b, o + 1, none⟩)) := B3 (i := 1) B0Z rfl ⟨_, _, _, _, A3Q⟩ b o
@[simp] theorem C8N (b o : Nat) (K : Value → WP) : A0 PR (Instr.fieldAt 305 (.pointer (some ⟨b, o, none⟩)) 0) K = K (.pointer (some ⟨b, o, none⟩)) := B3 (i := 0) C49 rfl ⟨_, _, _, _, B0Z⟩ b o
theorem C6r : TI PR 24 Tryz.t24.desc 1 8 .nilFunc := ⟨Tryz.underlying24, Tryz.t24, by kernel_rfl, rfl, rfl, rfl⟩
@[simp] theorem D0F (b o : Nat) (K : Value → WP) : A0 PR (Instr.fieldAt 330 (.pointer (some ⟨b, o, none⟩)) 0) K = K (.pointer (some ⟨b, o, none⟩)) := B3 (i := 0) B0Y rfl ⟨_, _, _, _, C6r⟩ b o
@[simp] theorem C8J (b o : Nat) (K : Value → WP) : A0 PR (Instr.fieldAt 330 (.pointer (some ⟨b, o, none⟩)) 1) K = K (.pointer (some ⟨b, o + 1, none⟩)) := B3 (i := 1) B0Y rfl ⟨_, _, _, _, B6y⟩ b o
@[simp] theorem D1n (b o : Nat) (K : Value → WP) : A0 PR (Instr.fieldAt 39 (.pointer (some ⟨b, o, none⟩)) 0) K = K (.pointer (some ⟨b, o, none⟩)) := B3 (i := 0) B0B rfl ⟨_, _, _, _, A36⟩ b o
@[simp] theorem D13 (b o : Nat) (K : Value → WP) : A0 PR (Instr.fieldAt 39 (.pointer (some ⟨b, o, none⟩)) 1) K = K (.pointer (some ⟨b, o + 5, none⟩)) := B3 (i := 1) B0B rfl ⟨_, _, _, _, C4W⟩ b o
@[simp] theorem D06 (b o : Nat) (K : Value → WP) : A0 PR (Instr.fieldAt 39 (.pointer (some ⟨b, o, none⟩)) 2) K = K (.pointer (some ⟨b, o + 6, none⟩)) := B3 (i := 2) B0B rfl ⟨_, _, _, _, C3m⟩ b o
@[simp] theorem D01 (b o : Nat) (K : Value → WP) : A0 PR (Instr.fieldAt 39 (.pointer (some ⟨b, o, none⟩)) 3) K = K (.pointer (some ⟨b, o + 7, none⟩)) := B3 (i := 3) B0B rfl ⟨_, _, _, _, C32⟩ b o
@[simp] theorem D0M (b o : Nat) (K : Value → WP) : A0 PR (Instr.fieldAt 39 (.pointer (some ⟨b, o, none⟩)) 4) K = K (.pointer (some ⟨b, o + 8, none⟩)) := B3 (i := 4) B0B rfl ⟨_, _, _, _, B36⟩ b o
@[simp] theorem D0k (b o : Nat) (K : Value → WP) : A0 PR (Instr.fieldAt 39 (.pointer (some ⟨b, o, none⟩)) 5) K = K (.pointer (some ⟨b, o + 9, none⟩)) := B3 (i := 5) B0B rfl ⟨_, _, _, _, A64⟩ b o
@[simp] theorem D16 (b o : Nat) (K : Value → WP) : A0 PR (Instr.fieldAt 39 (.pointer (some ⟨b, o, none⟩)) 6) K = K (.pointer (some ⟨b, o + 10, none⟩)) := B3 (i := 6) B0B rfl ⟨_, _, _, _, K3⟩ b o
@[simp] theorem D0W (b o : Nat) (K : Value → WP) : A0 PR (Instr.fieldAt 45 (.pointer (some ⟨b, o, none⟩)) 0) K = K (.pointer (some ⟨b, o, none⟩)) := B3 (i := 0) A3w rfl ⟨_, _, _, _, K3⟩ b o
@[simp] theorem D1u (b o : Nat) (K : Value → WP) : A0 PR (Instr.fieldAt 45 (.pointer (some ⟨b, o, none⟩)) 1) K = K (.pointer (some ⟨b, o + 1, none⟩)) := B3 (i := 1) A3w rfl ⟨_, _, _, _, ty9⟩ b o
@[simp] theorem D1C (b o : Nat) (K : Value → WP) : A0 PR (Instr.fieldAt 45 (.pointer (some ⟨b, o, none⟩)) 2) K = K (.pointer (some ⟨b, o + 2, none⟩)) := B3 (i := 2) A3w rfl ⟨_, _, _, _, ty9⟩ b o
@[simp] theorem D1T (b o : Nat) (K : Value → WP) : A0 PR (Instr.fieldAt 45 (.pointer (some ⟨b, o, none⟩)) 3) K = K (.pointer (some ⟨b, o + 3, none⟩)) := B3 (i := 3) A3w rfl ⟨_, _, _, _, K3⟩ b o
@[simp] theorem D0d (b o : Nat) (K : Value → WP) : A0 PR (Instr.fieldAt 45 (.pointer (some ⟨b, o, none⟩)) 4) K = K (.pointer (some ⟨b, o + 4, none⟩)) := B3 (i := 4) A3w rfl ⟨_, _, _, _, K3⟩ b o
@[simp] theorem D1y (b o : Nat) (K : Value → WP) : A0 PR (Instr.fieldAt 45 (.pointer (some ⟨b, o, none⟩)) 5) K = K (.pointer (some ⟨b, o + 5, none⟩)) := B3 (i := 5) A3w rfl ⟨_, _, _, _, K3⟩ b o
@[simp] theorem D1Z (b o : Nat) (K : Value → WP) : A0 PR (Instr.fieldAt 47 (.pointer (some ⟨b, o, none⟩)) 0) K = K (.pointer (some ⟨b, o, none⟩)) := B3 (i := 0) B3N rfl ⟨_, _, _, _, A3w⟩ b o
@[simp] theorem D0r (b o : Nat) (K : Value → WP) : A0 PR (Instr.fieldAt 47 (.pointer (some ⟨b, o, none⟩)) 1) K = K (.pointer (some ⟨b, o + 6, none⟩)) := B3 (i := 1) B3N rfl ⟨_, _, _, _, K3⟩ b o
@[simp] theorem D03 (b o : Nat) (K : Value → WP) : A0 PR (Instr.fieldAt 55 (.pointer (some ⟨b, o, none⟩)) 0) K = K (.pointer (some ⟨b, o, none⟩)) := B3 (i := 0) A7S rfl ⟨_, _, _, _, B6y⟩ b o
@[simp] theorem D0g (b o : Nat) (K : Value → WP) : A0 PR (Instr.fieldAt 55 (.pointer (some ⟨b, o, none⟩)) 1) K = K (.pointer (some ⟨b, o + 1, none⟩)) := B3 (i := 1) A7S rfl ⟨_, _, _, _, K3⟩ b o
@[simp] theorem D10 (b o : Nat) (K : Value → WP) : A0 PR (Instr.fieldAt 55 (.pointer (some ⟨b, o, none⟩)) 2) K = K (.pointer (some ⟨b, o + 2, none⟩)) := B3 (i := 2) A7S rfl ⟨_, _, _, _, ty4⟩ b o
@[simp] theorem D1b (b o : Nat) (K : Value → WP) : A0 PR (Instr.fieldAt 79 (.pointer (some ⟨b, o, none⟩)) 0) K = K (.pointer (some ⟨b, o, none⟩)) := B3 (i := 0) B7H rfl ⟨_, _, _, _, K3⟩ b o
@[simp] theorem D1L (b o : Nat) (K : Value → WP) : A0 PR (Instr.fieldAt 79 (.pointer (some ⟨b, o, none⟩)) 1) K = K (.pointer (some ⟨b, o + 1, none⟩)) := B3 (i := 1) B7H rfl ⟨_, _, _, _, K3⟩ b o
@[simp] theorem D0u (b o : Nat) (K : Value → WP) : A0 PR (Instr.fieldAt 79 (.pointer (some ⟨b, o, none⟩)) 2) K = K (.pointer (some ⟨b, o + 2, none⟩)) := B3 (i := 2) B7H rfl ⟨_, _, _, _, B4L⟩ b o
theorem a6 {k1 : IntKind} {i : Int} {s : ByteArray} {b : UInt8} (h0 : 0 ≤ i) (h1 : s[i.toNat]? = some b) (K : Value → WP) : A0 PR (Instr.index 9 (.string s) (.int k1 i)) K = K (.int .u8 b.toNat) := C4c ty9 h0 h1
@[simp] theorem D25 {k : IntKind} {i : Int} {len cap : Nat} (h0 : 0 ≤ i) (h1 : i < len) (b o : Nat) (K : Value → WP) : A0 PR (Instr.indexAt 103 (.slice (some ⟨b, o, none⟩) len cap) (.int k i)) K = K (.pointer (some ⟨b, o + i.toNat * 2, none⟩)) := (N0 (K := K) B2y A7r h0 h1 b o)
theorem C4l : TI PR 107 Tryz.t107.desc 1 24 (.slice none 0 0) := ⟨Tryz.underlying107, Tryz.t107, by kernel_rfl, rfl, rfl, rfl⟩
@[simp] theorem D21 {k : IntKind} {i : Int} {len cap : Nat} (h0 : 0 ≤ i) (h1 : i < len) (b o : Nat) (K : Value → WP) : A0 PR (Instr.indexAt 107 (.slice (some ⟨b, o, none⟩) len cap) (.int k i)) K = K (.pointer (some ⟨b, o + i.toNat, none⟩)) := (by simpa using N0 (K := K) C4l ty4 h0 h1 b o)
theorem C4r : TI PR 143 Tryz.t143.desc 1 8 .nilFunc := ⟨Tryz.underlying143, Tryz.t143, by kernel_rfl, rfl, rfl, rfl⟩
@[simp] theorem D2H {k : IntKind} {i : Int} (h0 : 0 ≤ i) (h1 : i < (10 : Nat)) (b o : Nat) (K : Value → WP) : A0 PR (Instr.indexAt 144 (.pointer (some ⟨b, o, none⟩)) (.int k i)) K = K (.pointer (some ⟨b, o + i.toNat, none⟩)) := (by simpa using B2Q (K := K) C4g C4r h0 h1 b o)
@[simp] theorem D2v {k : IntKind} {i : Int} (h0 : 0 ≤ i) (h1 : i < (2 : Nat)) (b o : Nat) (K : Value → WP) : A0 PR (Instr.indexAt 158 (.pointer (some ⟨b, o, none⟩)) (.int k i)) K = K (.pointer (some ⟨b, o + i.toNat, none⟩)) := (by simpa using B2Q (K := K) B2D K3 h0 h1 b o)
@[simp] theorem D2z {k : IntKind} {i : Int} {len cap : Nat} (h0 : 0 ≤ i) (h1 : i < len) (b o : Nat) (K : Value → WP) : A0 PR (Instr.indexAt 228 (.slice (some ⟨b, o, none⟩) len cap) (.int k i)) K = K (.pointer (some ⟨b, o + i.toNat, none⟩)) := (by simpa using N0 (K := K) C0c B9b h0 h1 b o)
theorem B9W : TI PR 266 Tryz.t265.desc 1 16 .nilIface := ⟨Tryz.underlying266, Tryz.t266, by kernel_rfl, rfl, rfl, rfl⟩
@[simp] theorem D2k {k : IntKind} {i : Int} {len cap : Nat} (h0 : 0 ≤ i) (h1 : i < len) (b o : Nat) (K : Value → WP) : A0 PR (Instr.indexAt 229 (.slice (some ⟨b, o, none⟩) len cap) (.int k i)) K = K (.pointer (some ⟨b, o + i.toNat, none⟩)) := (by simpa using N0 (K := K) B2A B9W h0 h1 b o)
@[simp] theorem D2N {k : IntKind} {i : Int} {len cap : Nat} (h0 : 0 ≤ i) (h1 : i < len) (b o : Nat) (K : Value → WP) : A0 PR (Instr.indexAt 259 (.slice (some ⟨b, o, none⟩) len cap) (.int k i)) K = K (.pointer (some ⟨b, o + i.toNat * 2, none⟩)) := (N0 (K := K) B9l B2D h0 h1 b o)
theorem B90 : TI PR 279 Tryz.t193.desc 1 24 (.slice none 0 0) := ⟨Tryz.underlying279, Tryz.t279, by kernel_rfl, rfl, rfl, rfl⟩
@[simp] theorem D2c {k : IntKind} {i : Int} {len cap : Nat} (h0 : 0 ≤ i) (h1 : i < len) (b o : Nat) (K : Value → WP) : A0 PR (Instr.indexAt 279 (.slice (some ⟨b, o, none⟩) len cap) (.int k i)) K = K (.pointer (some ⟨b, o + i.toNat * 2, none⟩)) := (N0 (K := K) B90 B5j h0 h1 b o)
@[simp] theorem D2m {k : IntKind} {i : Int} {len cap : Nat} (h0 : 0 ≤ i) (h1 : i < len) (b o : Nat) (K : Value → WP) : A0 PR (Instr.indexAt 281 (.slice (some ⟨b, o, none⟩) len cap) (.int k i)) K = K (.pointer (some ⟨b, o + i.toNat * 2, none⟩)) := (N0 (K := K) B5r A7D h0 h1 b o)
@[simp] theorem D2A {k : IntKind} {i : Int} {len cap : Nat} (h0 : 0 ≤ i) (h1 : i < len) (b o : Nat) (K : Value → WP) : A0 PR (Instr.indexAt 301 (.slice (some ⟨b, o, none⟩) len cap) (.int k i)) K = K (.pointer (some ⟨b, o + i.toNat, none⟩)) := (by simpa using N0 (K := K) A3Q ty5 h0 h1 b o)
@[simp] theorem D2f {k : IntKind} {i : Int} {len cap : Nat} (h0 : 0 ≤ i) (h1 : i < len) (b o : Nat) (K : Value → WP) : A0 PR (Instr.indexAt 324 (.slice (some ⟨b, o, none⟩) len cap) (.int k i)) K = K (.pointer (some ⟨b, o + i.toNat * 4, none⟩)) := (N0 (K := K) B98 A2P h0 h1 b o)
@[simp] theorem D3J {k : IntKind} {i : Int} {len cap : Nat} (h0 : 0 ≤ i) (h1 : i < len) (b o : Nat) (K : Value → WP) : A0 PR (Instr.indexAt 36 (.slice (some ⟨b, o, none⟩) len cap) (.int k i)) K = K (.pointer (some ⟨b, o + i.toNat, none⟩)) := (by simpa using N0 (K := K) B36 A9y h0 h1 b o)
@[simp] theorem D3K {k : IntKind} {i : Int} {len cap : Nat} (h0 : 0 ≤ i) (h1 : i < len) (b o : Nat) (K : Value → WP) : A0 PR (Instr.indexAt 37 (.slice (some ⟨b, o, none⟩) len cap) (.int k i)) K = K (.pointer (some ⟨b, o + i.toNat, none⟩)) := (by simpa using N0 (K := K) A64 K3 h0 h1 b o)
@[simp] theorem D2b {k : IntKind} {i : Int} {len cap : Nat} (h0 : 0 ≤ i) (h1 : i < len) (b o : Nat) (K : Value → WP) : A0 PR (Instr.indexAt 375 (.slice (some ⟨b, o, none⟩) len cap) (.int k i)) K = K (.pointer (some ⟨b, o + i.toNat * 2, none⟩)) := (N0 (K := K) B9p B0Y h0 h1 b o)
@[simp] theorem D3C {k : IntKind} {i : Int} {len cap : Nat} (h0 : 0 ≤ i) (h1 : i < len) (b o : Nat) (K : Value → WP) : A0 PR (Instr.indexAt 51 (.slice (some ⟨b, o, none⟩) len cap) (.int k i)) K = K (.pointer (some ⟨b, o + i.toNat, none⟩)) := (by simpa using N0 (K := K) C0d ty9 h0 h1 b o)
@[simp] theorem D3S {k : IntKind} {i : Int} {len cap : Nat} (h0 : 0 ≤ i) (h1 : i < len) (b o : Nat) (K : Value → WP) : A0 PR (Instr.indexAt 58 (.slice (some ⟨b, o, none⟩) len cap) (.int k i)) K = K (.pointer (some ⟨b, o + i.toNat * 2, none⟩)) := (N0 (K := K) B4L B0c h0 h1 b o)
@[simp] theorem D3E {k : IntKind} {i : Int} {len cap : Nat} (h0 : 0 ≤ i) (h1 : i < len) (b o : Nat) (K : Value → WP) : A0 PR (Instr.indexAt 84 (.slice (some ⟨b, o, none⟩) len cap) (.int k i)) K = K (.pointer (some ⟨b, o + i.toNat * 4, none⟩)) := (N0 (K := K) A9y A2P h0 h1 b o)
@[simp] theorem D1r (a : Option Addr) (n c : Nat) (K : Value → WP) : A0 PR (A8 .len #[103] 0 [.slice a n c]) K = K (.int .i64 n) := f5 B2y a n c
@[simp] theorem D1s (a : Option Addr) (n c : Nat) (K : Value → WP) : A0 PR (A8 .len #[107] 0 [.slice a n c]) K = K (.int .i64 n) := f5 C4l a n c
@[simp] theorem D1B (a : Option Addr) (n c : Nat) (K : Value → WP) : A0 PR (A8 .len #[192] 0 [.slice a n c]) K = K (.int .i64 n) := f5 B9V a n c
@[simp] theorem D0S (a : Option Addr) (n c : Nat) (K : Value → WP) : A0 PR (A8 .len #[228] 0 [.slice a n c]) K = K (.int .i64 n) := f5 C0c a n c
@[simp] theorem D04 (a : Option Addr) (n c : Nat) (K : Value → WP) : A0 PR (A8 .len #[229] 0 [.slice a n c]) K = K (.int .i64 n) := f5 B2A a n c
@[simp] theorem D1Y (a : Option Addr) (n c : Nat) (K : Value → WP) : A0 PR (A8 .len #[259] 0 [.slice a n c]) K = K (.int .i64 n) := f5 B9l a n c
@[simp] theorem D07 (a : Option Addr) (n c : Nat) (K : Value → WP) : A0 PR (A8 .len #[279] 0 [.slice a n c]) K = K (.int .i64 n) := f5 B90 a n c
@[simp] theorem D1S (a : Option Addr) (n c : Nat) (K : Value → WP) : A0 PR (A8 .len #[281] 0 [.slice a n c]) K = K (.int .i64 n) := f5 B5r a n c
@[simp] theorem D1G (a : Option Addr) (n c : Nat) (K : Value → WP) : A0 PR (A8 .len #[301] 0 [.slice a n c]) K = K (.int .i64 n) := f5 A3Q a n c
@[simp] theorem D0Z (a : Option Addr) (n c : Nat) (K : Value → WP) : A0 PR (A8 .len #[324] 0 [.slice a n c]) K = K (.int .i64 n) := f5 B98 a n c
@[simp] theorem D2s (a : Option Addr) (n c : Nat) (K : Value → WP) : A0 PR (A8 .len #[36] 0 [.slice a n c]) K = K (.int .i64 n) := f5 B36 a n c
@[simp] theorem D2S (a : Option Addr) (n c : Nat) (K : Value → WP) : A0 PR (A8 .len #[37] 0 [.slice a n c]) K = K (.int .i64 n) := f5 A64 a n c
@[simp] theorem D0p (a : Option Addr) (n c : Nat) (K : Value → WP) : A0 PR (A8 .len #[375] 0 [.slice a n c]) K = K (.int .i64 n) := f5 B9p a n c
@[simp] theorem D2F (a : Option Addr) (n c : Nat) (K : Value → WP) : A0 PR (A8 .len #[51] 0 [.slice a n c]) K = K (.int .i64 n) := f5 C0d a n c
@[simp] theorem D2q (a : Option Addr) (n c : Nat) (K : Value → WP) : A0 PR (A8 .len #[58] 0 [.slice a n c]) K = K (.int .i64 n) := f5 B4L a n c
@[simp] theorem D2u (a : Option Addr) (n c : Nat) (K : Value → WP) : A0 PR (A8 .len #[84] 0 [.slice a n c]) K = K (.int .i64 n) := f5 A9y a n c
@[simp] theorem D3N (s : ByteArray) (K : Value → WP) : A0 PR (A8 .len #[9] 0 [.string s]) K = K (.int .i64 s.size) := C6u ty9 s
@[simp] theorem D3Z (a : Addr) (K : Value → WP) (w : World) : A6 PR (Instr.loadAt 3 (.pointer (some a))) K w = rdc (w.cell? a) K (far PR 3 a K) w := B7P K3 rfl a
@[simp] theorem D3D (a : Addr) (K : Value → WP) (w : World) : A6 PR (Instr.loadAt 89 (.pointer (some a))) K w = rdc (w.cell? a) K (far PR 89 a K) w := B7P A9x rfl a
@[simp] theorem D19 (v : Value) (K : Value → WP) : A0 PR (Instr.makeInterface 195 v) K = K (.iface 195 v) := A5M A4m (by intro ms h; cases h) v
@[simp] theorem D2V (v : Value) (K : Value → WP) : A0 PR (Instr.makeInterface 263 v) K = K (.iface 263 v) := A5M B0b (by intro ms h; cases h) v
@[simp] theorem D2D (v : Value) (K : Value → WP) : A0 PR (Instr.makeInterface 333 v) K = K (.iface 333 v) := A5M C4f (by intro ms h; cases h) v
@[simp] theorem D2r (v : Value) (K : Value → WP) : A0 PR (Instr.makeInterface 334 v) K = K (.iface 334 v) := A5M C44 (by intro ms h; cases h) v
@[simp] theorem C90 (b o : Nat) (K : Value → WP) : A0 PR (Instr.sliceAt 355 (.pointer (some ⟨b, o, none⟩)) none none none) K = K (.slice (some ⟨b, o, none⟩) 38 38) := C08 B9f ty5 b o
@[simp] theorem D3P {k1 : IntKind} {hi : Int} {s : ByteArray} (h0 : 0 ≤ hi) (h1 : hi ≤ s.size) (K : Value → WP) : A0 PR (Instr.sliceAt 9 (.string s) none (some (.int k1 hi)) none) K = K (.string (s.extract 0 hi.toNat)) := C2j ty9 h0 h1
@[simp] theorem D3F {k1 : IntKind} {lo : Int} {s : ByteArray} (h0 : 0 ≤ lo) (h1 : lo ≤ s.size) (K : Value → WP) : A0 PR (Instr.sliceAt 9 (.string s) (some (.int k1 lo)) none none) K = K (.string (s.extract lo.toNat s.size)) := C2U ty9 h0 h1
@[simp] theorem D3U {k1 k2 : IntKind} {lo hi : Int} {s : ByteArray} (h0 : 0 ≤ lo) (h1 : lo ≤ hi) (h2 : hi ≤ s.size) (K : Value → WP) : A0 PR (Instr.sliceAt 9 (.string s) (some (.int k1 lo)) (some (.int k2 hi)) none) K = K (.string (s.extract lo.toNat hi.toNat)) := C3V ty9 h0 h1 h2
theorem C45 : TI PR 156 Tryz.t156.desc 1 8 (.map none) := ⟨Tryz.underlying156, Tryz.t156, by kernel_rfl, rfl, rfl, rfl⟩
theorem B5g : TI PR 250 Tryz.t249.desc 1 16 .nilIface := ⟨Tryz.underlying250, Tryz.t250, by kernel_rfl, rfl, rfl, rfl⟩
theorem B5m : TI PR 251 Tryz.t251.desc 1 8 (.map none) := ⟨Tryz.underlying251, Tryz.t251, by kernel_rfl, rfl, rfl, rfl⟩
end Go.Proofs.YtjobgnabneddjaaGreat
namespace Go.Proofs.YtjobgnabneddjaaGreat
open Go
@[simp] theorem C1U (a b : ByteArray) : (a == b) = decide (a = b) := by
 obtain ⟨x⟩ := a; obtain ⟨y⟩ := b
 have h : ((⟨x⟩ : ByteArray) == ⟨y⟩) = (x == y) := rfl
 rw [h]
 by_cases e : x = y
 ·subst e; simp
 ·simp [e]
@[simp] theorem C9B (a : Array UInt8) : (ByteArray.mk a).size = a.size := rfl
theorem B61 (ns : List Int) : (A3c ns).data.toList = ns.map fun n => UInt8.ofNat n.toNat := by
 have : ∀ (l : List Int) (r : ByteArray), (l.foldl (fun r n => r.push (UInt8.ofNat n.toNat)) r).data.toList = r.data.toList ++ l.map fun n => UInt8.ofNat n.toNat := by
  intro l
  induction l with
  | nil => intro r; simp
  | cons x l ih => intro r; rw [List.foldl_cons, ih]; simp [ByteArray.push]
 have h := this ns ByteArray.empty
 rw [show ByteArray.empty.data.toList = [] from rfl, List.nil_append] at h
 exact h
@[simp] theorem C7S (ns : List Int) : (A3c ns).size = ns.length := by
 have := congrArg List.length (B61 ns)
 rw [List.length_map] at this
 exact this
class TS (t : TypeId) (z : outParam Value) : Prop where
 ti : ∃ d m, TI PR t d 1 m z ∧ P9 d = false
class TG (t : TypeId) (n : outParam Nat) (z : outParam Value) : Prop where
 ti : ∃ d m, TI PR t d n m z ∧ P9 d = true
class TA (t : TypeId) (n : outParam Nat) (z : outParam Value) : Prop where
 ti : ∃ d m, TI PR t d n m z
class SL (t : TypeId) (e : outParam TypeId) (k by' : outParam Nat) (z : outParam Value) : Prop where
 ti : (∃ n m z', TI PR t (.slice e) n m z') ∧ (∃ d, TI PR e d k by' z) ∧ z.cells.size = k
instance TS.ta {t : TypeId} {z : Value} [h : TS t z] : TA t 1 z := ⟨let ⟨d, m, h, _⟩ := h.ti; ⟨d, m, h⟩⟩
instance TG.ta {t : TypeId} {n : Nat} {z : Value} [h : TG t n z] : TA t n z := ⟨let ⟨d, m, h, _⟩ := h.ti; ⟨d, m, h⟩⟩
def rdq (x : Option (List Value)) (G : List Value → WP) (F : WP) : WP := match x with | some l => G l | none => F
@[simp] theorem B7A (l : List Value) (G : List Value → WP) (F : WP) : rdq (some l) G F = G l := id rfl
@[congr] theorem D12 {x x' : Option (List Value)} {G : List Value → WP} {F : WP} (h : x = x') {q : Nat} (hq : W4 = q) : rdq x G F = rdq x' G F := by rw [h]
@[simp] theorem D2x (xs : List Value) : W1 xs 0 0 = some [] := by simp [W1]
@[simp] theorem C9Z (x : Value) (xs : List Value) (n : Nat) : W1 (x :: xs) 0 (n + 1) = (W1 xs 0 n).map (x :: ·) := by
 simp only [W1, Nat.zero_add, List.length_cons, List.drop_zero, List.take_succ_cons]
 by_cases h : n ≤ xs.length
 ·rw [if_pos h, if_pos (by omega)]; rfl
 ·rw [if_neg h, if_neg (by omega)]; rfl
theorem C2E {α : Type} {l : List α} {f : α → List Value} {k i : Nat} {x : α} (hk : ∀ x, (f x).length = k) (hx : l[i]? = some x) : W1 (l.flatMap f) (i * k) k = some (f x) := by
 obtain ⟨hlt, hx'⟩ := List.getElem?_eq_some_iff.1 hx
 have h1 : (i + 1) * k ≤ l.length * k := Nat.mul_le_mul_right k hlt
 rw [Nat.add_mul] at h1
 rw [W1, if_pos (by rw [P7 hk]; omega), A97 hk, List.drop_eq_getElem_cons hlt, List.flatMap_cons, hx']
 rw [List.take_left' (hk x)]
inductive Sel (r : Res) : List Res → List Res → Prop where
 | here {H : List Res} : Sel r (r :: H) H
 | there {x : Res} {H H' : List Res} : Sel r H H' → Sel r (x :: H) (x :: H')
theorem Sel.perm {r : Res} {H Hr : List Res} (h : Sel r H Hr) : H.Perm (r :: Hr) := by
 induction h with
 | here => exact .refl _
 | there _ ih => exact (ih.cons _).trans (.swap ..)
theorem Sel.sub {r : Res} {H Hr : List Res} (h : Sel r H Hr) : Hr.Sublist H := by
 induction h with
 | here => exact List.sublist_cons_self ..
 | there _ ih => exact ih.cons_cons _
theorem A1 {r : Res} {H : List Res} : r ∈ r :: H := List.mem_cons_self ..
theorem uH {r r' : Res} {H : List Res} : Up r r' (r :: H) (r' :: H) := Up.here
theorem uT {r r' x : Res} {H H' : List Res} (h : Up r r' H H') : Up r r' (x :: H) (x :: H') := Up.there h
theorem A2 {r x : Res} {H : List Res} (h : r ∈ H) : r ∈ x :: H := List.mem_cons_of_mem _ h
inductive Sels : List Res → List Res → Prop where
 | nil {H : List Res} : Sels [] H
 | cons {r : Res} {rs H Hr : List Res} : Sel r H Hr → Sels rs Hr → Sels (r :: rs) H
theorem Sels.sub {rs H : List Res} (h : Sels rs H) : ∃ H', H.Perm H' ∧ rs.Sublist H' := by
 induction h with
 | nil => exact ⟨_, .refl _, List.nil_sublist _⟩
 | cons h1 _ ih => obtain ⟨H', h2, h3⟩ := ih; exact ⟨_ :: H', h1.perm.trans (h2.cons _), h3.cons_cons _⟩
theorem Sels.lw {κ : Bool} {S : List Nat} {w0 w : World} {rs H : List Res} (h : Sels rs H) (hw : LW κ S w0 H w) : LW κ S w0 rs w := let ⟨_, h1, h2⟩ := h.sub; (hw.perm h1).sub h2
theorem Sels.tw {κ : Bool} {S : List Nat} {w0 : World} {rs H : List Res} {K : WP} (h : Sels rs H) (hk : TW κ S w0 rs K) : TW κ S w0 H K := fun w hw => hk w (h.lw hw)
inductive Part : List Res → List Res → List Res → Prop where
 | nil {H : List Res} : Part [] H H
 | cons {r : Res} {rs H H1 Hk : List Res} : Sel r H H1 → Part rs H1 Hk → Part (r :: rs) H Hk
theorem Part.perm {Hc H Hk : List Res} (h : Part Hc H Hk) : H.Perm (Hc ++ Hk) := by
 induction h with
 | nil => exact .refl _
 | cons h1 _ ih => exact h1.perm.trans (ih.cons _)
theorem C6 {κ : Bool} {X : Nat → Prop} {S : List Nat} {w0 : World} {H Hk Hc : List Res} {K : Value → WP} {f : FuncId} {args : List Value} {α : Type} {φ : α → Value → Prop} {Hn : α → List Res} (he : A9 PR f)
  (hf : ∀ w, LW κ S w0 (Hc ++ Hk) w → LW false (B5 Hc) w Hc w → Fn PR B8 f args.toArray w (Rn (B5 Hc) w φ Hn)) (hp : Part Hc H Hk) (hK : ∀ a v, φ a v → TW κ S w0 (Hn a ++ Hk) (K v)) : TW κ S w0 H (B4 PR X f args K) :=
 B2P he hp.perm (fun w hw => let h := hw.perm hp.perm; hf w h (h.sub (List.sublist_append_left _ _)).self) hK
theorem B1 {κ : Bool} {S : List Nat} {w0 : World} {H : List Res} {α : Type} {φ : α → Value → Prop} {Hn : α → List Res} {v : Value} (a : α) (h : φ a v) (hs : Sels (Hn a) H) : TW κ S w0 H (Rn S w0 φ Hn v) := fun w hw => ⟨a, h, hs.lw hw.low⟩
theorem C40 {κ : Bool} {S : List Nat} {w0 : World} {H : List Res} {F : Value → WP} {A : (Value → WP) → WP} {α : Type} (φ : α → Prop) (Hh : α → List Res) (v1 : α → Value) (hF : ∀ x, φ x → TW κ S w0 (Hh x) (F (v1 x)))
  (hA : ∀ J : Value → WP, (∀ x, φ x → TW κ S w0 (Hh x) (J (v1 x))) → TW κ S w0 H (A J)) : TW κ S w0 H (kt (n := 1) F A) := hA F hF
theorem C9E {κ : Bool} {S : List Nat} {w0 : World} {H : List Res} {F : Value → Value → WP} {A : (Value → Value → WP) → WP} {α : Type} (φ : α → Prop) (Hh : α → List Res) (v1 v2 : α → Value) (hF : ∀ x, φ x → TW κ S w0 (Hh x) (F (v1 x) (v2 x)))
  (hA : ∀ J : Value → Value → WP, (∀ x, φ x → TW κ S w0 (Hh x) (J (v1 x) (v2 x))) → TW κ S w0 H (A J)) : TW κ S w0 H (kt (n := 2) F A) := hA F hF
theorem G1.form {w : World} {v : Value} {n : Nat} {xs : List Value} (h : G1 w v n xs) : ∃ a c, v = .slice a n c ∧ (0 < n → ∃ b o, a = some ⟨b, o, none⟩ ∧ N1 w b o xs) := by
 rcases h with ⟨rfl, rfl, a, c, rfl⟩ | ⟨b, o, c, rfl, hr⟩
 ·exact ⟨a, c, rfl, fun h => absurd h (by omega)⟩
 ·exact ⟨_, c, rfl, fun _ => ⟨b, o, rfl, hr⟩⟩
theorem N1.at {w : World} {b o k : Nat} {α : Type} {l : List α} {f : α → List Value} (h : N1 w b o (l.flatMap f)) (hk : ∀ x, (f x).length = k) {i : Nat} {x : α} (hx : l[i]? = some x) : k8 w b (o + i * k) k = some (f x) := by
 have h1 : N1 w b (o + i * k) (f x) := fun j hj => by
  rw [hk] at hj
  have h2 := d8 hk l i j hj
  rw [hx] at h2
  have h3 : (l.flatMap f)[i * k + j]? = some ((f x)[j]'(by rw [hk]; exact hj)) := by rw [h2]; simp [List.getElem?_eq_getElem, hk, hj]
  rw [Nat.add_assoc, h.get h3]; simp [List.getElem?_eq_getElem, hk, hj]
 have := A6H h1
 rwa [hk] at this
theorem N1.cellAt {w : World} {b o k : Nat} {α : Type} {l : List α} {f : α → List Value} (h : N1 w b o (l.flatMap f)) (hk : ∀ x, (f x).length = k) {i j : Nat} {x : α} {u : Value} (hx : l[i]? = some x) (hu : (f x)[j]? = some u) : w.cell? ⟨b, o + i * k + j, none⟩ = some u := by
 have hj : j < k := by rw [← hk x]; exact (List.getElem?_eq_some_iff.1 hu).1
 have h2 := d8 hk l i j hj
 rw [hx] at h2
 rw [Nat.add_assoc]
 exact h.get (by rw [h2]; exact hu)
theorem N1.one {w : World} {b o : Nat} {α : Type} {l : List α} {f : α → Value} (h : N1 w b o (l.map f)) {i : Nat} {x : α} (hx : l[i]? = some x) : w.cell? ⟨b, o + i, none⟩ = some (f x) := h.get (by simp [hx])
section
variable {κ : Bool} {X : Nat → Prop} {S : List Nat} {w0 : World} {H H' Hr : List Res} {K : Value → WP} {K0 : WP} {t e : TypeId} {n k by' : Nat} {z : Value}
theorem C8W {s : Sem Value} {v : Value} (h : ∀ w, LW κ S w0 H w → A6 PR s K w = K v w) : TW κ S w0 H (A6 PR s K) = TW κ S w0 H (K v) := TW.congr h
theorem C1s {s : Sem Value} {v : Value} (hK : TW κ S w0 H (K v)) (h : ∀ w, LW κ S w0 H w → A6 PR s K w = K v w) : TW κ S w0 H (A6 PR s K) := fun w hw => by rw [h w hw]; exact hK w hw
theorem s9 {v : Value} {q : Nat} {xs : List Value} (hm : Res.own e k v q xs ∈ H) (hq : 0 < q) (h : ∀ g c, v = .slice (some ⟨g, 0, none⟩) q c → TW κ S w0 H K0) : TW κ S w0 H K0 := fun w hw => by
 rcases (hw.hold _ hm).2 with ⟨_, rfl⟩ | ⟨g, c, _, rfl, _⟩
 ·omega
 ·exact h g c rfl w hw
@[simp] theorem D3Q [h : TS t z] {b o : Nat} {c : Array Value} {T : TypeId} {f : Nat × Nat} (hm : Res.pt b (.cells c T f) ∈ H) :
  TW κ S w0 H (A6 PR (Instr.loadAt t (.pointer (some ⟨b, o, none⟩))) K) = TW κ S w0 H (rdc c[o]? K (far PR t ⟨b, o, none⟩ K)) := let ⟨_, _, h, hd⟩ := h.ti; C5J h hd hm
@[simp] theorem D2y [h : TS t z] {g o : Nat} {k q c : Nat} {xs : List Value} (hm : Res.own e k (.slice (some ⟨g, 0, none⟩) q c) q xs ∈ H) :
  TW κ S w0 H (A6 PR (Instr.loadAt t (.pointer (some ⟨g, o, none⟩))) K) = TW κ S w0 H (rdc xs[o]? K (A6 PR (Instr.loadAt t (.pointer (some ⟨g, o, none⟩))) K)) := by
 cases hv : xs[o]? with
 | none => rfl
 | some v => exact let ⟨_, _, h, hd⟩ := h.ti; C23 h hd hm hv
@[simp] theorem D2J [h : TS t z] {b o : Nat} {v : Value} (hc : w0.cell? ⟨b, o, none⟩ = some v) (hS : b ∉ S) :
  TW κ S w0 H (A6 PR (Instr.loadAt t (.pointer (some ⟨b, o, none⟩))) K) = TW κ S w0 H (K v) := let ⟨_, _, h, hd⟩ := h.ti; C37 h hd hc hS
@[simp] theorem D2n [h : TG t n z] {b o : Nat} {c : Array Value} {T : TypeId} {f : Nat × Nat} (hm : Res.pt b (.cells c T f) ∈ H) :
  TW κ S w0 H (A6 PR (Instr.loadAt t (.pointer (some ⟨b, o, none⟩))) K) = TW κ S w0 H (rdq (W1 c.toList o n) (fun l => K (.agg l.toArray)) (A6 PR (Instr.loadAt t (.pointer (some ⟨b, o, none⟩))) K)) := by
 cases hl : W1 c.toList o n with
 | none => rfl
 | some l => exact let ⟨_, _, h, hd⟩ := h.ti; C3u h hd hm hl
@[simp] theorem D0y [h : TG t n z] {g o : Nat} {k q c : Nat} {xs : List Value} (hm : Res.own e k (.slice (some ⟨g, 0, none⟩) q c) q xs ∈ H) :
  TW κ S w0 H (A6 PR (Instr.loadAt t (.pointer (some ⟨g, o, none⟩))) K) = TW κ S w0 H (rdq (W1 xs o n) (fun l => K (.agg l.toArray)) (A6 PR (Instr.loadAt t (.pointer (some ⟨g, o, none⟩))) K)) := by
 cases hl : W1 xs o n with
 | none => rfl
 | some l => exact let ⟨_, _, h, hd⟩ := h.ti; C2J h hd hm hl
@[simp] theorem D0b [h : TG t n z] {b o : Nat} {l : List Value} (hc : k8 w0 b o n = some l) (hS : b ∉ S) :
  TW κ S w0 H (A6 PR (Instr.loadAt t (.pointer (some ⟨b, o, none⟩))) K) = TW κ S w0 H (K (.agg l.toArray)) := let ⟨_, _, h, hd⟩ := h.ti; C09 h hd hc hS
@[simp] theorem C7G [h : TS t z] {b o : Nat} {c : Array Value} {T : TypeId} {f : Nat × Nat} (hm : Res.pt b (.cells c T f) ∈ H) {v : Value} (hv : c[o]? = some v) :
  TW κ S w0 H (A6 PR (F8 [.c t (.pointer (some ⟨b, o, none⟩))]) K) = TW κ S w0 H (K v) := let ⟨_, _, h, hd⟩ := h.ti; C7m h hd hm hv
@[simp] theorem D3Y [h : TG t n z] {b o : Nat} {c : Array Value} {T : TypeId} {f : Nat × Nat} (hm : Res.pt b (.cells c T f) ∈ H) :
  TW κ S w0 H (A6 PR (F8 [.c t (.pointer (some ⟨b, o, none⟩))]) K) = TW κ S w0 H (rdq (W1 c.toList o n) (fun l => K (.agg l.toArray)) (A6 PR (F8 [.c t (.pointer (some ⟨b, o, none⟩))]) K)) := by
 cases hl : W1 c.toList o n with
 | none => rfl
 | some l => exact let ⟨_, _, h, hd⟩ := h.ti; C61 h hd hm hl
@[simp] theorem D3M [h : TG t n z] {b o : Nat} {c : Array Value} {T : TypeId} {f : Nat × Nat} {x : Value} (hm : Res.pt b (.cells c T f) ∈ H) :
  TW κ S w0 H (A6 PR (F8 [.c t (.pointer (some ⟨b, o, none⟩)), .v x]) K) = TW κ S w0 H (rdq (W1 c.toList o n) (fun l => K (.tuple #[.agg l.toArray, x])) (A6 PR (F8 [.c t (.pointer (some ⟨b, o, none⟩)), .v x]) K)) := by
 cases hl : W1 c.toList o n with
 | none => rfl
 | some l =>
   obtain ⟨_, _, h, hd⟩ := h.ti
   refine TW.congr fun w hw => ?_
   rw [B7A]
   have hr := A10 hl (N1.bl (hw.pt hm)); have h2 := A12 hr
   refine S9 ?_ K
   have := A5C h hd h2.1 h2.2
   simp only [Instr.loadAt, Instr.sureAddr, Sem.run_bind, Sem.run_pure, Result.andThen_ok] at this
   simp [F8, A32, RV.sem, asAddr, this, one]
@[simp] theorem D3L [h : TG t n z] {b o : Nat} {c : Array Value} {T : TypeId} {f : Nat × Nat} {x y : Value} (hm : Res.pt b (.cells c T f) ∈ H) :
  TW κ S w0 H (A6 PR (F8 [.c t (.pointer (some ⟨b, o, none⟩)), .v x, .v y]) K) = TW κ S w0 H (rdq (W1 c.toList o n) (fun l => K (.tuple #[.agg l.toArray, x, y])) (A6 PR (F8 [.c t (.pointer (some ⟨b, o, none⟩)), .v x, .v y]) K)) := by
 cases hl : W1 c.toList o n with
 | none => rfl
 | some l =>
   obtain ⟨_, _, h, hd⟩ := h.ti
   refine TW.congr fun w hw => ?_
   rw [B7A]
   have hr := A10 hl (N1.bl (hw.pt hm)); have h2 := A12 hr
   refine S9 ?_ K
   have := A5C h hd h2.1 h2.2
   simp only [Instr.loadAt, Instr.sureAddr, Sem.run_bind, Sem.run_pure, Result.andThen_ok] at this
   simp [F8, A32, RV.sem, asAddr, this, one]
@[simp] theorem D0G [h : TS t z] {b o : Nat} {c : Array Value} {T : TypeId} {f : Nat × Nat} {v : Value} {l : List Rd} (hm : Res.pt b (.cells c T f) ∈ H) (hv : c[o]? = some v) :
  TW κ S w0 H (watch PR ((none, Instr.loadAt t (.pointer (some ⟨b, o, none⟩)), v) :: l) K0) = TW κ S w0 H (watch PR l K0) := let ⟨_, _, h, hd⟩ := h.ti; B3v fun w hw => A2T h hd (by rw [E5 (hw.pt hm)]; exact hv)
@[simp] theorem C75 [h : TS t z] {b o : Nat} {v : Value} {l : List Rd} (hc : w0.cell? ⟨b, o, none⟩ = some v) (hS : b ∉ S) :
  TW κ S w0 H (watch PR ((none, Instr.loadAt t (.pointer (some ⟨b, o, none⟩)), v) :: l) K0) = TW κ S w0 H (watch PR l K0) := let ⟨_, _, h, hd⟩ := h.ti; B3v fun w hw => A2T h hd (hw.ks.cell hS hc)
@[simp] theorem D20 [h : TA t n z] {v : Value} {b o : Nat} {c : Array Value} {T : TypeId} (hv : v.cells.size = n)
  (hu : Up (.pt b (.cells c T (0, 0))) (.pt b (.cells (E8 c o v.cells.toList) T (0, 0))) H H') (hs : o + n ≤ c.size) (hp : v.cells.toList.all plain = true) :
  TW κ S w0 H (C0 PR X (Instr.storeAt t (.pointer (some ⟨b, o, none⟩)) v) K0) = TW κ S w0 H' K0 := let ⟨_, _, h⟩ := h.ti; D2Z h hv hu hs hp
theorem U0 [h : TA t n z] {v : Value} {g o q c : Nat} {xs : List Value} (hu : Up (.own e k (.slice (some ⟨g, 0, none⟩) q c) q xs) (.own e k (.slice (some ⟨g, 0, none⟩) q c) q (Y5 xs o v.cells.toList)) H H')
  (hv : v.cells.size = n) (hs : o + n ≤ xs.length) (hp : v.cells.toList.all plain = true) (hK : TW κ S w0 H' K0) :
  TW κ S w0 H (C0 PR X (Instr.storeAt t (.pointer (some ⟨g, o, none⟩)) v) K0) := let ⟨_, _, h⟩ := h.ti; C3z h hv hu hs hp hK
theorem A4 [h : TA t n z] (hK : ∀ b, TW κ S w0 (.pt b (.cells z.cells t) :: H) (K (.pointer (some ⟨b, 0, none⟩)))) : TW κ S w0 H (B2 PR X (Instr.alloc t true (.tuple #[])) K) := let ⟨_, _, h⟩ := h.ti; D2M h hK
theorem y3 {k1 k2 : IntKind} {l : Int} [h : SL t e k by' z] (h0 : 0 ≤ l) (hb : l * by' ≤ 140737488355328) (hc : l ≤ 9223372036854775807) (hk : 0 < k)
  (hK : ∀ b, TW κ S w0 (.own e k (.slice (some ⟨b, 0, none⟩) l.toNat l.toNat) l.toNat (Builtin.zeroCells z.cells l.toNat).toList :: H) (K (.slice (some ⟨b, 0, none⟩) l.toNat l.toNat))) :
  TW κ S w0 H (B2 PR X (Instr.makeSlice t (.int k1 l) (.int k2 l)) K) := let ⟨⟨_, _, _, h1⟩, ⟨_, h2⟩, h3⟩ := h.ti; D23 h1 h2 h3 hk h0 rfl hb hc hK
theorem D6 [h : SL t e k by' z] (hK : ∀ b, TW κ S w0 (.own e k (.slice (some ⟨b, 0, none⟩) 0 0) 0 [] :: H) (K (.slice (some ⟨b, 0, none⟩) 0 0))) : TW κ S w0 H (B2 PR X (Instr.buildSlice t 0 #[]) K) :=
 let ⟨⟨_, _, _, h1⟩, ⟨_, h2⟩, h3⟩ := h.ti; C9A h1 h2 hK
theorem C4b {m n q : Nat} (hq : 0 < n) : ∀ (vs : List Value) (i : Nat) (cs : Array Value), (∀ v ∈ vs, v.cells.size = n) → (i + vs.length) * n ≤ cs.size →
  Instr.fill (fun i => some (i * n, n)) cs ((List.range' i vs.length).zip vs) = some (E8 cs (i * n) (vs.flatMap fun v => v.cells.toList)) := by
 intro vs
 induction vs with
 | nil => intro i cs _ _; simp [Instr.fill]
 | cons v vs ih =>
  intro i cs hv hs
  simp only [List.length_cons] at hs
  have hv0 : v.cells.size = n := hv v (by simp)
  have e1 : (i + (vs.length + 1)) * n = i * n + n + vs.length * n := by rw [Nat.add_mul, Nat.add_mul]; omega
  simp only [List.length_cons, List.range'_succ, List.zip_cons_cons]
  rw [B7 rfl hv0 (by omega), ih (i + 1) _ (fun u hu => hv u (by simp [hu])) (by rw [B9]; (have : (i + 1 + vs.length) * n = i * n + n + vs.length * n := by (rw [Nat.add_mul, Nat.add_mul]; omega)); omega)]
  have spl_spl : ∀ (l l' : List Value) (c : Array Value) (o : Nat), E8 (E8 c o l) (o + l.length) l' = E8 c o (l ++ l') := by
   intro l
   induction l with
   | nil => intro l' c o; simp
   | cons u l ih => intro l' c o; simp only [B63, List.cons_append, List.length_cons]; rw [← ih]; congr 1; omega
  rw [List.flatMap_cons, ← spl_spl]
  congr 2
  have : v.cells.toList.length = n := by simp [hv0]
  rw [this, Nat.add_mul]; omega
theorem B52 {len : Nat} {parts : Array (Nat × Value)} (vs : List Value) [h : SL t e k by' z] (hk : 0 < k) (h0 : 0 < len) (hb : len * k ≤ 2 ^ 24) (hp : parts.toList = (List.range' 0 len).zip vs) (hl : vs.length = len) (hv : ∀ v ∈ vs, v.cells.size = k)
  (hK : ∀ b, TW κ S w0 (.own e k (.slice (some ⟨b, 0, none⟩) len len) len (vs.flatMap fun v => v.cells.toList) :: H) (K (.slice (some ⟨b, 0, none⟩) len len))) :
  TW κ S w0 H (B2 PR X (Instr.buildSlice t len parts) K) := by
 obtain ⟨⟨_, _, _, h1⟩, ⟨_, h2⟩, h3⟩ := h.ti
 have hlen : (vs.flatMap fun v => v.cells.toList).length = len * k := by
  rw [← hl]; clear hp hl hK hb h0
  induction vs with
  | nil => simp
  | cons v vs ih =>
   have := hv v (by simp)
   rw [List.flatMap_cons, List.length_append, ih fun u hu => hv u (by simp [hu])]
   simp only [Array.length_toList, List.length_cons, this]; rw [Nat.add_mul]; omega
 have hf := C4b (m := 0) (q := 0) hk vs 0 ((Array.range (len * k)).map (z.cells[· % z.cells.size]!)) hv (by simp [hl])
 rw [hl, ← hp] at hf
 have hz : E8 ((Array.range (len * k)).map (z.cells[· % z.cells.size]!)) (0 * k) (vs.flatMap fun v => v.cells.toList) = (vs.flatMap fun v => v.cells.toList).toArray := by
  apply Array.toList_inj.1
  rw [A1F _ _ _ (by simp [-List.length_flatMap, hlen])]
  simp only [Nat.zero_mul, List.take_zero, List.nil_append, hlen, Nat.zero_add]
  rw [List.drop_eq_nil_of_le (by simp)]; simp
 refine D2p h1 h2 hb (by have : 0 < len * k := Nat.mul_pos h0 hk; omega) (hf.trans (by rw [hz])) (by simp [-List.length_flatMap, hlen]) ?_
 simpa using hK
theorem D3 {v0 : Value} [h : SL t e k by' z] (hk : 0 < k := by decide) (hb : 1 * k ≤ 2 ^ 24 := by decide) (h0 : v0.cells.size = k := by simp) (hK : ∀ b, TW κ S w0 (.own e k (.slice (some ⟨b, 0, none⟩) 1 1) 1 (v0.cells.toList) :: H) (K (.slice (some ⟨b, 0, none⟩) 1 1))) :
  TW κ S w0 H (B2 PR X (Instr.buildSlice t 1 #[(0, v0)]) K) := B52 [v0] hk (by omega) hb rfl rfl (by intro v hv; simp only [List.mem_cons, List.not_mem_nil, or_false] at hv; subst hv; assumption) (by simpa using hK)
theorem D7 {v0 v1 : Value} [h : SL t e k by' z] (hk : 0 < k := by decide) (hb : 2 * k ≤ 2 ^ 24 := by decide) (h0 : v0.cells.size = k := by simp) (h1 : v1.cells.size = k := by simp) (hK : ∀ b, TW κ S w0 (.own e k (.slice (some ⟨b, 0, none⟩) 2 2) 2 (v0.cells.toList ++ v1.cells.toList) :: H) (K (.slice (some ⟨b, 0, none⟩) 2 2))) :
  TW κ S w0 H (B2 PR X (Instr.buildSlice t 2 #[(0, v0), (1, v1)]) K) := B52 [v0, v1] hk (by omega) hb rfl rfl (by intro v hv; simp only [List.mem_cons, List.not_mem_nil, or_false] at hv; rcases hv with rfl | rfl <;> assumption) (by simpa using hK)
theorem D8 {v0 v1 v2 : Value} [h : SL t e k by' z] (hk : 0 < k := by decide) (hb : 3 * k ≤ 2 ^ 24 := by decide) (h0 : v0.cells.size = k := by simp) (h1 : v1.cells.size = k := by simp) (h2 : v2.cells.size = k := by simp) (hK : ∀ b, TW κ S w0 (.own e k (.slice (some ⟨b, 0, none⟩) 3 3) 3 (v0.cells.toList ++ v1.cells.toList ++ v2.cells.toList) :: H) (K (.slice (some ⟨b, 0, none⟩) 3 3))) :
  TW κ S w0 H (B2 PR X (Instr.buildSlice t 3 #[(0, v0), (1, v1), (2, v2)]) K) := B52 [v0, v1, v2] hk (by omega) hb rfl rfl (by intro v hv; simp only [List.mem_cons, List.not_mem_nil, or_false] at hv; rcases hv with rfl | rfl | rfl <;> assumption) (by simpa using hK)
theorem D5 {v0 v1 v2 v3 v4 : Value} [h : SL t e k by' z] (hk : 0 < k := by decide) (hb : 5 * k ≤ 2 ^ 24 := by decide) (h0 : v0.cells.size = k := by simp) (h1 : v1.cells.size = k := by simp) (h2 : v2.cells.size = k := by simp) (h3 : v3.cells.size = k := by simp) (h4 : v4.cells.size = k := by simp) (hK : ∀ b, TW κ S w0 (.own e k (.slice (some ⟨b, 0, none⟩) 5 5) 5 (v0.cells.toList ++ v1.cells.toList ++ v2.cells.toList ++ v3.cells.toList ++ v4.cells.toList) :: H) (K (.slice (some ⟨b, 0, none⟩) 5 5))) :
  TW κ S w0 H (B2 PR X (Instr.buildSlice t 5 #[(0, v0), (1, v1), (2, v2), (3, v3), (4, v4)]) K) := B52 [v0, v1, v2, v3, v4] hk (by omega) hb rfl rfl (by intro v hv; simp only [List.mem_cons, List.not_mem_nil, or_false] at hv; rcases hv with rfl | rfl | rfl | rfl | rfl <;> assumption) (by simpa using hK)
theorem D4 {v0 v1 v2 v3 v4 v5 : Value} [h : SL t e k by' z] (hk : 0 < k := by decide) (hb : 6 * k ≤ 2 ^ 24 := by decide) (h0 : v0.cells.size = k := by simp) (h1 : v1.cells.size = k := by simp) (h2 : v2.cells.size = k := by simp) (h3 : v3.cells.size = k := by simp) (h4 : v4.cells.size = k := by simp) (h5 : v5.cells.size = k := by simp) (hK : ∀ b, TW κ S w0 (.own e k (.slice (some ⟨b, 0, none⟩) 6 6) 6 (v0.cells.toList ++ v1.cells.toList ++ v2.cells.toList ++ v3.cells.toList ++ v4.cells.toList ++ v5.cells.toList) :: H) (K (.slice (some ⟨b, 0, none⟩) 6 6))) :
  TW κ S w0 H (B2 PR X (Instr.buildSlice t 6 #[(0, v0), (1, v1), (2, v2), (3, v3), (4, v4), (5, v5)]) K) := B52 [v0, v1, v2, v3, v4, v5] hk (by omega) hb rfl rfl (by intro v hv; simp only [List.mem_cons, List.not_mem_nil, or_false] at hv; rcases hv with rfl | rfl | rfl | rfl | rfl | rfl <;> assumption) (by simpa using hK)
theorem P3.form {w : World} {e : TypeId} {k n : Nat} {v : Value} {xs : List Value} (h : P3 w e k v n xs) : ∃ a c, v = .slice a n c := by
 rcases h.2 with ⟨rfl, rfl⟩ | ⟨g, cap, cur, rfl, _⟩
 ·exact ⟨_, _, rfl⟩
 ·exact ⟨_, _, rfl⟩
theorem C1a {q : Nat} {xs : List Value} {A : Value → WP} (h : ∀ a c, TW κ S w0 (.own e k (.slice a q c) q xs :: H) (A (.slice a q c))) (v : Value) : TW κ S w0 (.own e k v q xs :: H) (A v) := fun w hw => by
 obtain ⟨a, c, rfl⟩ := P3.form (hw.hold _ A1)
 exact h a c w hw
theorem u5 {ty : TypeId} {v x : Value} {q r : Nat} {xs news : List Value} [h : SL t e k by' z] (hs : Sel (.own e k v q xs) H Hr) (hx : P6 κ S w0 H x r news) (hk : 0 < k) (hl : news.length = r * k) (hp : news.all plain = true)
  (h63 : q + r ≤ maxLen) (hby : (q + r) * by' ≤ 140737488355328) (hK : ∀ a c, TW κ S w0 (.own e k (.slice a (q + r) c) (q + r) (xs ++ news) :: Hr) (K (.slice a (q + r) c))) : TW κ S w0 H (B2 PR X (A8 .append #[t, t] ty [v, x]) K) := by
 obtain ⟨⟨_, _, _, h1⟩, ⟨_, h2⟩, h3⟩ := h.ti
 refine TW.perm ?_ hs.perm
 exact C89 (H'' := fun v' => .own e k v' (q + r) (xs ++ news) :: Hr) h1 h2 h3 hk (fun v' => .here) (fun w hw => hx w (hw.perm hs.perm.symm)) hl hp h63 hby (C1a hK)
end
end Go.Proofs.YtjobgnabneddjaaGreat
namespace Go.Proofs.YtjobgnabneddjaaGreat
open Go
instance : TS 3 (.int .i64 0) := ⟨_, _, K3, rfl⟩
instance : TS 4 (.bool false) := ⟨_, _, ty4, rfl⟩
instance : TS 5 (.int .u8 0) := ⟨_, _, ty5, rfl⟩
instance : TS 9 (.string (ByteArray.mk #[])) := ⟨_, _, ty9, rfl⟩
instance : TG 23 5 (.agg #[(.int .i64 0), (.int .i64 0), (.int .i64 0), (.int .i64 0), (.int .i64 0)]) := ⟨_, _, A36, rfl⟩
instance : TS 24 .nilFunc := ⟨_, _, C6r, rfl⟩
instance : TS 26 (.pointer none) := ⟨_, _, C2m, rfl⟩
instance : TS 27 (.int .i64 0) := ⟨_, _, B6y, rfl⟩
instance : TS 30 (.pointer none) := ⟨_, _, C7k, rfl⟩
instance : TS 33 (.pointer none) := ⟨_, _, C4W, rfl⟩
instance : TS 34 (.pointer none) := ⟨_, _, C3m, rfl⟩
instance : TS 35 (.pointer none) := ⟨_, _, C32, rfl⟩
instance : TS 36 (.slice none 0 0) := ⟨_, _, B36, rfl⟩
instance : SL 36 84 1 24 (.slice none 0 0) := ⟨⟨_, _, _, B36⟩, ⟨_, A9y⟩, rfl⟩
instance : TS 37 (.slice none 0 0) := ⟨_, _, A64, rfl⟩
instance : SL 37 3 1 8 (.int .i64 0) := ⟨⟨_, _, _, A64⟩, ⟨_, K3⟩, rfl⟩
instance : TG 42 3 (.agg #[(.bool false), (.bool false), (.bool false)]) := ⟨_, _, B1V, rfl⟩
instance : TG 45 6 (.agg #[(.int .i64 0), (.string (ByteArray.mk #[])), (.string (ByteArray.mk #[])), (.int .i64 0), (.int .i64 0), (.int .i64 0)]) := ⟨_, _, A3w, rfl⟩
instance : TG 47 7 (.agg #[(.int .i64 0), (.string (ByteArray.mk #[])), (.string (ByteArray.mk #[])), (.int .i64 0), (.int .i64 0), (.int .i64 0), (.int .i64 0)]) := ⟨_, _, B3N, rfl⟩
instance : TS 51 (.slice none 0 0) := ⟨_, _, C0d, rfl⟩
instance : SL 51 9 1 16 (.string (ByteArray.mk #[])) := ⟨⟨_, _, _, C0d⟩, ⟨_, ty9⟩, rfl⟩
instance : TG 55 4 (.agg #[(.int .i64 0), (.int .i64 0), (.bool false), (.int .i64 0)]) := ⟨_, _, A7S, rfl⟩
instance : TS 58 (.slice none 0 0) := ⟨_, _, B4L, rfl⟩
instance : SL 58 155 2 16 (.agg #[(.int .i64 0), (.int .i64 0)]) := ⟨⟨_, _, _, B4L⟩, ⟨_, B0c⟩, rfl⟩
instance : TS 84 (.slice none 0 0) := ⟨_, _, A9y, rfl⟩
instance : SL 84 218 4 40 (.agg #[(.int .i64 0), (.string (ByteArray.mk #[])), (.int .i64 0), (.int .i64 0)]) := ⟨⟨_, _, _, A9y⟩, ⟨_, A2P⟩, rfl⟩
instance : TS 89 (.int .u64 0) := ⟨_, _, A9x, rfl⟩
instance : TS 103 (.slice none 0 0) := ⟨_, _, B2y, rfl⟩
instance : SL 103 270 2 32 (.agg #[(.int .i64 0), (.slice none 0 0)]) := ⟨⟨_, _, _, B2y⟩, ⟨_, A7r⟩, rfl⟩
instance : TS 104 (.slice none 0 0) := ⟨_, _, B9d, rfl⟩
instance : SL 104 277 2 16 (.agg #[(.int .i64 0), (.int .i64 0)]) := ⟨⟨_, _, _, B9d⟩, ⟨_, C8Z⟩, rfl⟩
instance : TS 124 .nilFunc := ⟨_, _, B9b, rfl⟩
instance : TS 143 .nilFunc := ⟨_, _, C4r, rfl⟩
instance : TG 144 10 (.agg #[.nilFunc, .nilFunc, .nilFunc, .nilFunc, .nilFunc, .nilFunc, .nilFunc, .nilFunc, .nilFunc, .nilFunc]) := ⟨_, _, C4g, rfl⟩
instance : TG 148 3 (.agg #[(.int .i64 0), (.int .i64 0), (.int .i64 0)]) := ⟨_, _, A7G, rfl⟩
instance : TG 155 2 (.agg #[(.int .i64 0), (.int .i64 0)]) := ⟨_, _, B0c, rfl⟩
instance : TG 158 2 (.agg #[(.int .i64 0), (.int .i64 0)]) := ⟨_, _, B2D, rfl⟩
instance : TS 180 .nilFunc := ⟨_, _, C9w, rfl⟩
instance : TS 192 (.slice none 0 0) := ⟨_, _, B9V, rfl⟩
instance : TS 193 (.slice none 0 0) := ⟨_, _, C0b, rfl⟩
instance : SL 193 290 2 16 (.agg #[(.int .u64 0), (.int .i64 0)]) := ⟨⟨_, _, _, C0b⟩, ⟨_, B5j⟩, rfl⟩
instance : TG 195 2 (.agg #[(.slice none 0 0), (.slice none 0 0)]) := ⟨_, _, A4m, rfl⟩
instance : TG 218 4 (.agg #[(.int .i64 0), (.string (ByteArray.mk #[])), (.int .i64 0), (.int .i64 0)]) := ⟨_, _, A2P, rfl⟩
instance : TG 224 3 (.agg #[(.string (ByteArray.mk #[])), (.string (ByteArray.mk #[])), (.int .i64 0)]) := ⟨_, _, B0W, rfl⟩
instance : TG 226 3 (.agg #[(.string (ByteArray.mk #[])), (.string (ByteArray.mk #[])), (.int .i64 0)]) := ⟨_, _, B0T, rfl⟩
instance : SL 228 124 1 8 .nilFunc := ⟨⟨_, _, _, C0c⟩, ⟨_, B9b⟩, rfl⟩
instance : TS 229 (.slice none 0 0) := ⟨_, _, B2A, rfl⟩
instance : SL 229 266 1 16 .nilIface := ⟨⟨_, _, _, B2A⟩, ⟨_, B9W⟩, rfl⟩
instance : SL 259 158 2 16 (.agg #[(.int .i64 0), (.int .i64 0)]) := ⟨⟨_, _, _, B9l⟩, ⟨_, B2D⟩, rfl⟩
instance : TG 263 0 (.agg #[]) := ⟨_, _, B0b, rfl⟩
instance : TS 266 .nilIface := ⟨_, _, B9W, rfl⟩
instance : TG 270 2 (.agg #[(.int .i64 0), (.slice none 0 0)]) := ⟨_, _, A7r, rfl⟩
instance : TS 279 (.slice none 0 0) := ⟨_, _, B90, rfl⟩
instance : TS 281 (.slice none 0 0) := ⟨_, _, B5r, rfl⟩
instance : SL 281 284 2 16 (.agg #[(.int .u64 0), (.int .i64 0)]) := ⟨⟨_, _, _, B5r⟩, ⟨_, A7D⟩, rfl⟩
instance : TG 284 2 (.agg #[(.int .u64 0), (.int .i64 0)]) := ⟨_, _, A7D, rfl⟩
instance : TS 300 (.pointer none) := ⟨_, _, B5q, rfl⟩
instance : TS 301 (.slice none 0 0) := ⟨_, _, A3Q, rfl⟩
instance : SL 301 5 1 1 (.int .u8 0) := ⟨⟨_, _, _, A3Q⟩, ⟨_, ty5⟩, rfl⟩
instance : TG 305 2 (.agg #[(.pointer none), (.slice none 0 0)]) := ⟨_, _, C49, rfl⟩
instance : TS 324 (.slice none 0 0) := ⟨_, _, B98, rfl⟩
instance : TG 330 2 (.agg #[.nilFunc, (.int .i64 0)]) := ⟨_, _, B0Y, rfl⟩
instance : TG 355 38 (.agg #[(.int .u8 0), (.int .u8 0), (.int .u8 0), (.int .u8 0), (.int .u8 0), (.int .u8 0), (.int .u8 0), (.int .u8 0), (.int .u8 0), (.int .u8 0), (.int .u8 0), (.int .u8 0), (.int .u8 0), (.int .u8 0), (.int .u8 0), (.int .u8 0), (.int .u8 0), (.int .u8 0), (.int .u8 0), (.int .u8 0), (.int .u8 0), (.int .u8 0), (.int .u8 0), (.int .u8 0), (.int .u8 0), (.int .u8 0), (.int .u8 0), (.int .u8 0), (.int .u8 0), (.int .u8 0), (.int .u8 0), (.int .u8 0), (.int .u8 0), (.int .u8 0), (.int .u8 0), (.int .u8 0), (.int .u8 0), (.int .u8 0)]) := ⟨_, _, B9f, rfl⟩
instance : TS 368 .nilFunc := ⟨_, _, C8L, rfl⟩
instance : TS 370 (.int .u64 0) := ⟨_, _, C5G, rfl⟩
instance : SL 375 330 2 16 (.agg #[.nilFunc, (.int .i64 0)]) := ⟨⟨_, _, _, B9p⟩, ⟨_, B0Y⟩, rfl⟩
@[simp] theorem C8T (a : Option Addr) (x y : Operand) (K : Value → WP) : A6 PR (H8 .eql 131 x y (.pointer a) (.pointer none)) K = K (.bool a.isNone) := funext fun w => C0N a x y K w
@[simp] theorem D18 (a : Option Addr) (x y : Operand) (K : Value → WP) : A6 PR (H8 .eql 26 x y (.pointer a) (.pointer none)) K = K (.bool a.isNone) := funext fun w => C05 a x y K w
@[simp] theorem D0V (a : Option Addr) (x y : Operand) (K : Value → WP) : A6 PR (H8 .eql 30 x y (.pointer a) (.pointer none)) K = K (.bool a.isNone) := funext fun w => C19 a x y K w
@[simp] theorem C97 (a : Option Addr) (x y : Operand) (K : Value → WP) : A6 PR (H8 .eql 300 x y (.pointer a) (.pointer none)) K = K (.bool a.isNone) := funext fun w => B9U a x y K w
@[simp] theorem D26 (a0 b0 : Bool) (a1 b1 : Bool) (a2 b2 : Bool) (x y : Operand) (K : Value → WP) : A6 PR (H8 .eql 42 x y (.agg #[.bool a0, .bool a1, .bool a2]) (.agg #[.bool b0, .bool b1, .bool b2])) K = K (.bool ((a0 == b0) && ((a1 == b1) && ((a2 == b2) && true)))) := funext fun w => C31 a0 b0 a1 b1 a2 b2 x y K w
@[simp] theorem D2G (a0 b0 : Int) (a1 b1 : Int) (a2 b2 : Bool) (a3 b3 : Int) (x y : Operand) (K : Value → WP) : A6 PR (H8 .eql 55 x y (.agg #[.int .i64 a0, .int .i64 a1, .bool a2, .int .i64 a3]) (.agg #[.int .i64 b0, .int .i64 b1, .bool b2, .int .i64 b3])) K = K (.bool (decide (a0 = b0) && (decide (a1 = b1) && ((a2 == b2) && (decide (a3 = b3) && true))))) := funext fun w => C4S a0 b0 a1 b1 a2 b2 a3 b3 x y K w
@[simp] theorem D0J (a : Option Addr) (x y : Operand) (K : Value → WP) : A6 PR (H8 .neq 131 x y (.pointer a) (.pointer none)) K = K (.bool (!a.isNone)) := funext fun w => C0D a x y K w
@[simp] theorem D0l (a : Option Addr) (x y : Operand) (K : Value → WP) : A6 PR (H8 .neq 26 x y (.pointer a) (.pointer none)) K = K (.bool (!a.isNone)) := funext fun w => C2b a x y K w
@[simp] theorem D0q (a : Option Addr) (x y : Operand) (K : Value → WP) : A6 PR (H8 .neq 33 x y (.pointer a) (.pointer none)) K = K (.bool (!a.isNone)) := funext fun w => C10 a x y K w
@[simp] theorem D0Y (a : Option Addr) (x y : Operand) (K : Value → WP) : A6 PR (H8 .neq 34 x y (.pointer a) (.pointer none)) K = K (.bool (!a.isNone)) := funext fun w => C2Q a x y K w
@[simp] theorem D1v (a : Option Addr) (x y : Operand) (K : Value → WP) : A6 PR (H8 .neq 35 x y (.pointer a) (.pointer none)) K = K (.bool (!a.isNone)) := funext fun w => C2D a x y K w
end Go.Proofs.YtjobgnabneddjaaGreat
namespace Go.Proofs.YtjobgnabneddjaaGreat
open Go
def B3b (n i : Nat) : List Value := [.int .i64 (i : Int), .int .u64 (8 * ((n : Int) - 1 - i))]
abbrev C1n (b : Nat) : Value := .func (.func 243) #[] #[.pointer (some ⟨b, 0, none⟩)]
theorem B7W (w : World) (n : Int) : Fn PR B8 199 #[.int .i64 n] w (Rn [] w (fun b v => v = C1n b) fun b => [.pt b (.cells #[.int .i64 n] 3)]) := by
 refine B3U (TW.go (κ := false) (S := []) ?_)
 unfold A6Q
 (have zz:=trivial;repeat((first|clear zz|with_reducible first|refine A3 ?_|refine A5 fun _=>?_|refine A4 fun _=>?_);try simp(disch:=first|omega|assumption|((repeat(first|exact A1|exact uH|apply A2|apply uT));first|done|fail)|(simp;first|done|omega|fail))[]))
 rename_i b
 exact j1 b rfl (by simp)
theorem B6Z (b : Nat) {n : Nat} (hn : n ≤ 8) : A5A (C1n b) [.pt b (.cells #[.int .i64 (n : Int)] 3)] (fun _ _ => True) ((List.range n).map (B3b n)) := by
 refine ⟨_, _, _, rfl, fun l J E hJ hE stJ stE hy w0 h0 => ?_⟩
 refine B0u (B0j (TW.at (κ := true) ?_ (hJ _ _ _ h0).1))
 unfold A3F
 (have zz:=trivial;repeat((first|clear zz|with_reducible first|refine A3 ?_|refine A5 fun _=>?_|refine A4 fun _=>?_);try simp(disch:=first|omega|assumption|((repeat(first|exact A1|exact uH|apply A2|apply uT));first|done|fail)|(simp;first|done|omega|fail))[]))
 refine A2z n (fun i => i) (fun _ => _) hJ stJ h0 fun i a hi hJi _ L hL => ?_
 by_cases hlt : i < n
 ·(have zz:=trivial;repeat((first|clear zz|with_reducible first|refine A3 ?_|refine A5 fun _=>?_|refine A4 fun _=>?_);try simp(disch:=first|omega|assumption|((repeat(first|exact A1|exact uH|apply A2|apply uT));first|done|fail)|(simp;first|done|omega|fail))[hlt]))
  refine A7b hJ hE stJ hy hJi (by simpa using hlt) (by simp [B3b]) (fun w3 h => ?_) (fun w3 h => ?_)
  ·(have zz:=trivial;repeat((first|clear zz|with_reducible first|refine A3 ?_|refine A5 fun _=>?_|refine A4 fun _=>?_);try simp(disch:=first|omega|assumption|((repeat(first|exact A1|exact uH|apply A2|apply uT));first|done|fail)|(simp;first|done|omega|fail))[]))
   exact fun w' hw' => hL hlt w' (stJ _ _ _ _ _ h hw')
  ·(have zz:=trivial;repeat((first|clear zz|with_reducible first|refine A3 ?_|refine A5 fun _=>?_|refine A4 fun _=>?_);try simp(disch:=first|omega|assumption|((repeat(first|exact A1|exact uH|apply A2|apply uT));first|done|fail)|(simp;first|done|omega|fail))[]))
   exact A4K stE h
 ·obtain rfl : i = n := by omega
  (have zz:=trivial;repeat((first|clear zz|with_reducible first|refine A3 ?_|refine A5 fun _=>?_|refine A4 fun _=>?_);try simp(disch:=first|omega|assumption|((repeat(first|exact A1|exact uH|apply A2|apply uT));first|done|fail)|(simp;first|done|omega|fail))[]))
  exact A4B stJ (by simpa using hJi)
def F6 (s : ByteArray) (i : Nat) : Nat := (s.data.getD i 0).toNat
def r5 (s : ByteArray) (a : Nat) : Nat → Nat
 | 0 => 0
 | i + 1 => r5 s a i * 256 + F6 s (a + i)
theorem A0Z (s : ByteArray) (i : Nat) : F6 s i < 256 := (s.data.getD i 0).toNat_lt
theorem A9d (s : ByteArray) (a i : Nat) : r5 s a i < 256 ^ i := by
 induction i with
 | zero => simp [r5]
 | succ i ih =>
  have := A0Z s (a + i)
  simp only [r5, Nat.pow_succ]
  omega
theorem A0T {s : ByteArray} {i : Nat} (h : i < s.size) : ∃ b : UInt8, s[i]? = some b ∧ b.toNat = F6 s i := by
 refine ⟨s[i], by simp [h], ?_⟩
 have h' : i < s.data.size := h
 have e : s.data.getD i 0 = s[i] := by rw [Array.getD_eq_getD_getElem?, Array.getElem?_eq_getElem h']; rfl
 rw [F6, e]
def A2G (s : ByteArray) (a n : Int) : Bool := decide (1 ≤ n ∧ n ≤ 8 ∧ 0 ≤ a ∧ a ≤ s.size - n)
def A5j (s : ByteArray) (a n : Int) : Int := if A2G s a n = true then (r5 s a.toNat n.toNat : Nat) else 0
theorem A2f (w : World) (s : ByteArray) (hs : s.size < 2 ^ 63) (a n : Int) :
  Fn PR B8 145 #[.string s, .int .i64 a, .int .i64 n] w (fun v w' => v = .tuple #[.int .u64 (A5j s a n), .bool (A2G s a n)] ∧ C7 [] w w') := by
 refine Fn.pure (B7Y (TW.go (κ := false) (S := []) ?_))
 unfold A9G
 by_cases hok : A2G s a n = true
 case neg =>
  have hv : A5j s a n = 0 := if_neg hok
  have hok' : A2G s a n = false := by simpa using hok
  rw [hv, hok']
  have hc : n < 1 ∨ 8 < n ∨ a < 0 ∨ (s.size : Int) - n < a := by
   simp only [A2G, decide_eq_true_eq] at hok; omega
  by_cases h1 : n < 1
  ·(have zz:=trivial;repeat((first|clear zz|with_reducible first|refine A3 ?_|refine A5 fun _=>?_|refine A4 fun _=>?_);try simp(disch:=first|omega|assumption|((repeat(first|exact A1|exact uH|apply A2|apply uT));first|done|fail)|(simp;first|done|omega|fail))[h1])); exact B0 rfl
  by_cases h2 : 8 < n
  ·(have zz:=trivial;repeat((first|clear zz|with_reducible first|refine A3 ?_|refine A5 fun _=>?_|refine A4 fun _=>?_);try simp(disch:=first|omega|assumption|((repeat(first|exact A1|exact uH|apply A2|apply uT));first|done|fail)|(simp;first|done|omega|fail))[h1, h2])); exact B0 rfl
  by_cases h3 : a < 0
  ·(have zz:=trivial;repeat((first|clear zz|with_reducible first|refine A3 ?_|refine A5 fun _=>?_|refine A4 fun _=>?_);try simp(disch:=first|omega|assumption|((repeat(first|exact A1|exact uH|apply A2|apply uT));first|done|fail)|(simp;first|done|omega|fail))[h1, h2, h3])); exact B0 rfl
  have h4 : (s.size : Int) - n < a := by omega
  (have zz:=trivial;repeat((first|clear zz|with_reducible first|refine A3 ?_|refine A5 fun _=>?_|refine A4 fun _=>?_);try simp(disch:=first|omega|assumption|((repeat(first|exact A1|exact uH|apply A2|apply uT));first|done|fail)|(simp;first|done|omega|fail))[h1, h2, h3, h4])); exact B0 rfl
 have hv : A5j s a n = (r5 s a.toNat n.toNat : Nat) := if_pos hok
 rw [hv, hok]
 simp only [A2G, decide_eq_true_eq] at hok
 obtain ⟨m, rfl⟩ : ∃ m : Nat, n = m := ⟨n.toNat, by omega⟩
 obtain ⟨k, rfl⟩ : ∃ k : Nat, a = k := ⟨a.toNat, by omega⟩
 have h1 : ¬ (m : Int) < 1 := by omega
 have h2 : ¬ 8 < (m : Int) := by omega
 have h4 : ¬ (s.size : Int) - m < k := by omega
 have h5 : ¬ (k : Int) < 0 := by omega
 (have zz:=trivial;repeat((first|clear zz|with_reducible first|refine A3 ?_|refine A5 fun _=>?_|refine A4 fun _=>?_);try simp(disch:=first|omega|assumption|((repeat(first|exact A1|exact uH|apply A2|apply uT));first|done|fail)|(simp;first|done|omega|fail))[h1, h2, h4, h5]))
 rename_i bs ba bv
 refine H2 A49 (fun w' _ => B7W w' m) ?_
 rintro b v rfl
 refine A2E (B6Z b (n := m) (by omega)) (by simp [B3b]) (fun _ (_ : Unit) => True) (fun i _ => [.pt bv (.cells #[.int .u64 ((r5 s k i * 256 ^ (m - i) : Nat) : Int)] 89), .pt ba (.cells #[.int .i64 (k : Int)] 3), .pt bs (.cells #[.string s] 9)])
  (fun _ (_ : Unit) => False) (fun _ => []) () trivial ?_ ?_ ?_ ?_ (by simp [r5])
 ·intros; trivial
 ·rintro i hi _ F _ K' hK _
  have hi' : i < m := by simpa using hi
  obtain ⟨by0, hb0, hb1⟩ := A0T (s := s) (i := k + i) (by omega)
  have hidx : ((k : Int) + i).toNat = k + i := by omega
  have hbl := A0Z s (k + i)
  rw [← hidx] at hb0
  have hsh : (0 : Int) ≤ 8 * ((m : Int) - 1 - i) := by omega
  simp only [List.getElem_map, List.getElem_range, B3b, VF.app]
  (have zz:=trivial;repeat((first|clear zz|with_reducible first|refine A3 ?_|refine A5 fun _=>?_|refine A4 fun _=>?_);try simp(disch:=first|omega|assumption|((repeat(first|exact A1|exact uH|apply A2|apply uT));first|done|fail)|(simp;first|done|omega|fail))[a6]))
  refine TW.eqH ?_ (hK () trivial)
  have hlt : (r5 s k i * 256 + F6 s (k + i)) * 256 ^ (m - 1 - i) < 2 ^ 64 := by
   have hA : r5 s k (i + 1) < 256 ^ (i + 1) := A9d s k (i + 1)
   have h8 : 256 ^ (i + 1) * 256 ^ (m - 1 - i) ≤ 2 ^ 64 := by
    rw [← Nat.pow_add, show (2 : Nat) ^ 64 = 256 ^ 8 from rfl]
    exact Nat.pow_le_pow_right (by omega) (by omega)
   exact Nat.lt_of_lt_of_le (Nat.mul_lt_mul_of_pos_right hA (Nat.pow_pos (by omega))) h8
  have hval := C5P hbl hlt (by omega)
  rw [show m - (i + 1) = m - 1 - i from by omega]
  simp [r5, ← hval]
  rw [hb1, show (8 * ((m : Int) - 1 - i)).toNat = 8 * (m - 1 - i) from by omega, show m - i = m - 1 - i + 1 from by omega]
 ·rintro _ _
  (have zz:=trivial;repeat((first|clear zz|with_reducible first|refine A3 ?_|refine A5 fun _=>?_|refine A4 fun _=>?_);try simp(disch:=first|omega|assumption|((repeat(first|exact A1|exact uH|apply A2|apply uT));first|done|fail)|(simp;first|done|omega|fail))[]))
  exact B0 (by simp)
 ·rintro _ _ h; exact h.elim
def B5p (v : Int) (n i : Nat) : Int := IntKind.u8.wrap (v.fdiv (2 ^ min (8 * ((n : Int) - 1 - i)).toNat IntKind.u64.bits))
def A0S (v : Int) (n i : Nat) : List Int := (List.range n).map fun j => if j < i then B5p v n j else 0
def F2 (v n : Int) : ByteArray := if 1 ≤ n ∧ n ≤ 8 then A3c (A0S v n.toNat n.toNat) else ByteArray.mk #[]
theorem C3P (v : Int) {n i : Nat} (h : i < n) : (A0S v n i).set i (B5p v n i) = A0S v n (i + 1) := by
 apply List.ext_getElem (by simp [A0S])
 intro j h1 h2
 simp only [A0S, List.length_set, List.length_map, List.length_range] at h1
 rw [List.getElem_set]
 simp only [A0S, List.getElem_map, List.getElem_range]
 by_cases hij : i = j
 ·subst hij; simp
 ·by_cases hj : j < i
  ·simp [hij, hj, Nat.lt_succ_of_lt hj]
  ·have : ¬ j < i + 1 := by omega
   simp [hij, hj, this]
def A5Y (v : Int) (n i : Nat) : Array Value := ((A0S v n i).map (Value.int .u8)).toArray
theorem C0l (v : Int) {m : Nat} (h : m ≤ 8) : Builtin.zeroCells (Value.int .u8 0).cells m = A5Y v m 0 := by
 have : m = 0 ∨ m = 1 ∨ m = 2 ∨ m = 3 ∨ m = 4 ∨ m = 5 ∨ m = 6 ∨ m = 7 ∨ m = 8 := by omega
 rcases this with rfl | rfl | rfl | rfl | rfl | rfl | rfl | rfl | rfl <;>
  (apply Array.ext'; simp [Builtin.zeroCells, A5Y, A0S, List.range, List.range.loop])
@[simp] theorem C11 {v n : Int} (h1 : 1 ≤ n) (h2 : n ≤ 8) : (F2 v n).size = n.toNat := by simp [F2, h1, h2, A0S]
theorem V7 (w : World) (v n : Int) :
  Fn PR B8 176 #[.int .u64 v, .int .i64 n] w (fun u w' => u = .string (F2 v n) ∧ C7 [] w w') := by
 refine Fn.pure (B6B (TW.go (κ := false) (S := []) ?_))
 unfold A85
 by_cases hok : 1 ≤ n ∧ n ≤ 8
 case neg =>
  have hv : F2 v n = ByteArray.mk #[] := if_neg hok
  rw [hv]
  by_cases h1 : n < 1
  ·(have zz:=trivial;repeat((first|clear zz|with_reducible first|refine A3 ?_|refine A5 fun _=>?_|refine A4 fun _=>?_);try simp(disch:=first|omega|assumption|((repeat(first|exact A1|exact uH|apply A2|apply uT));first|done|fail)|(simp;first|done|omega|fail))[h1])); exact B0 rfl
  ·have h2 : 8 < n := by omega
   (have zz:=trivial;repeat((first|clear zz|with_reducible first|refine A3 ?_|refine A5 fun _=>?_|refine A4 fun _=>?_);try simp(disch:=first|omega|assumption|((repeat(first|exact A1|exact uH|apply A2|apply uT));first|done|fail)|(simp;first|done|omega|fail))[h1, h2])); exact B0 rfl
 have hv : F2 v n = A3c (A0S v n.toNat n.toNat) := if_pos hok
 rw [hv]
 obtain ⟨m, rfl⟩ : ∃ m : Nat, n = m := ⟨n.toNat, by omega⟩
 have h1 : ¬ (m : Int) < 1 := by omega
 have h2 : ¬ 8 < (m : Int) := by omega
 (have zz:=trivial;repeat((first|clear zz|with_reducible first|refine A3 ?_|refine A5 fun _=>?_|refine A4 fun _=>?_);try simp(disch:=first|omega|assumption|((repeat(first|exact A1|exact uH|apply A2|apply uT));first|done|fail)|(simp;first|done|omega|fail))[h1, h2]))
 refine y3 (by omega) (by omega) (by omega) (by omega) fun bs => ?_
 rw [Int.toNat_natCast, C0l v (by omega)]
 (have zz:=trivial;repeat((first|clear zz|with_reducible first|refine A3 ?_|refine A5 fun _=>?_|refine A4 fun _=>?_);try simp(disch:=first|omega|assumption|((repeat(first|exact A1|exact uH|apply A2|apply uT));first|done|fail)|(simp;first|done|omega|fail))[h1, h2]))
 rename_i bv bb
 refine H2 A49 (fun w' _ => B7W w' m) ?_
 rintro b v rfl
 refine A2E (B6Z b (n := m) (by omega)) (by simp [B3b]) (fun _ (_ : Unit) => True) (fun i _ => [.pt bb (.cells #[.slice (some ⟨bs, 0, none⟩) m m] 301),
   .own 5 1 (.slice (some ⟨bs, 0, none⟩) m m) m (A5Y v m i).toList, .pt bv (.cells #[.int .u64 v] 89)])
  (fun _ (_ : Unit) => False) (fun _ => []) () trivial ?_ ?_ ?_ ?_ (by simp)
 ·intros; trivial
 ·rintro i hi _ F _ K' hK _
  have hi' : i < m := by simpa using hi
  have hsh : (0 : Int) ≤ 8 * ((m : Int) - 1 - i) := by omega
  simp only [List.getElem_map, List.getElem_range, B3b, VF.app]
  (have zz:=trivial;repeat((first|clear zz|with_reducible first|refine A3 ?_|refine A5 fun _=>?_|refine A4 fun _=>?_);try simp(disch:=first|omega|assumption|((repeat(first|exact A1|exact uH|apply A2|apply uT));first|done|fail)|(simp;first|done|omega|fail))[]))
  refine U0 (by (repeat constructor)) (by simp) (by simp [A5Y, A0S]; omega) (by simp) ?_
  refine TW.eqH ?_ (hK () trivial)
  have e : Y5 (A5Y v m i).toList i [.int .u8 (B5p v m i)] = (A5Y v m (i + 1)).toList := by
   rw [B65 (by simp [A5Y, A0S]; omega)]; simp [A5Y, ← C3P v hi', List.map_set]
  rw [← e]; simp [B5p]
 ·rintro _ _
  (have zz:=trivial;repeat((first|clear zz|with_reducible first|refine A3 ?_|refine A5 fun _=>?_|refine A4 fun _=>?_);try simp(disch:=first|omega|assumption|((repeat(first|exact A1|exact uH|apply A2|apply uT));first|done|fail)|(simp;first|done|omega|fail))[]))
  have hlen : (A0S v m m).length = m := by simp [A0S]
  have := fun w' K (hr : N1 w' bs 0 ((A0S v m m).map (Value.int .u8))) => @B8H K w' bs 0 m _ hr
  rw [hlen] at this
  rw [C8W fun w' hw' => this w' _ (by simpa [A5Y] using hw'.ownr (e := 5) (k := 1) (q := m) (c := m) (xs := (A5Y v m m).toList) (by (repeat constructor)))]
  simp only [C8s]
  exact B0 rfl
 ·rintro _ _ h; exact h.elim
end Go.Proofs.YtjobgnabneddjaaGreat
