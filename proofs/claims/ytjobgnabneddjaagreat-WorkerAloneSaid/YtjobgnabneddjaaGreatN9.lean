/- The proof of a given statement, a part of it (ShStd ShOctet Ins Tc Tn Oct). No condition but what each lemma says. -/
import Derived.Test.YtjobgnabneddjaaGreatN8
set_option linter.unusedVariables false
set_option linter.unusedSimpArgs false
namespace Go.Proofs.YtjobgnabneddjaaGreat
open Go
def W2 (X : Nat → Prop) (t0 : Value) (R : Value → WP) : WP :=
 jn (n := 1) (fun t2 =>
 B3 PR X (Instr.buildSlice 84 0 #[]) fun t5 =>
 B3 PR X (A8 .append #[84, 84] 84 [t5, t0]) fun t7 =>
 R t7) fun J1 =>
 A6 PR (H0 .eql 84 (.tmp 3) (.const (.slice none 0 0)) t0 (.slice none 0 0)) fun t4 =>
 C6 t4 (
 R (.slice none 0 0)) (
 J1 (.slice none 0 0))
theorem P4 : A9 PR 122 := A7 Tryz.func122 (by kernel_rfl) rfl
theorem A0A {X : Nat → Prop} {t0 : Value} {R : Value → WP} {w : World} (h : W2 X t0 R w) : Fn PR X 122 #[t0] w R := C8 (args := [t0]) mixed Tryz.func122 (by kernel_rfl) h
def T6 (X : Nat → Prop) (t0 : Value) (R : Value → WP) : WP :=
 jn (n := 1) (fun t2 =>
 B3 PR X (Instr.buildSlice 58 0 #[]) fun t5 =>
 B3 PR X (A8 .append #[58, 58] 58 [t5, t0]) fun t7 =>
 R t7) fun J1 =>
 A6 PR (H0 .eql 58 (.tmp 3) (.const (.slice none 0 0)) t0 (.slice none 0 0)) fun t4 =>
 C6 t4 (
 R (.slice none 0 0)) (
 J1 (.slice none 0 0))
theorem S9 : A9 PR 123 := A7 Tryz.func123 (by kernel_rfl) rfl
theorem q9 {X : Nat → Prop} {t0 : Value} {R : Value → WP} {w : World} (h : T6 X t0 R w) : Fn PR X 123 #[t0] w R := C8 (args := [t0]) mixed Tryz.func123 (by kernel_rfl) h
def W9 (X : Nat → Prop) (t0 t1 : Value) (R : Value → WP) : WP :=
 B5 PR X 201 [t0, t1] fun t7 =>
 A0 PR (binOp .geq 3 t7 (.int .i64 0)) fun t8 =>
 R t8
theorem z7 : A9 PR 148 := A7 Tryz.func148 (by kernel_rfl) rfl
theorem A0T {X : Nat → Prop} {t0 t1 : Value} {R : Value → WP} {w : World} (h : W9 X t0 t1 R w) : Fn PR X 148 #[t0, t1] w R := C8 (args := [t0, t1]) mixed Tryz.func148 (by kernel_rfl) h
def Z0 (X : Nat → Prop) (t0 t1 : Value) (R : Value → WP) : WP :=
 B5 PR X 212 [t0] fun t7 =>
 B5 PR X 213 [t7, t1] fun t10 =>
 R t7
theorem A0U : A9 PR 160 := A7 Tryz.func160 (by kernel_rfl) rfl
theorem A0e {X : Nat → Prop} {t0 t1 : Value} {R : Value → WP} {w : World} (h : Z0 X t0 t1 R w) : Fn PR X 160 #[t0, t1] w R := C8 (args := [t0, t1]) mixed Tryz.func160 (by kernel_rfl) h
def j4 (X : Nat → Prop) (t0 t1 : Value) (R : Value → WP) : WP :=
 B5 PR X 232 [t0] fun t7 =>
 A0 PR (B8 t0) fun t10 =>
 A0 PR (Instr.fieldAt 303 t10 1) fun t11 =>
 A6 PR (Instr.loadAt 301 t11) fun t12 =>
 B3 PR X (A8 .append #[301, 9] 301 [t12, t1]) fun t14 =>
 A0 PR (B8 t0) fun t15 =>
 A0 PR (Instr.fieldAt 303 t15 1) fun t16 =>
 C3 PR X (Instr.storeAt 301 t16 t14) <|
 A0 PR (A8 .len #[9] 0 [t1]) fun t18 =>
 R (.tuple #[t18, .nilIface])
theorem N2 : A9 PR 173 := A7 Tryz.func173 (by kernel_rfl) rfl
theorem A12 {X : Nat → Prop} {t0 t1 : Value} {R : Value → WP} {w : World} (h : j4 X t0 t1 R w) : Fn PR X 173 #[t0, t1] w R := C8 (args := [t0, t1]) mixed Tryz.func173 (by kernel_rfl) h
def u0 (X : Nat → Prop) (t0 : Value) (R : Value → WP) : WP :=
 drw <|
 A0 PR (B8 t0) fun t4 =>
 A0 PR (Instr.fieldAt 303 t4 1) fun t5 =>
 A6 PR (Instr.loadAt 301 t5) fun t6 =>
 A0 PR (B8 t0) fun t9 =>
 A0 PR (Instr.fieldAt 303 t9 1) fun t10 =>
 A6 PR (Instr.loadAt 301 t10) fun t11 =>
 A0 PR (A8 .len #[301] 0 [t11]) fun t12 =>
 B3 PR X (A8 .unsafeSliceData #[301] 363 [t6]) fun t7 =>
 watch PR [(none, (Instr.loadAt 301 t10), t11)] <|
 B3 PR X (A8 .unsafeString #[363, 3] 9 [t7, t12]) fun t13 =>
 R t13
theorem A3s : A9 PR 174 := A7 Tryz.func174 (by kernel_rfl) rfl
theorem A4D {X : Nat → Prop} {t0 : Value} {R : Value → WP} {w : World} (h : u0 X t0 R w) : Fn PR X 174 #[t0] w R := C8 (args := [t0]) mixed Tryz.func174 (by kernel_rfl) h
def w9 (X : Nat → Prop) (t0 t1 : Value) (R : Value → WP) : WP :=
 A0 PR (B8 t0) fun t6 =>
 A0 PR (Instr.fieldAt 137 t6 2) fun t7 =>
 B5 PR X 234 [t7, t1] fun t9 =>
 R t9
theorem A4B : A9 PR 178 := A7 Tryz.func178 (by kernel_rfl) rfl
theorem A4d {X : Nat → Prop} {t0 t1 : Value} {R : Value → WP} {w : World} (h : w9 X t0 t1 R w) : Fn PR X 178 #[t0, t1] w R := C8 (args := [t0, t1]) mixed Tryz.func178 (by kernel_rfl) h
def b8 (X : Nat → Prop) (t0 t1 : Value) (R : Value → WP) : WP :=
 jn (n := 2) (fun t4 t8 =>
 R (.int .i64 (-1))) fun J1 =>
 A0 PR (A8 .len #[259] 0 [t0]) fun t7 =>
 lp (n := 2) (fun L2 t4_1 t8_1 =>
 A0 PR (binOp .lss 3 t8_1 t7) fun t9 =>
 jn (n := 0) (
 jn (n := 1) (fun t4_2 =>
 A0 PR (binOp .add 3 t8_1 (.int .i64 1)) fun t18 =>
 L2 t4_2 t18) fun J3 =>
 A0 PR (Instr.indexAt 259 t0 t8_1) fun t14 =>
 A6 PR (Instr.loadAt 158 t14) fun t15 =>
 L8 PR X t1 [t15] fun t16 =>
 C6 t16 (
 R t8_1) (
 J3 t4_1)) fun J4 =>
 C6 t9 (
 J4) (
 J1 t4_1 t8_1)) (.int .i64 0) (.int .i64 0)
theorem A0v : A9 PR 201 := A7 Tryz.func201 (by kernel_rfl) rfl
theorem A1T {X : Nat → Prop} {t0 t1 : Value} {R : Value → WP} {w : World} (h : b8 X t0 t1 R w) : Fn PR X 201 #[t0, t1] w R := C8 (args := [t0, t1]) mixed Tryz.func201 (by kernel_rfl) h
def A7E (X : Nat → Prop) (t0 t1 : Value) (R : Value → WP) : WP :=
 jn (n := 2) (fun t5 t6 =>
 R t5) fun J1 =>
 lp (n := 2) (fun L2 t5_1 t6_1 =>
 jn (n := 0) (
 A0 PR (binOp .add 3 t5_1 t6_1) fun t14 =>
 A0 PR (convert 3 242 t14) fun t15 =>
 A0 PR (binOp .shr 242 t15 (.int .u64 1)) fun t16 =>
 A0 PR (convert 242 3 t16) fun t17 =>
 L8 PR X t1 [t17] fun t20 =>
 A0 PR (Op.unary .not t20) fun t21 =>
 C6 t21 (
 A0 PR (binOp .add 3 t17 (.int .i64 1)) fun t23 =>
 L2 t23 t6_1) (
 L2 t5_1 t17)) fun J3 =>
 A0 PR (binOp .lss 3 t5_1 t6_1) fun t11 =>
 C6 t11 (
 J3) (
 J1 t5_1 t6_1)) (.int .i64 0) t0
theorem B3v : A9 PR 210 := A7 Tryz.func210 (by kernel_rfl) rfl
theorem B4y {X : Nat → Prop} {t0 t1 : Value} {R : Value → WP} {w : World} (h : A7E X t0 t1 R w) : Fn PR X 210 #[t0, t1] w R := C8 (args := [t0, t1]) mixed Tryz.func210 (by kernel_rfl) h
def g5 (X : Nat → Prop) (t0 : Value) (R : Value → WP) : WP :=
 B5 PR X 248 [(.slice none 0 0), t0] fun t4 =>
 R t4
theorem A1S : A9 PR 212 := A7 Tryz.func212 (by kernel_rfl) rfl
theorem A1l {X : Nat → Prop} {t0 : Value} {R : Value → WP} {w : World} (h : g5 X t0 R w) : Fn PR X 212 #[t0] w R := C8 (args := [t0]) mixed Tryz.func212 (by kernel_rfl) h
theorem f5 : A9 PR 213 := A7 Tryz.func213 (by kernel_rfl) rfl
def A9K (X : Nat → Prop) (t0 : Value) (R : Value → WP) : WP :=
 jn (n := 2) (fun t2 t8 =>
 R (.int .i64 0)) fun J1 =>
 A0 PR (A8 .len #[37] 0 [t0]) fun t7 =>
 lp (n := 2) (fun L2 t2_1 t8_1 =>
 A0 PR (binOp .lss 3 t8_1 t7) fun t9 =>
 jn (n := 0) (
 jn (n := 1) (fun t2_2 =>
 A0 PR (binOp .add 3 t8_1 (.int .i64 1)) fun t16 =>
 L2 t2_2 t16) fun J3 =>
 A0 PR (Instr.indexAt 37 t0 t8_1) fun t10 =>
 A6 PR (Instr.loadAt 3 t10) fun t11 =>
 A0 PR (binOp .neq 3 t11 (.int .i64 0)) fun t14 =>
 C6 t14 (
 R t11) (
 J3 t2_1)) fun J4 =>
 C6 t9 (
 J4) (
 J1 t2_1 t8_1)) (.int .i64 0) (.int .i64 0)
theorem B44 : A9 PR 216 := A7 Tryz.func216 (by kernel_rfl) rfl
theorem B60 {X : Nat → Prop} {t0 : Value} {R : Value → WP} {w : World} (h : A9K X t0 R w) : Fn PR X 216 #[t0] w R := C8 (args := [t0]) mixed Tryz.func216 (by kernel_rfl) h
theorem B8D {X : Nat → Prop} {t0 : Value} {K : Value → WP} {w : World} (h : Fn PR X 216 #[t0] w K) : B5 PR X 216 [t0] K w := Or.inl ⟨B44, h⟩
def A1N (X : Nat → Prop) (t0 t1 : Value) (R : Value → WP) : WP :=
 B5 PR X 251 [t0] fun t8 =>
 B5 PR X 251 [t1] fun t10 =>
 jn (n := 1) (fun t4 =>
 jn (n := 1) (fun t4_1 =>
 jn (n := 1) (fun t4_2 =>
 jn (n := 1) (fun t4_3 =>
 R (.int .i64 0)) fun J1 =>
 A0 PR (binOp .gtr 89 t0 t1) fun t19 =>
 C6 t19 (
 R (.int .i64 1)) (
 J1 t4_2)) fun J2 =>
 A0 PR (binOp .lss 89 t0 t1) fun t16 =>
 C6 t16 (
 R (.int .i64 (-1))) (
 J2 t4_1)) fun J3 =>
 C6 t10 (
 R (.int .i64 1)) (
 J3 t4)) fun J4 =>
 C6 t8 (
 jn (n := 1) (fun t4_4 =>
 R (.int .i64 (-1))) fun J5 =>
 C6 t10 (
 R (.int .i64 0)) (
 J5 (.int .i64 0))) (
 J4 (.int .i64 0))
theorem A6f : A9 PR 217 := A7 Tryz.func217 (by kernel_rfl) rfl
theorem A7f {X : Nat → Prop} {t0 t1 : Value} {R : Value → WP} {w : World} (h : A1N X t0 t1 R w) : Fn PR X 217 #[t0, t1] w R := C8 (args := [t0, t1]) mixed Tryz.func217 (by kernel_rfl) h
theorem A8g {X : Nat → Prop} {t0 t1 : Value} {K : Value → WP} {w : World} (h : Fn PR X 217 #[t0, t1] w K) : B5 PR X 217 [t0, t1] K w := Or.inl ⟨A6f, h⟩
def A3F (X : Nat → Prop) (t0 t1 : Value) (R : Value → WP) : WP :=
 B5 PR X 252 [t0] fun t8 =>
 B5 PR X 252 [t1] fun t10 =>
 jn (n := 1) (fun t4 =>
 jn (n := 1) (fun t4_1 =>
 jn (n := 1) (fun t4_2 =>
 jn (n := 1) (fun t4_3 =>
 R (.int .i64 0)) fun J1 =>
 A0 PR (binOp .gtr 3 t0 t1) fun t19 =>
 C6 t19 (
 R (.int .i64 1)) (
 J1 t4_2)) fun J2 =>
 A0 PR (binOp .lss 3 t0 t1) fun t16 =>
 C6 t16 (
 R (.int .i64 (-1))) (
 J2 t4_1)) fun J3 =>
 C6 t10 (
 R (.int .i64 1)) (
 J3 t4)) fun J4 =>
 C6 t8 (
 jn (n := 1) (fun t4_4 =>
 R (.int .i64 (-1))) fun J5 =>
 C6 t10 (
 R (.int .i64 0)) (
 J5 (.int .i64 0))) (
 J4 (.int .i64 0))
theorem A98 : A9 PR 218 := A7 Tryz.func218 (by kernel_rfl) rfl
theorem B1b {X : Nat → Prop} {t0 t1 : Value} {R : Value → WP} {w : World} (h : A3F X t0 t1 R w) : Fn PR X 218 #[t0, t1] w R := C8 (args := [t0, t1]) mixed Tryz.func218 (by kernel_rfl) h
theorem B2D {X : Nat → Prop} {t0 t1 : Value} {K : Value → WP} {w : World} (h : Fn PR X 218 #[t0, t1] w K) : B5 PR X 218 [t0, t1] K w := Or.inl ⟨A98, h⟩
def l6 (X : Nat → Prop) (t0 : Value) (R : Value → WP) : WP :=
 A0 PR (B8 t0) fun t3 =>
 A0 PR (Instr.fieldAt 303 t3 0) fun t4 =>
 A6 PR (Instr.loadAt 300 t4) fun t5 =>
 A6 PR (H0 .eql 300 (.tmp 5) (.const (.pointer none)) t5 (.pointer none)) fun t6 =>
 C6 t6 (
 A6 PR (convert 300 391 t0) fun t9 =>
 B5 PR X 264 [t9] fun t10 =>
 A6 PR (convert 391 300 t10) fun t11 =>
 A0 PR (B8 t0) fun t12 =>
 A0 PR (Instr.fieldAt 303 t12 0) fun t13 =>
 C3 PR X (Instr.storeAt 300 t13 t11) <|
 R (.tuple #[])) (
 A0 PR (B8 t0) fun t15 =>
 A0 PR (Instr.fieldAt 303 t15 0) fun t16 =>
 A6 PR (Instr.loadAt 300 t16) fun t17 =>
 A6 PR (H0 .neq 300 (.tmp 17) (.tmp 18) t17 t0) fun t19 =>
 C6 t19 (
 H5) (
 R (.tuple #[])))
theorem A17 : A9 PR 232 := A7 Tryz.func232 (by kernel_rfl) rfl
theorem A2Y {X : Nat → Prop} {t0 : Value} {R : Value → WP} {w : World} (h : l6 X t0 R w) : Fn PR X 232 #[t0] w R := C8 (args := [t0]) mixed Tryz.func232 (by kernel_rfl) h
def Q5 (X : Nat → Prop) (t0 t1 : Value) (R : Value → WP) : WP :=
 B3 PR X (Instr.box 281 t0) fun t2 =>
 jn (n := 0) (
 A6 PR (Instr.loadAt 281 t2) fun t12 =>
 n0 (R t12)) fun J1 =>
 rng (N := 1) PR X (fun t7 K2 =>
 B3 PR (fun _ => False) (Instr.alloc 284 true (.tuple #[])) fun t5 =>
 C3 PR (fun _ => False) (Instr.storeAt 284 t5 t7) <|
 bgn <|
 A6 PR (Instr.loadAt 281 t2) fun t8 =>
 A6 PR (Instr.loadAt 284 t5) fun t9 =>
 B3 PR (fun _ => False) (Instr.buildSlice 281 1 #[(0, t9)]) fun t10 =>
 B3 PR (fun _ => False) (A8 .append #[281, 281] 281 [t8, t10]) fun t11 =>
 C3 PR (fun _ => False) (Instr.storeAt 281 t2 t11) <|
 K2 none) t1 (fun j => match j with | none => (J1) | some (.exit i) => (match Nat.beq i 0 with | true => (J1) | false => (H5)) | some .ret => (n0 (R (.slice none 0 0))) | some _ => H5)
theorem c9 : A9 PR 248 := A7 Tryz.func248 (by kernel_rfl) rfl
theorem j1 {X : Nat → Prop} {t0 t1 : Value} {R : Value → WP} {w : World} (h : Q5 X t0 t1 R w) : Fn PR X 248 #[t0, t1] w R := C8 (args := [t0, t1]) mixed Tryz.func248 (by kernel_rfl) h
def A2S (X : Nat → Prop) (t0 : Value) (R : Value → WP) : WP :=
 A0 PR (binOp .neq 89 t0 t0) fun t5 =>
 R t5
theorem A8L : A9 PR 251 := A7 Tryz.func251 (by kernel_rfl) rfl
theorem A9c {X : Nat → Prop} {t0 : Value} {R : Value → WP} {w : World} (h : A2S X t0 R w) : Fn PR X 251 #[t0] w R := C8 (args := [t0]) mixed Tryz.func251 (by kernel_rfl) h
theorem A3E {X : Nat → Prop} {t0 : Value} {K : Value → WP} {w : World} (h : Fn PR X 251 #[t0] w K) : B5 PR X 251 [t0] K w := Or.inl ⟨A8L, h⟩
def A4a (X : Nat → Prop) (t0 : Value) (R : Value → WP) : WP :=
 A0 PR (binOp .neq 3 t0 t0) fun t5 =>
 R t5
theorem B2A : A9 PR 252 := A7 Tryz.func252 (by kernel_rfl) rfl
theorem B2Z {X : Nat → Prop} {t0 : Value} {R : Value → WP} {w : World} (h : A4a X t0 R w) : Fn PR X 252 #[t0] w R := C8 (args := [t0]) mixed Tryz.func252 (by kernel_rfl) h
theorem A5z {X : Nat → Prop} {t0 : Value} {K : Value → WP} {w : World} (h : Fn PR X 252 #[t0] w K) : B5 PR X 252 [t0] K w := Or.inl ⟨B2A, h⟩
def S0 (X : Nat → Prop) (t0 t1 : Value) (R : Value → WP) : WP :=
 jn (n := 2) (fun t4 t8 =>
 R (.int .i64 (-1))) fun J1 =>
 A0 PR (A8 .len #[58] 0 [t0]) fun t7 =>
 lp (n := 2) (fun L2 t4_1 t8_1 =>
 A0 PR (binOp .lss 3 t8_1 t7) fun t9 =>
 jn (n := 0) (
 jn (n := 1) (fun t4_2 =>
 A0 PR (binOp .add 3 t8_1 (.int .i64 1)) fun t18 =>
 L2 t4_2 t18) fun J3 =>
 A0 PR (Instr.indexAt 58 t0 t8_1) fun t14 =>
 A6 PR (Instr.loadAt 155 t14) fun t15 =>
 L8 PR X t1 [t15] fun t16 =>
 C6 t16 (
 R t8_1) (
 J3 t4_1)) fun J4 =>
 C6 t9 (
 J4) (
 J1 t4_1 t8_1)) (.int .i64 0) (.int .i64 0)
theorem j7 : A9 PR 266 := A7 Tryz.func266 (by kernel_rfl) rfl
theorem l2 {X : Nat → Prop} {t0 t1 : Value} {R : Value → WP} {w : World} (h : S0 X t0 t1 R w) : Fn PR X 266 #[t0, t1] w R := C8 (args := [t0, t1]) mixed Tryz.func266 (by kernel_rfl) h
theorem A3J : A9 PR 341 := A7 Tryz.func341 (by kernel_rfl) rfl
end Go.Proofs.YtjobgnabneddjaaGreat
namespace Go.Proofs.YtjobgnabneddjaaGreat
open Go
def B1U (X : Nat → Prop) (t0 t1 t2 : Value) (R : Value → WP) : WP :=
 B3 PR X (Instr.box 9 t0) fun t3 =>
 B3 PR X (Instr.box 3 t1) fun t4 =>
 jn (n := 2) (fun t6 t7 =>
 B3 PR X (Instr.alloc 89 true (.tuple #[])) fun t8 =>
 jn (n := 0) (
 A6 PR (Instr.loadAt 89 t8) fun t43 =>
 n0 (R (.tuple #[t43, (.bool true)]))) fun J1 =>
 B5 PR X 199 [t2] fun t30 =>
 rng (N := 2) PR X (fun t31 t32 K2 =>
 bgn <|
 drw <|
 A6 PR (Instr.loadAt 89 t8) fun t33 =>
 A6 PR (Instr.loadAt 9 t3) fun t34 =>
 A6 PR (Instr.loadAt 3 t4) fun t35 =>
 A0 PR (binOp .add 3 t35 t31) fun t37 =>
 A0 PR (Instr.index 9 t34 t37) fun t38 =>
 A0 PR (convert 5 89 t38) fun t39 =>
 A0 PR (binOp .shl 89 t39 t32) fun t41 =>
 A0 PR (binOp .or 89 t33 t41) fun t42 =>
 C3 PR (fun _ => False) (Instr.storeAt 89 t8 t42) <|
 K2 none) t30 (fun j => match j with | none => (J1) | some (.exit i) => (match Nat.beq i 0 with | true => (J1) | false => (H5)) | some .ret => (n0 (R (.tuple #[t6, t7]))) | some _ => H5)) fun J3 =>
 A0 PR (binOp .lss 3 t2 (.int .i64 1)) fun t12 =>
 gj t12 false (fun J => J t2) fun t14 =>
 gj t12 false (fun J => A0 PR (binOp .gtr 3 t14 (.int .i64 8)) J) fun t15 =>
 A0 PR (do pure (if ← asBool t12 then (.bool true) else t15)) fun t16 =>
 gj t16 false (fun J => A6 PR (Instr.loadAt 3 t4) J) fun t18 =>
 gj t16 false (fun J => A0 PR (binOp .lss 3 t18 (.int .i64 0)) J) fun t19 =>
 A0 PR (do pure (if ← asBool t16 then (.bool true) else t19)) fun t20 =>
 gj t20 false (fun J => A6 PR (Instr.loadAt 3 t4) J) fun t22 =>
 gj t20 false (fun J => A6 PR (Instr.loadAt 9 t3) J) fun t23 =>
 gj t20 false (fun J => A0 PR (A8 .len #[9] 0 [t23]) J) fun t24 =>
 gj t20 false (fun J => J t2) fun t25 =>
 gj t20 false (fun J => A0 PR (binOp .sub 3 t24 t25) J) fun t26 =>
 gj t20 false (fun J => A0 PR (binOp .gtr 3 t22 t26) J) fun t27 =>
 A0 PR (do pure (if ← asBool t20 then (.bool true) else t27)) fun t28 =>
 C6 t28 (
 n0 (R (.tuple #[(.int .u64 0), (.bool false)]))) (
 J3 (.int .u64 0) (.bool false))
theorem T5 : A9 PR 145 := A7 Tryz.func145 (by kernel_rfl) rfl
theorem B8Y {X : Nat → Prop} {t0 t1 t2 : Value} {R : Value → WP} {w : World} (h : B1U X t0 t1 t2 R w) : Fn PR X 145 #[t0, t1, t2] w R := C8 (args := [t0, t1, t2]) mixed Tryz.func145 (by kernel_rfl) h
def B07 (X : Nat → Prop) (t0 t1 : Value) (R : Value → WP) : WP :=
 B3 PR X (Instr.box 89 t0) fun t2 =>
 jn (n := 1) (fun t4 =>
 B3 PR X (Instr.makeSlice 301 t1 t1) fun t15 =>
 B3 PR X (Instr.alloc 301 true (.tuple #[])) fun t5 =>
 C3 PR X (Instr.storeAt 301 t5 t15) <|
 jn (n := 0) (
 A6 PR (Instr.loadAt 301 t5) fun t27 =>
 A6 PR (convert 301 9 t27) fun t28 =>
 n0 (R t28)) fun J1 =>
 B5 PR X 199 [t1] fun t17 =>
 rng (N := 2) PR X (fun t18 t19 K2 =>
 bgn <|
 A6 PR (Instr.loadAt 301 t5) fun t20 =>
 A6 PR (Instr.loadAt 89 t2) fun t22 =>
 A0 PR (binOp .shr 89 t22 t19) fun t24 =>
 A0 PR (convert 89 5 t24) fun t25 =>
 A0 PR (Instr.indexAt 301 t20 t18) fun t26 =>
 C3 PR (fun _ => False) (Instr.storeAt 5 t26 t25) <|
 K2 none) t17 (fun j => match j with | none => (J1) | some (.exit i) => (match Nat.beq i 0 with | true => (J1) | false => (H5)) | some .ret => (n0 (R t4)) | some _ => H5)) fun J3 =>
 A0 PR (binOp .lss 3 t1 (.int .i64 1)) fun t9 =>
 gj t9 false (fun J => J t1) fun t11 =>
 gj t9 false (fun J => A0 PR (binOp .gtr 3 t11 (.int .i64 8)) J) fun t12 =>
 A0 PR (do pure (if ← asBool t9 then (.bool true) else t12)) fun t13 =>
 C6 t13 (
 n0 (R (.string (ByteArray.mk #[])))) (
 J3 (.string (ByteArray.mk #[])))
theorem J0 : A9 PR 176 := A7 Tryz.func176 (by kernel_rfl) rfl
theorem B8q {X : Nat → Prop} {t0 t1 : Value} {R : Value → WP} {w : World} (h : B07 X t0 t1 R w) : Fn PR X 176 #[t0, t1] w R := C8 (args := [t0, t1]) mixed Tryz.func176 (by kernel_rfl) h
def A69 (X : Nat → Prop) (t0 : Value) (R : Value → WP) : WP :=
 B3 PR X (Instr.box 3 t0) fun t1 =>
 A0 PR (Instr.makeFunc (.func 243) #[] #[t1]) fun t3 =>
 R t3
theorem A6A : A9 PR 199 := A7 Tryz.func199 (by kernel_rfl) rfl
theorem B5a {X : Nat → Prop} {t0 : Value} {R : Value → WP} {w : World} (h : A69 X t0 R w) : Fn PR X 199 #[t0] w R := C8 (args := [t0]) mixed Tryz.func199 (by kernel_rfl) h
def A32 (X : Nat → Prop) (t0 t1 : Value) (R : Value → WP) : WP :=
 A6 PR (Instr.loadAt 3 t1) fun t4 =>
 lp (n := 1) (fun L1 t5 =>
 A0 PR (binOp .lss 3 t5 t4) fun t6 =>
 jn (n := 0) (
 jn (n := 0) (
 A0 PR (binOp .add 3 t5 (.int .i64 1)) fun t18 =>
 L1 t18) fun J2 =>
 A6 PR (Instr.loadAt 3 t1) fun t10 =>
 A0 PR (binOp .sub 3 t10 (.int .i64 1)) fun t11 =>
 A0 PR (binOp .sub 3 t11 t5) fun t13 =>
 A0 PR (binOp .mul 3 (.int .i64 8) t13) fun t14 =>
 A0 PR (convert 3 242 t14) fun t15 =>
 L8 PR X t0 [t5, t15] fun t16 =>
 A0 PR (Op.unary .not t16) fun t17 =>
 C6 t17 (
 R (.tuple #[])) (
 J2)) fun J3 =>
 C6 t6 (
 J3) (
 R (.tuple #[]))) (.int .i64 0)
theorem B0r : A9 PR 243 := A7 Tryz.func243 (by kernel_rfl) rfl
theorem B19 {X : Nat → Prop} {t0 t1 : Value} {R : Value → WP} {w : World} (h : A32 X t0 t1 R w) : Fn PR X 243 #[t0, t1] w R := C8 (args := [t0, t1]) mixed Tryz.func243 (by kernel_rfl) h
theorem B12 {X : Nat → Prop} {t0 t1 : Value} {K : Value → WP} {w : World} (h : Fn PR X 243 #[t0, t1] w K) : A1v PR X 243 [t0, t1] K w := ⟨B0r, h⟩
end Go.Proofs.YtjobgnabneddjaaGreat
namespace Go.Proofs.YtjobgnabneddjaaGreat
open Go
theorem C6m : TI PR 144 Tryz.t144.desc 10 80 (.agg #[.nilFunc, .nilFunc, .nilFunc, .nilFunc, .nilFunc, .nilFunc, .nilFunc, .nilFunc, .nilFunc, .nilFunc]) := ⟨Tryz.underlying144, Tryz.t144, by kernel_rfl, rfl, rfl, rfl⟩
theorem A8q : TI PR 148 Tryz.t147.desc 3 24 (.agg #[(.int .i64 0), (.int .i64 0), (.int .i64 0)]) := ⟨Tryz.underlying148, Tryz.t148, by kernel_rfl, rfl, rfl, rfl⟩
theorem B1r : TI PR 155 Tryz.t154.desc 2 16 (.agg #[(.int .i64 0), (.int .i64 0)]) := ⟨Tryz.underlying155, Tryz.t155, by kernel_rfl, rfl, rfl, rfl⟩
theorem D1c : TI PR 180 Tryz.t180.desc 1 8 .nilFunc := ⟨Tryz.underlying180, Tryz.t180, by kernel_rfl, rfl, rfl, rfl⟩
theorem A5u : TI PR 195 Tryz.t194.desc 2 48 (.agg #[(.slice none 0 0), (.slice none 0 0)]) := ⟨Tryz.underlying195, Tryz.t195, by kernel_rfl, rfl, rfl, rfl⟩
theorem C10 : TI PR 216 Tryz.t216.desc 4 32 (.agg #[.nilFunc, .nilFunc, .nilFunc, .nilFunc]) := ⟨Tryz.underlying216, Tryz.t216, by kernel_rfl, rfl, rfl, rfl⟩
theorem A13 : TI PR 218 Tryz.t217.desc 4 40 (.agg #[(.int .i64 0), (.string (ByteArray.mk #[])), (.int .i64 0), (.int .i64 0)]) := ⟨Tryz.underlying218, Tryz.t218, by kernel_rfl, rfl, rfl, rfl⟩
theorem B1k : TI PR 224 Tryz.t223.desc 3 40 (.agg #[(.string (ByteArray.mk #[])), (.string (ByteArray.mk #[])), (.int .i64 0)]) := ⟨Tryz.underlying224, Tryz.t224, by kernel_rfl, rfl, rfl, rfl⟩
theorem B1q : TI PR 226 Tryz.t223.desc 3 40 (.agg #[(.string (ByteArray.mk #[])), (.string (ByteArray.mk #[])), (.int .i64 0)]) := ⟨Tryz.underlying226, Tryz.t226, by kernel_rfl, rfl, rfl, rfl⟩
theorem B1m : TI PR 263 Tryz.t133.desc 0 0 (.agg #[]) := ⟨Tryz.underlying263, Tryz.t263, by kernel_rfl, rfl, rfl, rfl⟩
theorem B23 : TI PR 27 Tryz.t3.desc 1 8 (.int .i64 0) := ⟨Tryz.underlying27, Tryz.t27, by kernel_rfl, rfl, rfl, rfl⟩
theorem A80 : TI PR 284 Tryz.t283.desc 2 16 (.agg #[(.int .u64 0), (.int .i64 0)]) := ⟨Tryz.underlying284, Tryz.t284, by kernel_rfl, rfl, rfl, rfl⟩
theorem G9 : TI PR 3 Tryz.t3.desc 1 8 (.int .i64 0) := ⟨Tryz.underlying3, Tryz.t3, by kernel_rfl, rfl, rfl, rfl⟩
theorem A4F : TI PR 301 Tryz.t301.desc 1 24 (.slice none 0 0) := ⟨Tryz.underlying301, Tryz.t301, by kernel_rfl, rfl, rfl, rfl⟩
theorem B1x : TI PR 303 Tryz.t302.desc 2 32 (.agg #[(.pointer none), (.slice none 0 0)]) := ⟨Tryz.underlying303, Tryz.t303, by kernel_rfl, rfl, rfl, rfl⟩
theorem C6s : TI PR 305 Tryz.t304.desc 2 32 (.agg #[(.pointer none), (.slice none 0 0)]) := ⟨Tryz.underlying305, Tryz.t305, by kernel_rfl, rfl, rfl, rfl⟩
theorem C0x : TI PR 324 Tryz.t84.desc 1 24 (.slice none 0 0) := ⟨Tryz.underlying324, Tryz.t324, by kernel_rfl, rfl, rfl, rfl⟩
theorem D1A : TI PR 326 Tryz.t326.desc 1 8 .nilFunc := ⟨Tryz.underlying326, Tryz.t326, by kernel_rfl, rfl, rfl, rfl⟩
theorem B1l : TI PR 330 Tryz.t329.desc 2 16 (.agg #[.nilFunc, (.int .i64 0)]) := ⟨Tryz.underlying330, Tryz.t330, by kernel_rfl, rfl, rfl, rfl⟩
theorem C1E : TI PR 355 Tryz.t355.desc 38 38 (.agg #[(.int .u8 0), (.int .u8 0), (.int .u8 0), (.int .u8 0), (.int .u8 0), (.int .u8 0), (.int .u8 0), (.int .u8 0), (.int .u8 0), (.int .u8 0), (.int .u8 0), (.int .u8 0), (.int .u8 0), (.int .u8 0), (.int .u8 0), (.int .u8 0), (.int .u8 0), (.int .u8 0), (.int .u8 0), (.int .u8 0), (.int .u8 0), (.int .u8 0), (.int .u8 0), (.int .u8 0), (.int .u8 0), (.int .u8 0), (.int .u8 0), (.int .u8 0), (.int .u8 0), (.int .u8 0), (.int .u8 0), (.int .u8 0), (.int .u8 0), (.int .u8 0), (.int .u8 0), (.int .u8 0), (.int .u8 0), (.int .u8 0)]) := ⟨Tryz.underlying355, Tryz.t355, by kernel_rfl, rfl, rfl, rfl⟩
theorem D1U : TI PR 368 Tryz.t368.desc 1 8 .nilFunc := ⟨Tryz.underlying368, Tryz.t368, by kernel_rfl, rfl, rfl, rfl⟩
theorem C6T : TI PR 370 Tryz.t89.desc 1 8 (.int .u64 0) := ⟨Tryz.underlying370, Tryz.t370, by kernel_rfl, rfl, rfl, rfl⟩
theorem B0T : TI PR 42 Tryz.t41.desc 3 3 (.agg #[(.bool false), (.bool false), (.bool false)]) := ⟨Tryz.underlying42, Tryz.t42, by kernel_rfl, rfl, rfl, rfl⟩
theorem A4n : TI PR 45 Tryz.t44.desc 6 64 (.agg #[(.int .i64 0), (.string (ByteArray.mk #[])), (.string (ByteArray.mk #[])), (.int .i64 0), (.int .i64 0), (.int .i64 0)]) := ⟨Tryz.underlying45, Tryz.t45, by kernel_rfl, rfl, rfl, rfl⟩
theorem B4q : TI PR 47 Tryz.t46.desc 7 72 (.agg #[(.int .i64 0), (.string (ByteArray.mk #[])), (.string (ByteArray.mk #[])), (.int .i64 0), (.int .i64 0), (.int .i64 0), (.int .i64 0)]) := ⟨Tryz.underlying47, Tryz.t47, by kernel_rfl, rfl, rfl, rfl⟩
theorem C6D : TI PR 51 Tryz.t51.desc 1 24 (.slice none 0 0) := ⟨Tryz.underlying51, Tryz.t51, by kernel_rfl, rfl, rfl, rfl⟩
theorem A6G : TI PR 55 Tryz.t54.desc 4 32 (.agg #[(.int .i64 0), (.int .i64 0), (.bool false), (.int .i64 0)]) := ⟨Tryz.underlying55, Tryz.t55, by kernel_rfl, rfl, rfl, rfl⟩
theorem A8l : TI PR 84 Tryz.t84.desc 1 24 (.slice none 0 0) := ⟨Tryz.underlying84, Tryz.t84, by kernel_rfl, rfl, rfl, rfl⟩
theorem B0N : TI PR 89 Tryz.t89.desc 1 8 (.int .u64 0) := ⟨Tryz.underlying89, Tryz.t89, by kernel_rfl, rfl, rfl, rfl⟩
theorem B4j : TI PR 103 Tryz.t103.desc 1 24 (.slice none 0 0) := ⟨Tryz.underlying103, Tryz.t103, by kernel_rfl, rfl, rfl, rfl⟩
theorem A73 : TI PR 270 Tryz.t269.desc 2 32 (.agg #[(.int .i64 0), (.slice none 0 0)]) := ⟨Tryz.underlying270, Tryz.t270, by kernel_rfl, rfl, rfl, rfl⟩
theorem C1B : TI PR 104 Tryz.t104.desc 1 24 (.slice none 0 0) := ⟨Tryz.underlying104, Tryz.t104, by kernel_rfl, rfl, rfl, rfl⟩
theorem D00 : TI PR 277 Tryz.t276.desc 2 16 (.agg #[(.int .i64 0), (.int .i64 0)]) := ⟨Tryz.underlying277, Tryz.t277, by kernel_rfl, rfl, rfl, rfl⟩
theorem C2A : TI PR 193 Tryz.t193.desc 1 24 (.slice none 0 0) := ⟨Tryz.underlying193, Tryz.t193, by kernel_rfl, rfl, rfl, rfl⟩
theorem B63 : TI PR 290 Tryz.t283.desc 2 16 (.agg #[(.int .u64 0), (.int .i64 0)]) := ⟨Tryz.underlying290, Tryz.t290, by kernel_rfl, rfl, rfl, rfl⟩
theorem B65 : TI PR 281 Tryz.t281.desc 1 24 (.slice none 0 0) := ⟨Tryz.underlying281, Tryz.t281, by kernel_rfl, rfl, rfl, rfl⟩
theorem B8l : TI PR 36 Tryz.t36.desc 1 24 (.slice none 0 0) := ⟨Tryz.underlying36, Tryz.t36, by kernel_rfl, rfl, rfl, rfl⟩
theorem A8U : TI PR 37 Tryz.t37.desc 1 24 (.slice none 0 0) := ⟨Tryz.underlying37, Tryz.t37, by kernel_rfl, rfl, rfl, rfl⟩
theorem x5 : TI PR 9 Tryz.t9.desc 1 16 (.string (ByteArray.mk #[])) := ⟨Tryz.underlying9, Tryz.t9, by kernel_rfl, rfl, rfl, rfl⟩
theorem B08 : TI PR 58 Tryz.t58.desc 1 24 (.slice none 0 0) := ⟨Tryz.underlying58, Tryz.t58, by kernel_rfl, rfl, rfl, rfl⟩
theorem A38 : TI PR 106 Tryz.t105.desc 14 208 (.agg #[(.int .i64 0), (.int .i64 0), (.int .i64 0), (.int .i64 0), (.int .i64 0), (.int .i64 0), (.int .i64 0), (.slice none 0 0), (.slice none 0 0), (.slice none 0 0), (.slice none 0 0), (.slice none 0 0), (.slice none 0 0), (.int .i64 0)]) := ⟨Tryz.underlying106, Tryz.t106, by kernel_rfl, rfl, rfl, rfl⟩
@[simp] theorem C76 {v0 v1 v2 : Value} (h0 : v0.cells.size = 5) (h1 : v1.cells.size = 1) (h2 : v2.cells.size = 1) (K : Value → WP) : A0 PR (Instr.build 106 #[(0, v0), (3, v1), (8, v2)]) K = K (.agg (F4 (F4 (F4 #[(.int .i64 0), (.int .i64 0), (.int .i64 0), (.int .i64 0), (.int .i64 0), (.int .i64 0), (.int .i64 0), (.slice none 0 0), (.slice none 0 0), (.slice none 0 0), (.slice none 0 0), (.slice none 0 0), (.slice none 0 0), (.int .i64 0)] 0 v0.cells.toList) 7 v1.cells.toList) 12 v2.cells.toList)) := E8 (pl := #[(0, 5), (5, 1), (6, 1), (7, 1), (8, 1), (9, 1), (10, 1), (11, 1), (12, 1), (13, 1)]) A38 (fun w => by kernel_rfl) (by rw [B7 rfl h0 (by simp [B9]), B7 rfl h1 (by simp [B9]), B7 rfl h2 (by simp [B9])]; rfl)
theorem B1f : TI PR 128 Tryz.t127.desc 4 48 (.agg #[(.string (ByteArray.mk #[])), (.string (ByteArray.mk #[])), (.int .i64 0), (.bool false)]) := ⟨Tryz.underlying128, Tryz.t128, by kernel_rfl, rfl, rfl, rfl⟩
@[simp] theorem C99 {v0 : Value} (h0 : v0.cells.size = 1) (K : Value → WP) : A0 PR (Instr.build 128 #[(0, v0)]) K = K (.agg (F4 #[(.string (ByteArray.mk #[])), (.string (ByteArray.mk #[])), (.int .i64 0), (.bool false)] 0 v0.cells.toList)) := E8 (pl := #[(0, 1), (1, 1), (2, 1), (3, 1)]) B1f (fun w => by kernel_rfl) (by rw [B7 rfl h0 (by simp [B9])]; rfl)
theorem A4M : TI PR 130 Tryz.t129.desc 14 144 (.agg #[(.string (ByteArray.mk #[])), (.string (ByteArray.mk #[])), (.int .i64 0), (.bool false), (.int .i64 0), (.int .i64 0), (.int .i64 0), (.int .i64 0), (.int .i64 0), (.slice none 0 0), (.int .i64 0), (.int .i64 0), (.bool false), (.int .i64 0)]) := ⟨Tryz.underlying130, Tryz.t130, by kernel_rfl, rfl, rfl, rfl⟩
@[simp] theorem C9D {v0 v1 : Value} (h0 : v0.cells.size = 4) (h1 : v1.cells.size = 1) (K : Value → WP) : A0 PR (Instr.build 130 #[(0, v0), (1, v1)]) K = K (.agg (F4 (F4 #[(.string (ByteArray.mk #[])), (.string (ByteArray.mk #[])), (.int .i64 0), (.bool false), (.int .i64 0), (.int .i64 0), (.int .i64 0), (.int .i64 0), (.int .i64 0), (.slice none 0 0), (.int .i64 0), (.int .i64 0), (.bool false), (.int .i64 0)] 0 v0.cells.toList) 4 v1.cells.toList)) := E8 (pl := #[(0, 4), (4, 1), (5, 1), (6, 1), (7, 1), (8, 1), (9, 1), (10, 4)]) A4M (fun w => by kernel_rfl) (by rw [B7 rfl h0 (by simp [B9]), B7 rfl h1 (by simp [B9])]; rfl)
theorem B7A : TI PR 141 Tryz.t140.desc 3 56 (.agg #[(.int .i64 0), (.slice none 0 0), (.slice none 0 0)]) := ⟨Tryz.underlying141, Tryz.t141, by kernel_rfl, rfl, rfl, rfl⟩
@[simp] theorem C9r {v0 v1 : Value} (h0 : v0.cells.size = 1) (h1 : v1.cells.size = 1) (K : Value → WP) : A0 PR (Instr.build 141 #[(1, v0), (2, v1)]) K = K (.agg (F4 (F4 #[(.int .i64 0), (.slice none 0 0), (.slice none 0 0)] 1 v0.cells.toList) 2 v1.cells.toList)) := E8 (pl := #[(0, 1), (1, 1), (2, 1)]) B7A (fun w => by kernel_rfl) (by rw [B7 rfl h0 (by simp [B9]), B7 rfl h1 (by simp [B9])]; rfl)
@[simp] theorem D2p  (K : Value → WP) : A0 PR (Instr.build 148 #[]) K = K (.agg #[(.int .i64 0), (.int .i64 0), (.int .i64 0)]) := E8 (pl := #[(0, 1), (1, 1), (2, 1)]) A8q (fun w => by kernel_rfl) rfl
@[simp] theorem C88 {v0 v1 : Value} (h0 : v0.cells.size = 1) (h1 : v1.cells.size = 1) (K : Value → WP) : A0 PR (Instr.build 148 #[(0, v0), (1, v1)]) K = K (.agg (F4 (F4 #[(.int .i64 0), (.int .i64 0), (.int .i64 0)] 0 v0.cells.toList) 1 v1.cells.toList)) := E8 (pl := #[(0, 1), (1, 1), (2, 1)]) A8q (fun w => by kernel_rfl) (by rw [B7 rfl h0 (by simp [B9]), B7 rfl h1 (by simp [B9])]; rfl)
@[simp] theorem C8A {v0 v1 v2 : Value} (h0 : v0.cells.size = 1) (h1 : v1.cells.size = 1) (h2 : v2.cells.size = 1) (K : Value → WP) : A0 PR (Instr.build 148 #[(0, v0), (1, v1), (2, v2)]) K = K (.agg (F4 (F4 (F4 #[(.int .i64 0), (.int .i64 0), (.int .i64 0)] 0 v0.cells.toList) 1 v1.cells.toList) 2 v2.cells.toList)) := E8 (pl := #[(0, 1), (1, 1), (2, 1)]) A8q (fun w => by kernel_rfl) (by rw [B7 rfl h0 (by simp [B9]), B7 rfl h1 (by simp [B9]), B7 rfl h2 (by simp [B9])]; rfl)
theorem B33 : TI PR 158 Tryz.t158.desc 2 16 (.agg #[(.int .i64 0), (.int .i64 0)]) := ⟨Tryz.underlying158, Tryz.t158, by kernel_rfl, rfl, rfl, rfl⟩
@[simp] theorem C82 {v0 v1 : Value} (h0 : v0.cells.size = 1) (h1 : v1.cells.size = 1) (K : Value → WP) : A0 PR (Instr.build 195 #[(0, v0), (1, v1)]) K = K (.agg (F4 (F4 #[(.slice none 0 0), (.slice none 0 0)] 0 v0.cells.toList) 1 v1.cells.toList)) := E8 (pl := #[(0, 1), (1, 1)]) A5u (fun w => by kernel_rfl) (by rw [B7 rfl h0 (by simp [B9]), B7 rfl h1 (by simp [B9])]; rfl)
theorem D2A : TI PR 203 Tryz.t202.desc 17 136 (.agg #[(.int .i64 0), (.int .i64 0), (.int .i64 0), (.int .i64 0), (.int .i64 0), (.int .i64 0), (.int .i64 0), (.int .i64 0), (.int .i64 0), (.int .i64 0), (.int .i64 0), (.int .i64 0), (.int .i64 0), (.int .i64 0), (.int .i64 0), (.int .i64 0), (.int .i64 0)]) := ⟨Tryz.underlying203, Tryz.t203, by kernel_rfl, rfl, rfl, rfl⟩
@[simp] theorem D0N {v0 : Value} (h0 : v0.cells.size = 1) (K : Value → WP) : A0 PR (Instr.build 203 #[(1, v0)]) K = K (.agg (F4 #[(.int .i64 0), (.int .i64 0), (.int .i64 0), (.int .i64 0), (.int .i64 0), (.int .i64 0), (.int .i64 0), (.int .i64 0), (.int .i64 0), (.int .i64 0), (.int .i64 0), (.int .i64 0), (.int .i64 0), (.int .i64 0), (.int .i64 0), (.int .i64 0), (.int .i64 0)] 16 v0.cells.toList)) := E8 (pl := #[(0, 16), (16, 1)]) D2A (fun w => by kernel_rfl) (by rw [B7 rfl h0 (by simp [B9])]; rfl)
theorem B69 : TI PR 210 Tryz.t209.desc 7 88 (.agg #[(.int .i64 0), (.int .i64 0), (.int .i64 0), (.int .i64 0), (.int .i64 0), (.slice none 0 0), (.slice none 0 0)]) := ⟨Tryz.underlying210, Tryz.t210, by kernel_rfl, rfl, rfl, rfl⟩
@[simp] theorem C9W {v0 v1 : Value} (h0 : v0.cells.size = 5) (h1 : v1.cells.size = 1) (K : Value → WP) : A0 PR (Instr.build 210 #[(0, v0), (2, v1)]) K = K (.agg (F4 (F4 #[(.int .i64 0), (.int .i64 0), (.int .i64 0), (.int .i64 0), (.int .i64 0), (.slice none 0 0), (.slice none 0 0)] 0 v0.cells.toList) 6 v1.cells.toList)) := E8 (pl := #[(0, 5), (5, 1), (6, 1)]) B69 (fun w => by kernel_rfl) (by rw [B7 rfl h0 (by simp [B9]), B7 rfl h1 (by simp [B9])]; rfl)
@[simp] theorem C5y {v0 v1 v2 v3 : Value} (h0 : v0.cells.size = 1) (h1 : v1.cells.size = 1) (h2 : v2.cells.size = 1) (h3 : v3.cells.size = 1) (K : Value → WP) : A0 PR (Instr.build 218 #[(0, v0), (1, v1), (2, v2), (3, v3)]) K = K (.agg (F4 (F4 (F4 (F4 #[(.int .i64 0), (.string (ByteArray.mk #[])), (.int .i64 0), (.int .i64 0)] 0 v0.cells.toList) 1 v1.cells.toList) 2 v2.cells.toList) 3 v3.cells.toList)) := E8 (pl := #[(0, 1), (1, 1), (2, 1), (3, 1)]) A13 (fun w => by kernel_rfl) (by rw [B7 rfl h0 (by simp [B9]), B7 rfl h1 (by simp [B9]), B7 rfl h2 (by simp [B9]), B7 rfl h3 (by simp [B9])]; rfl)
@[simp] theorem D2F {v0 : Value} (h0 : v0.cells.size = 1) (K : Value → WP) : A0 PR (Instr.build 218 #[(0, v0)]) K = K (.agg (F4 #[(.int .i64 0), (.string (ByteArray.mk #[])), (.int .i64 0), (.int .i64 0)] 0 v0.cells.toList)) := E8 (pl := #[(0, 1), (1, 1), (2, 1), (3, 1)]) A13 (fun w => by kernel_rfl) (by rw [B7 rfl h0 (by simp [B9])]; rfl)
@[simp] theorem D3V  (K : Value → WP) : A0 PR (Instr.build 224 #[]) K = K (.agg #[(.string (ByteArray.mk #[])), (.string (ByteArray.mk #[])), (.int .i64 0)]) := E8 (pl := #[(0, 1), (1, 1), (2, 1)]) B1k (fun w => by kernel_rfl) rfl
@[simp] theorem C7v {v0 v1 v2 : Value} (h0 : v0.cells.size = 1) (h1 : v1.cells.size = 1) (h2 : v2.cells.size = 1) (K : Value → WP) : A0 PR (Instr.build 224 #[(0, v0), (1, v1), (2, v2)]) K = K (.agg (F4 (F4 (F4 #[(.string (ByteArray.mk #[])), (.string (ByteArray.mk #[])), (.int .i64 0)] 0 v0.cells.toList) 1 v1.cells.toList) 2 v2.cells.toList)) := E8 (pl := #[(0, 1), (1, 1), (2, 1)]) B1k (fun w => by kernel_rfl) (by rw [B7 rfl h0 (by simp [B9]), B7 rfl h1 (by simp [B9]), B7 rfl h2 (by simp [B9])]; rfl)
@[simp] theorem D3k  (K : Value → WP) : A0 PR (Instr.build 226 #[]) K = K (.agg #[(.string (ByteArray.mk #[])), (.string (ByteArray.mk #[])), (.int .i64 0)]) := E8 (pl := #[(0, 1), (1, 1), (2, 1)]) B1q (fun w => by kernel_rfl) rfl
@[simp] theorem C7q {v0 v1 v2 : Value} (h0 : v0.cells.size = 1) (h1 : v1.cells.size = 1) (h2 : v2.cells.size = 1) (K : Value → WP) : A0 PR (Instr.build 226 #[(0, v0), (1, v1), (2, v2)]) K = K (.agg (F4 (F4 (F4 #[(.string (ByteArray.mk #[])), (.string (ByteArray.mk #[])), (.int .i64 0)] 0 v0.cells.toList) 1 v1.cells.toList) 2 v2.cells.toList)) := E8 (pl := #[(0, 1), (1, 1), (2, 1)]) B1q (fun w => by kernel_rfl) (by rw [B7 rfl h0 (by simp [B9]), B7 rfl h1 (by simp [B9]), B7 rfl h2 (by simp [B9])]; rfl)
theorem A3r : TI PR 23 Tryz.t22.desc 5 40 (.agg #[(.int .i64 0), (.int .i64 0), (.int .i64 0), (.int .i64 0), (.int .i64 0)]) := ⟨Tryz.underlying23, Tryz.t23, by kernel_rfl, rfl, rfl, rfl⟩
@[simp] theorem C4Q {v0 v1 v2 v3 v4 : Value} (h0 : v0.cells.size = 1) (h1 : v1.cells.size = 1) (h2 : v2.cells.size = 1) (h3 : v3.cells.size = 1) (h4 : v4.cells.size = 1) (K : Value → WP) : A0 PR (Instr.build 23 #[(0, v0), (1, v1), (2, v2), (3, v3), (4, v4)]) K = K (.agg (F4 (F4 (F4 (F4 (F4 #[(.int .i64 0), (.int .i64 0), (.int .i64 0), (.int .i64 0), (.int .i64 0)] 0 v0.cells.toList) 1 v1.cells.toList) 2 v2.cells.toList) 3 v3.cells.toList) 4 v4.cells.toList)) := E8 (pl := #[(0, 1), (1, 1), (2, 1), (3, 1), (4, 1)]) A3r (fun w => by kernel_rfl) (by rw [B7 rfl h0 (by simp [B9]), B7 rfl h1 (by simp [B9]), B7 rfl h2 (by simp [B9]), B7 rfl h3 (by simp [B9]), B7 rfl h4 (by simp [B9])]; rfl)
theorem C6U : TI PR 231 Tryz.t230.desc 1 24 (.agg #[(.slice none 0 0)]) := ⟨Tryz.underlying231, Tryz.t231, by kernel_rfl, rfl, rfl, rfl⟩
@[simp] theorem D1z {v0 : Value} (h0 : v0.cells.size = 1) (K : Value → WP) : A0 PR (Instr.build 231 #[(0, v0)]) K = K (.agg (F4 #[(.slice none 0 0)] 0 v0.cells.toList)) := E8 (pl := #[(0, 1)]) C6U (fun w => by kernel_rfl) (by rw [B7 rfl h0 (by simp [B9])]; rfl)
@[simp] theorem D2z  (K : Value → WP) : A0 PR (Instr.build 263 #[]) K = K (.agg #[]) := E8 (pl := #[]) B1m (fun w => by kernel_rfl) rfl
@[simp] theorem D21  (K : Value → WP) : A0 PR (Instr.build 270 #[]) K = K (.agg #[(.int .i64 0), (.slice none 0 0)]) := E8 (pl := #[(0, 1), (1, 1)]) A73 (fun w => by kernel_rfl) rfl
@[simp] theorem C8m {v0 v1 : Value} (h0 : v0.cells.size = 1) (h1 : v1.cells.size = 1) (K : Value → WP) : A0 PR (Instr.build 270 #[(0, v0), (1, v1)]) K = K (.agg (F4 (F4 #[(.int .i64 0), (.slice none 0 0)] 0 v0.cells.toList) 1 v1.cells.toList)) := E8 (pl := #[(0, 1), (1, 1)]) A73 (fun w => by kernel_rfl) (by rw [B7 rfl h0 (by simp [B9]), B7 rfl h1 (by simp [B9])]; rfl)
@[simp] theorem D0B {v0 : Value} (h0 : v0.cells.size = 1) (K : Value → WP) : A0 PR (Instr.build 270 #[(0, v0)]) K = K (.agg (F4 #[(.int .i64 0), (.slice none 0 0)] 0 v0.cells.toList)) := E8 (pl := #[(0, 1), (1, 1)]) A73 (fun w => by kernel_rfl) (by rw [B7 rfl h0 (by simp [B9])]; rfl)
@[simp] theorem C9A {v0 v1 : Value} (h0 : v0.cells.size = 1) (h1 : v1.cells.size = 1) (K : Value → WP) : A0 PR (Instr.build 284 #[(0, v0), (1, v1)]) K = K (.agg (F4 (F4 #[(.int .u64 0), (.int .i64 0)] 0 v0.cells.toList) 1 v1.cells.toList)) := E8 (pl := #[(0, 1), (1, 1)]) A80 (fun w => by kernel_rfl) (by rw [B7 rfl h0 (by simp [B9]), B7 rfl h1 (by simp [B9])]; rfl)
@[simp] theorem C9Y {v0 v1 : Value} (h0 : v0.cells.size = 1) (h1 : v1.cells.size = 1) (K : Value → WP) : A0 PR (Instr.build 330 #[(0, v0), (1, v1)]) K = K (.agg (F4 (F4 #[.nilFunc, (.int .i64 0)] 0 v0.cells.toList) 1 v1.cells.toList)) := E8 (pl := #[(0, 1), (1, 1)]) B1l (fun w => by kernel_rfl) (by rw [B7 rfl h0 (by simp [B9]), B7 rfl h1 (by simp [B9])]; rfl)
theorem C6u : TI PR 333 Tryz.t133.desc 0 0 (.agg #[]) := ⟨Tryz.underlying333, Tryz.t333, by kernel_rfl, rfl, rfl, rfl⟩
@[simp] theorem D3a  (K : Value → WP) : A0 PR (Instr.build 333 #[]) K = K (.agg #[]) := E8 (pl := #[]) C6u (fun w => by kernel_rfl) rfl
theorem C6y : TI PR 334 Tryz.t133.desc 0 0 (.agg #[]) := ⟨Tryz.underlying334, Tryz.t334, by kernel_rfl, rfl, rfl, rfl⟩
@[simp] theorem D2m  (K : Value → WP) : A0 PR (Instr.build 334 #[]) K = K (.agg #[]) := E8 (pl := #[]) C6y (fun w => by kernel_rfl) rfl
theorem B1F : TI PR 39 Tryz.t38.desc 11 120 (.agg #[(.int .i64 0), (.int .i64 0), (.int .i64 0), (.int .i64 0), (.int .i64 0), (.pointer none), (.pointer none), (.pointer none), (.slice none 0 0), (.slice none 0 0), (.int .i64 0)]) := ⟨Tryz.underlying39, Tryz.t39, by kernel_rfl, rfl, rfl, rfl⟩
@[simp] theorem D23 {v0 : Value} (h0 : v0.cells.size = 5) (K : Value → WP) : A0 PR (Instr.build 39 #[(0, v0)]) K = K (.agg (F4 #[(.int .i64 0), (.int .i64 0), (.int .i64 0), (.int .i64 0), (.int .i64 0), (.pointer none), (.pointer none), (.pointer none), (.slice none 0 0), (.slice none 0 0), (.int .i64 0)] 0 v0.cells.toList)) := E8 (pl := #[(0, 5), (5, 1), (6, 1), (7, 1), (8, 1), (9, 1), (10, 1)]) B1F (fun w => by kernel_rfl) (by rw [B7 rfl h0 (by simp [B9])]; rfl)
@[simp] theorem D4n  (K : Value → WP) : A0 PR (Instr.build 42 #[]) K = K (.agg #[(.bool false), (.bool false), (.bool false)]) := E8 (pl := #[(0, 1), (1, 1), (2, 1)]) B0T (fun w => by kernel_rfl) rfl
@[simp] theorem C90 {v0 v1 : Value} (h0 : v0.cells.size = 1) (h1 : v1.cells.size = 1) (K : Value → WP) : A0 PR (Instr.build 42 #[(0, v0), (1, v1)]) K = K (.agg (F4 (F4 #[(.bool false), (.bool false), (.bool false)] 0 v0.cells.toList) 1 v1.cells.toList)) := E8 (pl := #[(0, 1), (1, 1), (2, 1)]) B0T (fun w => by kernel_rfl) (by rw [B7 rfl h0 (by simp [B9]), B7 rfl h1 (by simp [B9])]; rfl)
@[simp] theorem D31 {v0 : Value} (h0 : v0.cells.size = 1) (K : Value → WP) : A0 PR (Instr.build 42 #[(0, v0)]) K = K (.agg (F4 #[(.bool false), (.bool false), (.bool false)] 0 v0.cells.toList)) := E8 (pl := #[(0, 1), (1, 1), (2, 1)]) B0T (fun w => by kernel_rfl) (by rw [B7 rfl h0 (by simp [B9])]; rfl)
@[simp] theorem D4H {v0 : Value} (h0 : v0.cells.size = 1) (K : Value → WP) : A0 PR (Instr.build 42 #[(1, v0)]) K = K (.agg (F4 #[(.bool false), (.bool false), (.bool false)] 1 v0.cells.toList)) := E8 (pl := #[(0, 1), (1, 1), (2, 1)]) B0T (fun w => by kernel_rfl) (by rw [B7 rfl h0 (by simp [B9])]; rfl)
@[simp] theorem D2w {v0 : Value} (h0 : v0.cells.size = 1) (K : Value → WP) : A0 PR (Instr.build 42 #[(2, v0)]) K = K (.agg (F4 #[(.bool false), (.bool false), (.bool false)] 2 v0.cells.toList)) := E8 (pl := #[(0, 1), (1, 1), (2, 1)]) B0T (fun w => by kernel_rfl) (by rw [B7 rfl h0 (by simp [B9])]; rfl)
@[simp] theorem D4m  (K : Value → WP) : A0 PR (Instr.build 45 #[]) K = K (.agg #[(.int .i64 0), (.string (ByteArray.mk #[])), (.string (ByteArray.mk #[])), (.int .i64 0), (.int .i64 0), (.int .i64 0)]) := E8 (pl := #[(0, 1), (1, 1), (2, 1), (3, 1), (4, 1), (5, 1)]) A4n (fun w => by kernel_rfl) rfl
@[simp] theorem C2F {v0 v1 v2 v3 v4 v5 : Value} (h0 : v0.cells.size = 1) (h1 : v1.cells.size = 1) (h2 : v2.cells.size = 1) (h3 : v3.cells.size = 1) (h4 : v4.cells.size = 1) (h5 : v5.cells.size = 1) (K : Value → WP) : A0 PR (Instr.build 45 #[(0, v0), (1, v1), (2, v2), (3, v3), (4, v4), (5, v5)]) K = K (.agg (F4 (F4 (F4 (F4 (F4 (F4 #[(.int .i64 0), (.string (ByteArray.mk #[])), (.string (ByteArray.mk #[])), (.int .i64 0), (.int .i64 0), (.int .i64 0)] 0 v0.cells.toList) 1 v1.cells.toList) 2 v2.cells.toList) 3 v3.cells.toList) 4 v4.cells.toList) 5 v5.cells.toList)) := E8 (pl := #[(0, 1), (1, 1), (2, 1), (3, 1), (4, 1), (5, 1)]) A4n (fun w => by kernel_rfl) (by rw [B7 rfl h0 (by simp [B9]), B7 rfl h1 (by simp [B9]), B7 rfl h2 (by simp [B9]), B7 rfl h3 (by simp [B9]), B7 rfl h4 (by simp [B9]), B7 rfl h5 (by simp [B9])]; rfl)
@[simp] theorem C6v {v0 v1 v2 v3 : Value} (h0 : v0.cells.size = 1) (h1 : v1.cells.size = 1) (h2 : v2.cells.size = 1) (h3 : v3.cells.size = 1) (K : Value → WP) : A0 PR (Instr.build 45 #[(0, v0), (1, v1), (2, v2), (5, v3)]) K = K (.agg (F4 (F4 (F4 (F4 #[(.int .i64 0), (.string (ByteArray.mk #[])), (.string (ByteArray.mk #[])), (.int .i64 0), (.int .i64 0), (.int .i64 0)] 0 v0.cells.toList) 1 v1.cells.toList) 2 v2.cells.toList) 5 v3.cells.toList)) := E8 (pl := #[(0, 1), (1, 1), (2, 1), (3, 1), (4, 1), (5, 1)]) A4n (fun w => by kernel_rfl) (by rw [B7 rfl h0 (by simp [B9]), B7 rfl h1 (by simp [B9]), B7 rfl h2 (by simp [B9]), B7 rfl h3 (by simp [B9])]; rfl)
@[simp] theorem D40  (K : Value → WP) : A0 PR (Instr.build 47 #[]) K = K (.agg #[(.int .i64 0), (.string (ByteArray.mk #[])), (.string (ByteArray.mk #[])), (.int .i64 0), (.int .i64 0), (.int .i64 0), (.int .i64 0)]) := E8 (pl := #[(0, 6), (6, 1)]) B4q (fun w => by kernel_rfl) rfl
@[simp] theorem C97 {v0 v1 : Value} (h0 : v0.cells.size = 6) (h1 : v1.cells.size = 1) (K : Value → WP) : A0 PR (Instr.build 47 #[(0, v0), (1, v1)]) K = K (.agg (F4 (F4 #[(.int .i64 0), (.string (ByteArray.mk #[])), (.string (ByteArray.mk #[])), (.int .i64 0), (.int .i64 0), (.int .i64 0), (.int .i64 0)] 0 v0.cells.toList) 6 v1.cells.toList)) := E8 (pl := #[(0, 6), (6, 1)]) B4q (fun w => by kernel_rfl) (by rw [B7 rfl h0 (by simp [B9]), B7 rfl h1 (by simp [B9])]; rfl)
@[simp] theorem D2j {v0 : Value} (h0 : v0.cells.size = 6) (K : Value → WP) : A0 PR (Instr.build 47 #[(0, v0)]) K = K (.agg (F4 #[(.int .i64 0), (.string (ByteArray.mk #[])), (.string (ByteArray.mk #[])), (.int .i64 0), (.int .i64 0), (.int .i64 0), (.int .i64 0)] 0 v0.cells.toList)) := E8 (pl := #[(0, 6), (6, 1)]) B4q (fun w => by kernel_rfl) (by rw [B7 rfl h0 (by simp [B9])]; rfl)
@[simp] theorem D5B  (K : Value → WP) : A0 PR (Instr.build 55 #[]) K = K (.agg #[(.int .i64 0), (.int .i64 0), (.bool false), (.int .i64 0)]) := E8 (pl := #[(0, 1), (1, 1), (2, 1), (3, 1)]) A6G (fun w => by kernel_rfl) rfl
@[simp] theorem D4B {v0 : Value} (h0 : v0.cells.size = 1) (K : Value → WP) : A0 PR (Instr.build 55 #[(0, v0)]) K = K (.agg (F4 #[(.int .i64 0), (.int .i64 0), (.bool false), (.int .i64 0)] 0 v0.cells.toList)) := E8 (pl := #[(0, 1), (1, 1), (2, 1), (3, 1)]) A6G (fun w => by kernel_rfl) (by rw [B7 rfl h0 (by simp [B9])]; rfl)
@[simp] theorem C93 {v0 v1 : Value} (h0 : v0.cells.size = 1) (h1 : v1.cells.size = 1) (K : Value → WP) : A0 PR (Instr.build 55 #[(1, v0), (2, v1)]) K = K (.agg (F4 (F4 #[(.int .i64 0), (.int .i64 0), (.bool false), (.int .i64 0)] 1 v0.cells.toList) 2 v1.cells.toList)) := E8 (pl := #[(0, 1), (1, 1), (2, 1), (3, 1)]) A6G (fun w => by kernel_rfl) (by rw [B7 rfl h0 (by simp [B9]), B7 rfl h1 (by simp [B9])]; rfl)
@[simp] theorem D3p {v0 : Value} (h0 : v0.cells.size = 1) (K : Value → WP) : A0 PR (Instr.build 55 #[(1, v0)]) K = K (.agg (F4 #[(.int .i64 0), (.int .i64 0), (.bool false), (.int .i64 0)] 1 v0.cells.toList)) := E8 (pl := #[(0, 1), (1, 1), (2, 1), (3, 1)]) A6G (fun w => by kernel_rfl) (by rw [B7 rfl h0 (by simp [B9])]; rfl)
theorem B3J : TI PR 64 Tryz.t63.desc 4 56 (.agg #[(.int .i64 0), (.string (ByteArray.mk #[])), (.slice none 0 0), (.int .i64 0)]) := ⟨Tryz.underlying64, Tryz.t64, by kernel_rfl, rfl, rfl, rfl⟩
@[simp] theorem C9x {v0 v1 : Value} (h0 : v0.cells.size = 1) (h1 : v1.cells.size = 1) (K : Value → WP) : A0 PR (Instr.build 64 #[(0, v0), (2, v1)]) K = K (.agg (F4 (F4 #[(.int .i64 0), (.string (ByteArray.mk #[])), (.slice none 0 0), (.int .i64 0)] 0 v0.cells.toList) 2 v1.cells.toList)) := E8 (pl := #[(0, 1), (1, 1), (2, 1), (3, 1)]) B3J (fun w => by kernel_rfl) (by rw [B7 rfl h0 (by simp [B9]), B7 rfl h1 (by simp [B9])]; rfl)
@[simp] theorem D30 {v0 : Value} (h0 : v0.cells.size = 1) (K : Value → WP) : A0 PR (Instr.build 64 #[(1, v0)]) K = K (.agg (F4 #[(.int .i64 0), (.string (ByteArray.mk #[])), (.slice none 0 0), (.int .i64 0)] 1 v0.cells.toList)) := E8 (pl := #[(0, 1), (1, 1), (2, 1), (3, 1)]) B3J (fun w => by kernel_rfl) (by rw [B7 rfl h0 (by simp [B9])]; rfl)
theorem B5N : TI PR 79 Tryz.t78.desc 3 40 (.agg #[(.int .i64 0), (.int .i64 0), (.slice none 0 0)]) := ⟨Tryz.underlying79, Tryz.t79, by kernel_rfl, rfl, rfl, rfl⟩
@[simp] theorem C96 {v0 v1 : Value} (h0 : v0.cells.size = 1) (h1 : v1.cells.size = 1) (K : Value → WP) : A0 PR (Instr.build 79 #[(0, v0), (1, v1)]) K = K (.agg (F4 (F4 #[(.int .i64 0), (.int .i64 0), (.slice none 0 0)] 0 v0.cells.toList) 1 v1.cells.toList)) := E8 (pl := #[(0, 1), (1, 1), (2, 1)]) B5N (fun w => by kernel_rfl) (by rw [B7 rfl h0 (by simp [B9]), B7 rfl h1 (by simp [B9])]; rfl)
@[simp] theorem C91 {v0 v1 : Value} (h0 : v0.cells.size = 1) (h1 : v1.cells.size = 1) (K : Value → WP) : A0 PR (Instr.build 79 #[(0, v0), (2, v1)]) K = K (.agg (F4 (F4 #[(.int .i64 0), (.int .i64 0), (.slice none 0 0)] 0 v0.cells.toList) 2 v1.cells.toList)) := E8 (pl := #[(0, 1), (1, 1), (2, 1)]) B5N (fun w => by kernel_rfl) (by rw [B7 rfl h0 (by simp [B9]), B7 rfl h1 (by simp [B9])]; rfl)
@[simp] theorem D2y {v0 : Value} (h0 : v0.cells.size = 1) (K : Value → WP) : A0 PR (Instr.build 79 #[(0, v0)]) K = K (.agg (F4 #[(.int .i64 0), (.int .i64 0), (.slice none 0 0)] 0 v0.cells.toList)) := E8 (pl := #[(0, 1), (1, 1), (2, 1)]) B5N (fun w => by kernel_rfl) (by rw [B7 rfl h0 (by simp [B9])]; rfl)
theorem C1V : TI PR 228 Tryz.t228.desc 1 24 (.slice none 0 0) := ⟨Tryz.underlying228, Tryz.t228, by kernel_rfl, rfl, rfl, rfl⟩
theorem C0c : TI PR 124 Tryz.t124.desc 1 8 .nilFunc := ⟨Tryz.underlying124, Tryz.t124, by kernel_rfl, rfl, rfl, rfl⟩
theorem C1z : TI PR 259 Tryz.t259.desc 1 24 (.slice none 0 0) := ⟨Tryz.underlying259, Tryz.t259, by kernel_rfl, rfl, rfl, rfl⟩
theorem ty5 : TI PR 5 Tryz.t5.desc 1 1 (.int .u8 0) := ⟨Tryz.underlying5, Tryz.t5, by kernel_rfl, rfl, rfl, rfl⟩
theorem C16 : TI PR 375 Tryz.t375.desc 1 24 (.slice none 0 0) := ⟨Tryz.underlying375, Tryz.t375, by kernel_rfl, rfl, rfl, rfl⟩
theorem C6q : TI PR 242 Tryz.t242.desc 1 8 (.int .u64 0) := ⟨Tryz.underlying242, Tryz.t242, by kernel_rfl, rfl, rfl, rfl⟩
@[simp] theorem D1K {k : IntKind} (a : Int) (K : Value → WP) : A0 PR (convert 242 3 (.int k a)) K = K (.int .i64 (IntKind.i64.wrap a)) := A3V G9 C6q
@[simp] theorem D2C {k : IntKind} (a : Int) (K : Value → WP) : A0 PR (convert 3 242 (.int k a)) K = K (.int .u64 (IntKind.u64.wrap a)) := A3V C6q G9
@[simp] theorem D38 {k : IntKind} (a : Int) (K : Value → WP) : A0 PR (convert 3 89 (.int k a)) K = K (.int .u64 (IntKind.u64.wrap a)) := A3V B0N G9
theorem B9F {K : Value → WP} {w : World} {b o cap : Nat} {ns : List Int} (hr : N8 w b o (ns.map (Value.int .u8))) : A6 PR (convert 301 9 (.slice (some ⟨b, o, none⟩) ns.length cap)) K w = K (.string (A4P ns)) w := D0F A4F ty5 x5 hr
@[simp] theorem D4g {k : IntKind} (a : Int) (K : Value → WP) : A0 PR (convert 5 3 (.int k a)) K = K (.int .i64 (IntKind.i64.wrap a)) := A3V G9 ty5
@[simp] theorem D1g {k : IntKind} (a : Int) (K : Value → WP) : A0 PR (convert 5 370 (.int k a)) K = K (.int .u64 (IntKind.u64.wrap a)) := A3V C6T ty5
@[simp] theorem D33 {k : IntKind} (a : Int) (K : Value → WP) : A0 PR (convert 5 89 (.int k a)) K = K (.int .u64 (IntKind.u64.wrap a)) := A3V B0N ty5
@[simp] theorem D3Y {k : IntKind} (a : Int) (K : Value → WP) : A0 PR (convert 89 3 (.int k a)) K = K (.int .i64 (IntKind.i64.wrap a)) := A3V G9 B0N
@[simp] theorem D3G {k : IntKind} (a : Int) (K : Value → WP) : A0 PR (convert 89 5 (.int k a)) K = K (.int .u8 (IntKind.u8.wrap a)) := A3V ty5 B0N
theorem D0L : TI PR 110 Tryz.t110.desc 1 8 (.pointer none) := ⟨Tryz.underlying110, Tryz.t110, by kernel_rfl, rfl, rfl, rfl⟩
@[simp] theorem C12 (a : Option Addr) (x y : Operand) (K : Value → WP) (w : World) : A6 PR (H0 .eql 110 x y (.pointer a) (.pointer none)) K w = K (.bool a.isNone) w := A6z D0L
theorem C6b : TI PR 131 Tryz.t131.desc 1 8 (.pointer none) := ⟨Tryz.underlying131, Tryz.t131, by kernel_rfl, rfl, rfl, rfl⟩
@[simp] theorem C11 (a : Option Addr) (x y : Operand) (K : Value → WP) (w : World) : A6 PR (H0 .eql 131 x y (.pointer a) (.pointer none)) K w = K (.bool a.isNone) w := A6z C6b
theorem C43 : TI PR 26 Tryz.t26.desc 1 8 (.pointer none) := ⟨Tryz.underlying26, Tryz.t26, by kernel_rfl, rfl, rfl, rfl⟩
@[simp] theorem C3g (a : Option Addr) (x y : Operand) (K : Value → WP) (w : World) : A6 PR (H0 .eql 26 x y (.pointer a) (.pointer none)) K w = K (.bool a.isNone) w := A6z C43
theorem C8V : TI PR 30 Tryz.t30.desc 1 8 (.pointer none) := ⟨Tryz.underlying30, Tryz.t30, by kernel_rfl, rfl, rfl, rfl⟩
@[simp] theorem C2p (a : Option Addr) (x y : Operand) (K : Value → WP) (w : World) : A6 PR (H0 .eql 30 x y (.pointer a) (.pointer none)) K w = K (.bool a.isNone) w := A6z C8V
theorem B64 : TI PR 300 Tryz.t300.desc 1 8 (.pointer none) := ⟨Tryz.underlying300, Tryz.t300, by kernel_rfl, rfl, rfl, rfl⟩
@[simp] theorem C1s (a : Option Addr) (x y : Operand) (K : Value → WP) (w : World) : A6 PR (H0 .eql 300 x y (.pointer a) (.pointer none)) K w = K (.bool a.isNone) w := A6z B64
theorem ty4 : TI PR 4 Tryz.t4.desc 1 1 (.bool false) := ⟨Tryz.underlying4, Tryz.t4, by kernel_rfl, rfl, rfl, rfl⟩
@[simp] theorem C4w (a0 b0 : Bool) (a1 b1 : Bool) (a2 b2 : Bool) (x y : Operand) (K : Value → WP) (w : World) : A6 PR (H0 .eql 42 x y (.agg #[.bool a0, .bool a1, .bool a2]) (.agg #[.bool b0, .bool b1, .bool b2])) K w = K (.bool ((a0 == b0) && ((a1 == b1) && ((a2 == b2) && true)))) w := C6f (by kernel_rfl) (A4C (e := 9999) B0T (by kernel_rfl) (S1 rfl ty4 rfl rfl rfl (A4b (e := 9998) ty4) (S1 rfl ty4 rfl rfl rfl (A4b (e := 9998) ty4) (S1 rfl ty4 rfl rfl rfl (A4b (e := 9998) ty4) (B1w)))))
@[simp] theorem C5p (a0 b0 : Int) (a1 b1 : Int) (a2 b2 : Bool) (a3 b3 : Int) (x y : Operand) (K : Value → WP) (w : World) : A6 PR (H0 .eql 55 x y (.agg #[.int .i64 a0, .int .i64 a1, .bool a2, .int .i64 a3]) (.agg #[.int .i64 b0, .int .i64 b1, .bool b2, .int .i64 b3])) K w = K (.bool (decide (a0 = b0) && (decide (a1 = b1) && ((a2 == b2) && (decide (a3 = b3) && true))))) w := C6f (by kernel_rfl) (A4C (e := 9999) A6G (by kernel_rfl) (S1 rfl B23 rfl rfl rfl (z6 (e := 9998) B23) (S1 rfl G9 rfl rfl rfl (z6 (e := 9998) G9) (S1 rfl ty4 rfl rfl rfl (A4b (e := 9998) ty4) (S1 rfl G9 rfl rfl rfl (z6 (e := 9998) G9) (B1w))))))
@[simp] theorem C1q (a : Option Addr) (x y : Operand) (K : Value → WP) (w : World) : A6 PR (H0 .neq 131 x y (.pointer a) (.pointer none)) K w = K (.bool (!a.isNone)) w := A7Z C6b
@[simp] theorem C2u (a0 b0 : Int) (a1 b1 : ByteArray) (a2 b2 : Int) (a3 b3 : Int) (x y : Operand) (K : Value → WP) (w : World) : A6 PR (H0 .neq 218 x y (.agg #[.int .i64 a0, .string a1, .int .i64 a2, .int .i64 a3]) (.agg #[.int .i64 b0, .string b1, .int .i64 b2, .int .i64 b3])) K w = K (.bool !(decide (a0 = b0) && ((a1 == b1) && (decide (a2 = b2) && (decide (a3 = b3) && true))))) w := C62 (by kernel_rfl) (A4C (e := 9999) A13 (by kernel_rfl) (S1 rfl G9 rfl rfl rfl (z6 (e := 9998) G9) (S1 rfl x5 rfl rfl rfl (C17 (e := 9998) x5) (S1 rfl G9 rfl rfl rfl (z6 (e := 9998) G9) (S1 rfl G9 rfl rfl rfl (z6 (e := 9998) G9) (B1w))))))
@[simp] theorem C31 (a : Option Addr) (x y : Operand) (K : Value → WP) (w : World) : A6 PR (H0 .neq 26 x y (.pointer a) (.pointer none)) K w = K (.bool (!a.isNone)) w := A7Z C43
theorem C4Z : TI PR 33 Tryz.t33.desc 1 8 (.pointer none) := ⟨Tryz.underlying33, Tryz.t33, by kernel_rfl, rfl, rfl, rfl⟩
@[simp] theorem C38 (a : Option Addr) (x y : Operand) (K : Value → WP) (w : World) : A6 PR (H0 .neq 33 x y (.pointer a) (.pointer none)) K w = K (.bool (!a.isNone)) w := A7Z C4Z
theorem C5j : TI PR 34 Tryz.t34.desc 1 8 (.pointer none) := ⟨Tryz.underlying34, Tryz.t34, by kernel_rfl, rfl, rfl, rfl⟩
@[simp] theorem C3x (a : Option Addr) (x y : Operand) (K : Value → WP) (w : World) : A6 PR (H0 .neq 34 x y (.pointer a) (.pointer none)) K w = K (.bool (!a.isNone)) w := A7Z C5j
theorem C4c : TI PR 35 Tryz.t35.desc 1 8 (.pointer none) := ⟨Tryz.underlying35, Tryz.t35, by kernel_rfl, rfl, rfl, rfl⟩
@[simp] theorem C21 (a : Option Addr) (x y : Operand) (K : Value → WP) (w : World) : A6 PR (H0 .neq 35 x y (.pointer a) (.pointer none)) K w = K (.bool (!a.isNone)) w := A7Z C4c
@[simp] theorem C4g (a0 b0 : Int) (a1 b1 : Int) (a2 b2 : Bool) (a3 b3 : Int) (x y : Operand) (K : Value → WP) (w : World) : A6 PR (H0 .neq 55 x y (.agg #[.int .i64 a0, .int .i64 a1, .bool a2, .int .i64 a3]) (.agg #[.int .i64 b0, .int .i64 b1, .bool b2, .int .i64 b3])) K w = K (.bool !(decide (a0 = b0) && (decide (a1 = b1) && ((a2 == b2) && (decide (a3 = b3) && true))))) w := C62 (by kernel_rfl) (A4C (e := 9999) A6G (by kernel_rfl) (S1 rfl B23 rfl rfl rfl (z6 (e := 9998) B23) (S1 rfl G9 rfl rfl rfl (z6 (e := 9998) G9) (S1 rfl ty4 rfl rfl rfl (A4b (e := 9998) ty4) (S1 rfl G9 rfl rfl rfl (z6 (e := 9998) G9) (B1w))))))
theorem C3Y {cs : Array Value} {v : Value} (h : cs[2]? = some v) (K : Value → WP) : A0 PR (Instr.field 42 (.agg cs) 2) K = K v := C5J (i := 2) B0T rfl ty4 rfl h
@[simp] theorem D1b (b o : Nat) (K : Value → WP) : A0 PR (Instr.fieldAt 106 (.pointer (some ⟨b, o, none⟩)) 0) K = K (.pointer (some ⟨b, o, none⟩)) := B4 (i := 0) A38 rfl ⟨_, _, _, _, A3r⟩ b o
@[simp] theorem D1y (b o : Nat) (K : Value → WP) : A0 PR (Instr.fieldAt 106 (.pointer (some ⟨b, o, none⟩)) 1) K = K (.pointer (some ⟨b, o + 5, none⟩)) := B4 (i := 1) A38 rfl ⟨_, _, _, _, G9⟩ b o
@[simp] theorem D04 (b o : Nat) (K : Value → WP) : A0 PR (Instr.fieldAt 106 (.pointer (some ⟨b, o, none⟩)) 2) K = K (.pointer (some ⟨b, o + 6, none⟩)) := B4 (i := 2) A38 rfl ⟨_, _, _, _, G9⟩ b o
@[simp] theorem D1s (b o : Nat) (K : Value → WP) : A0 PR (Instr.fieldAt 106 (.pointer (some ⟨b, o, none⟩)) 4) K = K (.pointer (some ⟨b, o + 8, none⟩)) := B4 (i := 4) A38 rfl ⟨_, _, _, _, A8U⟩ b o
@[simp] theorem D18 (b o : Nat) (K : Value → WP) : A0 PR (Instr.fieldAt 106 (.pointer (some ⟨b, o, none⟩)) 5) K = K (.pointer (some ⟨b, o + 9, none⟩)) := B4 (i := 5) A38 rfl ⟨_, _, _, _, B4j⟩ b o
@[simp] theorem D2Q (b o : Nat) (K : Value → WP) : A0 PR (Instr.fieldAt 106 (.pointer (some ⟨b, o, none⟩)) 6) K = K (.pointer (some ⟨b, o + 10, none⟩)) := B4 (i := 6) A38 rfl ⟨_, _, _, _, C1B⟩ b o
@[simp] theorem D10 (b o : Nat) (K : Value → WP) : A0 PR (Instr.fieldAt 106 (.pointer (some ⟨b, o, none⟩)) 7) K = K (.pointer (some ⟨b, o + 11, none⟩)) := B4 (i := 7) A38 rfl ⟨_, _, _, _, B8l⟩ b o
@[simp] theorem D09 (b o : Nat) (K : Value → WP) : A0 PR (Instr.fieldAt 106 (.pointer (some ⟨b, o, none⟩)) 9) K = K (.pointer (some ⟨b, o + 13, none⟩)) := B4 (i := 9) A38 rfl ⟨_, _, _, _, G9⟩ b o
@[simp] theorem D0P (b o : Nat) (K : Value → WP) : A0 PR (Instr.fieldAt 128 (.pointer (some ⟨b, o, none⟩)) 0) K = K (.pointer (some ⟨b, o, none⟩)) := B4 (i := 0) B1f rfl ⟨_, _, _, _, x5⟩ b o
@[simp] theorem D0n (b o : Nat) (K : Value → WP) : A0 PR (Instr.fieldAt 128 (.pointer (some ⟨b, o, none⟩)) 1) K = K (.pointer (some ⟨b, o + 1, none⟩)) := B4 (i := 1) B1f rfl ⟨_, _, _, _, x5⟩ b o
@[simp] theorem D2L (b o : Nat) (K : Value → WP) : A0 PR (Instr.fieldAt 128 (.pointer (some ⟨b, o, none⟩)) 2) K = K (.pointer (some ⟨b, o + 2, none⟩)) := B4 (i := 2) B1f rfl ⟨_, _, _, _, G9⟩ b o
@[simp] theorem D0D (b o : Nat) (K : Value → WP) : A0 PR (Instr.fieldAt 128 (.pointer (some ⟨b, o, none⟩)) 3) K = K (.pointer (some ⟨b, o + 3, none⟩)) := B4 (i := 3) B1f rfl ⟨_, _, _, _, ty4⟩ b o
@[simp] theorem D0H (b o : Nat) (K : Value → WP) : A0 PR (Instr.fieldAt 130 (.pointer (some ⟨b, o, none⟩)) 0) K = K (.pointer (some ⟨b, o, none⟩)) := B4 (i := 0) A4M rfl ⟨_, _, _, _, B1f⟩ b o
@[simp] theorem D1Q (b o : Nat) (K : Value → WP) : A0 PR (Instr.fieldAt 130 (.pointer (some ⟨b, o, none⟩)) 1) K = K (.pointer (some ⟨b, o + 4, none⟩)) := B4 (i := 1) A4M rfl ⟨_, _, _, _, G9⟩ b o
@[simp] theorem D0q (b o : Nat) (K : Value → WP) : A0 PR (Instr.fieldAt 130 (.pointer (some ⟨b, o, none⟩)) 2) K = K (.pointer (some ⟨b, o + 5, none⟩)) := B4 (i := 2) A4M rfl ⟨_, _, _, _, G9⟩ b o
@[simp] theorem D0f (b o : Nat) (K : Value → WP) : A0 PR (Instr.fieldAt 130 (.pointer (some ⟨b, o, none⟩)) 3) K = K (.pointer (some ⟨b, o + 6, none⟩)) := B4 (i := 3) A4M rfl ⟨_, _, _, _, G9⟩ b o
@[simp] theorem D1w (b o : Nat) (K : Value → WP) : A0 PR (Instr.fieldAt 130 (.pointer (some ⟨b, o, none⟩)) 4) K = K (.pointer (some ⟨b, o + 7, none⟩)) := B4 (i := 4) A4M rfl ⟨_, _, _, _, G9⟩ b o
@[simp] theorem D1p (b o : Nat) (K : Value → WP) : A0 PR (Instr.fieldAt 130 (.pointer (some ⟨b, o, none⟩)) 5) K = K (.pointer (some ⟨b, o + 8, none⟩)) := B4 (i := 5) A4M rfl ⟨_, _, _, _, G9⟩ b o
@[simp] theorem D16 (b o : Nat) (K : Value → WP) : A0 PR (Instr.fieldAt 130 (.pointer (some ⟨b, o, none⟩)) 6) K = K (.pointer (some ⟨b, o + 9, none⟩)) := B4 (i := 6) A4M rfl ⟨_, _, _, _, A8l⟩ b o
@[simp] theorem D1P (b o : Nat) (K : Value → WP) : A0 PR (Instr.fieldAt 130 (.pointer (some ⟨b, o, none⟩)) 7) K = K (.pointer (some ⟨b, o + 10, none⟩)) := B4 (i := 7) A4M rfl ⟨_, _, _, _, A6G⟩ b o
theorem C6Q : TI PR 137 Tryz.t136.desc 1 8 (.agg #[(.int .i64 0)]) := ⟨Tryz.underlying137, Tryz.t137, by kernel_rfl, rfl, rfl, rfl⟩
theorem ty2 : TI PR 2 Tryz.t2.desc 1 8 (.int .i64 0) := ⟨Tryz.underlying2, Tryz.t2, by kernel_rfl, rfl, rfl, rfl⟩
@[simp] theorem D0e (b o : Nat) (K : Value → WP) : A0 PR (Instr.fieldAt 137 (.pointer (some ⟨b, o, none⟩)) 2) K = K (.pointer (some ⟨b, o, none⟩)) := B4 (i := 2) C6Q rfl ⟨_, _, _, _, ty2⟩ b o
theorem C6k : TI PR 139 Tryz.t138.desc 1 8 (.agg #[(.int .i64 0)]) := ⟨Tryz.underlying139, Tryz.t139, by kernel_rfl, rfl, rfl, rfl⟩
@[simp] theorem D02 (b o : Nat) (K : Value → WP) : A0 PR (Instr.fieldAt 139 (.pointer (some ⟨b, o, none⟩)) 0) K = K (.pointer (some ⟨b, o, none⟩)) := B4 (i := 0) C6k rfl ⟨_, _, _, _, C6Q⟩ b o
@[simp] theorem D0k (b o : Nat) (K : Value → WP) : A0 PR (Instr.fieldAt 141 (.pointer (some ⟨b, o, none⟩)) 0) K = K (.pointer (some ⟨b, o, none⟩)) := B4 (i := 0) B7A rfl ⟨_, _, _, _, C6k⟩ b o
@[simp] theorem D1F (b o : Nat) (K : Value → WP) : A0 PR (Instr.fieldAt 141 (.pointer (some ⟨b, o, none⟩)) 1) K = K (.pointer (some ⟨b, o + 1, none⟩)) := B4 (i := 1) B7A rfl ⟨_, _, _, _, A8U⟩ b o
@[simp] theorem D1D (b o : Nat) (K : Value → WP) : A0 PR (Instr.fieldAt 141 (.pointer (some ⟨b, o, none⟩)) 2) K = K (.pointer (some ⟨b, o + 2, none⟩)) := B4 (i := 2) B7A rfl ⟨_, _, _, _, A8U⟩ b o
@[simp] theorem D1x (b o : Nat) (K : Value → WP) : A0 PR (Instr.fieldAt 148 (.pointer (some ⟨b, o, none⟩)) 0) K = K (.pointer (some ⟨b, o, none⟩)) := B4 (i := 0) A8q rfl ⟨_, _, _, _, G9⟩ b o
@[simp] theorem D0d (b o : Nat) (K : Value → WP) : A0 PR (Instr.fieldAt 148 (.pointer (some ⟨b, o, none⟩)) 1) K = K (.pointer (some ⟨b, o + 1, none⟩)) := B4 (i := 1) A8q rfl ⟨_, _, _, _, G9⟩ b o
@[simp] theorem D0Y (b o : Nat) (K : Value → WP) : A0 PR (Instr.fieldAt 148 (.pointer (some ⟨b, o, none⟩)) 2) K = K (.pointer (some ⟨b, o + 2, none⟩)) := B4 (i := 2) A8q rfl ⟨_, _, _, _, G9⟩ b o
@[simp] theorem D1N (b o : Nat) (K : Value → WP) : A0 PR (Instr.fieldAt 155 (.pointer (some ⟨b, o, none⟩)) 0) K = K (.pointer (some ⟨b, o, none⟩)) := B4 (i := 0) B1r rfl ⟨_, _, _, _, G9⟩ b o
@[simp] theorem D1l (b o : Nat) (K : Value → WP) : A0 PR (Instr.fieldAt 155 (.pointer (some ⟨b, o, none⟩)) 1) K = K (.pointer (some ⟨b, o + 1, none⟩)) := B4 (i := 1) B1r rfl ⟨_, _, _, _, G9⟩ b o
theorem C13 : TI PR 192 Tryz.t58.desc 1 24 (.slice none 0 0) := ⟨Tryz.underlying192, Tryz.t192, by kernel_rfl, rfl, rfl, rfl⟩
@[simp] theorem D0g (b o : Nat) (K : Value → WP) : A0 PR (Instr.fieldAt 195 (.pointer (some ⟨b, o, none⟩)) 0) K = K (.pointer (some ⟨b, o, none⟩)) := B4 (i := 0) A5u rfl ⟨_, _, _, _, C13⟩ b o
@[simp] theorem D0a (b o : Nat) (K : Value → WP) : A0 PR (Instr.fieldAt 195 (.pointer (some ⟨b, o, none⟩)) 1) K = K (.pointer (some ⟨b, o + 1, none⟩)) := B4 (i := 1) A5u rfl ⟨_, _, _, _, C2A⟩ b o
@[simp] theorem D15 (b o : Nat) (K : Value → WP) : A0 PR (Instr.fieldAt 210 (.pointer (some ⟨b, o, none⟩)) 0) K = K (.pointer (some ⟨b, o, none⟩)) := B4 (i := 0) B69 rfl ⟨_, _, _, _, A3r⟩ b o
@[simp] theorem D0u (b o : Nat) (K : Value → WP) : A0 PR (Instr.fieldAt 210 (.pointer (some ⟨b, o, none⟩)) 1) K = K (.pointer (some ⟨b, o + 5, none⟩)) := B4 (i := 1) B69 rfl ⟨_, _, _, _, B08⟩ b o
theorem B4Y : TI PR 208 Tryz.t208.desc 1 24 (.slice none 0 0) := ⟨Tryz.underlying208, Tryz.t208, by kernel_rfl, rfl, rfl, rfl⟩
@[simp] theorem D03 (b o : Nat) (K : Value → WP) : A0 PR (Instr.fieldAt 210 (.pointer (some ⟨b, o, none⟩)) 2) K = K (.pointer (some ⟨b, o + 6, none⟩)) := B4 (i := 2) B69 rfl ⟨_, _, _, _, B4Y⟩ b o
theorem C6a : TI PR 212 Tryz.t211.desc 1 24 (.agg #[(.slice none 0 0)]) := ⟨Tryz.underlying212, Tryz.t212, by kernel_rfl, rfl, rfl, rfl⟩
@[simp] theorem D2G (b o : Nat) (K : Value → WP) : A0 PR (Instr.fieldAt 212 (.pointer (some ⟨b, o, none⟩)) 0) K = K (.pointer (some ⟨b, o, none⟩)) := B4 (i := 0) C6a rfl ⟨_, _, _, _, A8l⟩ b o
theorem B62 : TI PR 214 Tryz.t213.desc 2 32 (.agg #[(.slice none 0 0), (.int .i64 0)]) := ⟨Tryz.underlying214, Tryz.t214, by kernel_rfl, rfl, rfl, rfl⟩
@[simp] theorem D0W (b o : Nat) (K : Value → WP) : A0 PR (Instr.fieldAt 214 (.pointer (some ⟨b, o, none⟩)) 0) K = K (.pointer (some ⟨b, o, none⟩)) := B4 (i := 0) B62 rfl ⟨_, _, _, _, C6a⟩ b o
@[simp] theorem D0S (b o : Nat) (K : Value → WP) : A0 PR (Instr.fieldAt 214 (.pointer (some ⟨b, o, none⟩)) 1) K = K (.pointer (some ⟨b, o + 1, none⟩)) := B4 (i := 1) B62 rfl ⟨_, _, _, _, G9⟩ b o
@[simp] theorem D2H (b o : Nat) (K : Value → WP) : A0 PR (Instr.fieldAt 218 (.pointer (some ⟨b, o, none⟩)) 0) K = K (.pointer (some ⟨b, o, none⟩)) := B4 (i := 0) A13 rfl ⟨_, _, _, _, G9⟩ b o
@[simp] theorem D0V (b o : Nat) (K : Value → WP) : A0 PR (Instr.fieldAt 218 (.pointer (some ⟨b, o, none⟩)) 1) K = K (.pointer (some ⟨b, o + 1, none⟩)) := B4 (i := 1) A13 rfl ⟨_, _, _, _, x5⟩ b o
@[simp] theorem D0Q (b o : Nat) (K : Value → WP) : A0 PR (Instr.fieldAt 218 (.pointer (some ⟨b, o, none⟩)) 2) K = K (.pointer (some ⟨b, o + 2, none⟩)) := B4 (i := 2) A13 rfl ⟨_, _, _, _, G9⟩ b o
@[simp] theorem D1H (b o : Nat) (K : Value → WP) : A0 PR (Instr.fieldAt 218 (.pointer (some ⟨b, o, none⟩)) 3) K = K (.pointer (some ⟨b, o + 3, none⟩)) := B4 (i := 3) A13 rfl ⟨_, _, _, _, G9⟩ b o
@[simp] theorem D1W (b o : Nat) (K : Value → WP) : A0 PR (Instr.fieldAt 224 (.pointer (some ⟨b, o, none⟩)) 0) K = K (.pointer (some ⟨b, o, none⟩)) := B4 (i := 0) B1k rfl ⟨_, _, _, _, x5⟩ b o
@[simp] theorem D0l (b o : Nat) (K : Value → WP) : A0 PR (Instr.fieldAt 224 (.pointer (some ⟨b, o, none⟩)) 1) K = K (.pointer (some ⟨b, o + 1, none⟩)) := B4 (i := 1) B1k rfl ⟨_, _, _, _, x5⟩ b o
@[simp] theorem D0G (b o : Nat) (K : Value → WP) : A0 PR (Instr.fieldAt 224 (.pointer (some ⟨b, o, none⟩)) 2) K = K (.pointer (some ⟨b, o + 2, none⟩)) := B4 (i := 2) B1k rfl ⟨_, _, _, _, G9⟩ b o
@[simp] theorem D13 (b o : Nat) (K : Value → WP) : A0 PR (Instr.fieldAt 226 (.pointer (some ⟨b, o, none⟩)) 0) K = K (.pointer (some ⟨b, o, none⟩)) := B4 (i := 0) B1q rfl ⟨_, _, _, _, x5⟩ b o
@[simp] theorem D1q (b o : Nat) (K : Value → WP) : A0 PR (Instr.fieldAt 226 (.pointer (some ⟨b, o, none⟩)) 1) K = K (.pointer (some ⟨b, o + 1, none⟩)) := B4 (i := 1) B1q rfl ⟨_, _, _, _, x5⟩ b o
@[simp] theorem D1L (b o : Nat) (K : Value → WP) : A0 PR (Instr.fieldAt 226 (.pointer (some ⟨b, o, none⟩)) 2) K = K (.pointer (some ⟨b, o + 2, none⟩)) := B4 (i := 2) B1q rfl ⟨_, _, _, _, G9⟩ b o
@[simp] theorem D2q (b o : Nat) (K : Value → WP) : A0 PR (Instr.fieldAt 23 (.pointer (some ⟨b, o, none⟩)) 0) K = K (.pointer (some ⟨b, o, none⟩)) := B4 (i := 0) A3r rfl ⟨_, _, _, _, G9⟩ b o
@[simp] theorem D4K (b o : Nat) (K : Value → WP) : A0 PR (Instr.fieldAt 23 (.pointer (some ⟨b, o, none⟩)) 1) K = K (.pointer (some ⟨b, o + 1, none⟩)) := B4 (i := 1) A3r rfl ⟨_, _, _, _, G9⟩ b o
@[simp] theorem D3Z (b o : Nat) (K : Value → WP) : A0 PR (Instr.fieldAt 23 (.pointer (some ⟨b, o, none⟩)) 2) K = K (.pointer (some ⟨b, o + 2, none⟩)) := B4 (i := 2) A3r rfl ⟨_, _, _, _, G9⟩ b o
@[simp] theorem D34 (b o : Nat) (K : Value → WP) : A0 PR (Instr.fieldAt 23 (.pointer (some ⟨b, o, none⟩)) 3) K = K (.pointer (some ⟨b, o + 3, none⟩)) := B4 (i := 3) A3r rfl ⟨_, _, _, _, G9⟩ b o
@[simp] theorem D3m (b o : Nat) (K : Value → WP) : A0 PR (Instr.fieldAt 23 (.pointer (some ⟨b, o, none⟩)) 4) K = K (.pointer (some ⟨b, o + 4, none⟩)) := B4 (i := 4) A3r rfl ⟨_, _, _, _, G9⟩ b o
theorem B3N : TI PR 229 Tryz.t229.desc 1 24 (.slice none 0 0) := ⟨Tryz.underlying229, Tryz.t229, by kernel_rfl, rfl, rfl, rfl⟩
@[simp] theorem D14 (b o : Nat) (K : Value → WP) : A0 PR (Instr.fieldAt 231 (.pointer (some ⟨b, o, none⟩)) 0) K = K (.pointer (some ⟨b, o, none⟩)) := B4 (i := 0) C6U rfl ⟨_, _, _, _, B3N⟩ b o
@[simp] theorem D0K (b o : Nat) (K : Value → WP) : A0 PR (Instr.fieldAt 270 (.pointer (some ⟨b, o, none⟩)) 0) K = K (.pointer (some ⟨b, o, none⟩)) := B4 (i := 0) A73 rfl ⟨_, _, _, _, G9⟩ b o
@[simp] theorem D1n (b o : Nat) (K : Value → WP) : A0 PR (Instr.fieldAt 284 (.pointer (some ⟨b, o, none⟩)) 0) K = K (.pointer (some ⟨b, o, none⟩)) := B4 (i := 0) A80 rfl ⟨_, _, _, _, B0N⟩ b o
@[simp] theorem D0c (b o : Nat) (K : Value → WP) : A0 PR (Instr.fieldAt 284 (.pointer (some ⟨b, o, none⟩)) 1) K = K (.pointer (some ⟨b, o + 1, none⟩)) := B4 (i := 1) A80 rfl ⟨_, _, _, _, G9⟩ b o
@[simp] theorem D0J (b o : Nat) (K : Value → WP) : A0 PR (Instr.fieldAt 290 (.pointer (some ⟨b, o, none⟩)) 0) K = K (.pointer (some ⟨b, o, none⟩)) := B4 (i := 0) B63 rfl ⟨_, _, _, _, B0N⟩ b o
@[simp] theorem D1r (b o : Nat) (K : Value → WP) : A0 PR (Instr.fieldAt 290 (.pointer (some ⟨b, o, none⟩)) 1) K = K (.pointer (some ⟨b, o + 1, none⟩)) := B4 (i := 1) B63 rfl ⟨_, _, _, _, G9⟩ b o
@[simp] theorem D1v (b o : Nat) (K : Value → WP) : A0 PR (Instr.fieldAt 303 (.pointer (some ⟨b, o, none⟩)) 0) K = K (.pointer (some ⟨b, o, none⟩)) := B4 (i := 0) B1x rfl ⟨_, _, _, _, B64⟩ b o
@[simp] theorem D2P (b o : Nat) (K : Value → WP) : A0 PR (Instr.fieldAt 303 (.pointer (some ⟨b, o, none⟩)) 1) K = K (.pointer (some ⟨b, o + 1, none⟩)) := B4 (i := 1) B1x rfl ⟨_, _, _, _, A4F⟩ b o
@[simp] theorem D0j (b o : Nat) (K : Value → WP) : A0 PR (Instr.fieldAt 305 (.pointer (some ⟨b, o, none⟩)) 0) K = K (.pointer (some ⟨b, o, none⟩)) := B4 (i := 0) C6s rfl ⟨_, _, _, _, B1x⟩ b o
theorem C86 : TI PR 24 Tryz.t24.desc 1 8 .nilFunc := ⟨Tryz.underlying24, Tryz.t24, by kernel_rfl, rfl, rfl, rfl⟩
@[simp] theorem D1j (b o : Nat) (K : Value → WP) : A0 PR (Instr.fieldAt 330 (.pointer (some ⟨b, o, none⟩)) 0) K = K (.pointer (some ⟨b, o, none⟩)) := B4 (i := 0) B1l rfl ⟨_, _, _, _, C86⟩ b o
@[simp] theorem D2K (b o : Nat) (K : Value → WP) : A0 PR (Instr.fieldAt 330 (.pointer (some ⟨b, o, none⟩)) 1) K = K (.pointer (some ⟨b, o + 1, none⟩)) := B4 (i := 1) B1l rfl ⟨_, _, _, _, B23⟩ b o
@[simp] theorem D3u (b o : Nat) (K : Value → WP) : A0 PR (Instr.fieldAt 39 (.pointer (some ⟨b, o, none⟩)) 0) K = K (.pointer (some ⟨b, o, none⟩)) := B4 (i := 0) B1F rfl ⟨_, _, _, _, A3r⟩ b o
@[simp] theorem D3S (b o : Nat) (K : Value → WP) : A0 PR (Instr.fieldAt 39 (.pointer (some ⟨b, o, none⟩)) 1) K = K (.pointer (some ⟨b, o + 5, none⟩)) := B4 (i := 1) B1F rfl ⟨_, _, _, _, C4Z⟩ b o
@[simp] theorem D22 (b o : Nat) (K : Value → WP) : A0 PR (Instr.fieldAt 39 (.pointer (some ⟨b, o, none⟩)) 2) K = K (.pointer (some ⟨b, o + 6, none⟩)) := B4 (i := 2) B1F rfl ⟨_, _, _, _, C5j⟩ b o
@[simp] theorem D3y (b o : Nat) (K : Value → WP) : A0 PR (Instr.fieldAt 39 (.pointer (some ⟨b, o, none⟩)) 3) K = K (.pointer (some ⟨b, o + 7, none⟩)) := B4 (i := 3) B1F rfl ⟨_, _, _, _, C4c⟩ b o
@[simp] theorem D2n (b o : Nat) (K : Value → WP) : A0 PR (Instr.fieldAt 39 (.pointer (some ⟨b, o, none⟩)) 4) K = K (.pointer (some ⟨b, o + 8, none⟩)) := B4 (i := 4) B1F rfl ⟨_, _, _, _, B8l⟩ b o
@[simp] theorem D2W (b o : Nat) (K : Value → WP) : A0 PR (Instr.fieldAt 39 (.pointer (some ⟨b, o, none⟩)) 5) K = K (.pointer (some ⟨b, o + 9, none⟩)) := B4 (i := 5) B1F rfl ⟨_, _, _, _, A8U⟩ b o
@[simp] theorem D3F (b o : Nat) (K : Value → WP) : A0 PR (Instr.fieldAt 39 (.pointer (some ⟨b, o, none⟩)) 6) K = K (.pointer (some ⟨b, o + 10, none⟩)) := B4 (i := 6) B1F rfl ⟨_, _, _, _, G9⟩ b o
@[simp] theorem D3s (b o : Nat) (K : Value → WP) : A0 PR (Instr.fieldAt 45 (.pointer (some ⟨b, o, none⟩)) 0) K = K (.pointer (some ⟨b, o, none⟩)) := B4 (i := 0) A4n rfl ⟨_, _, _, _, G9⟩ b o
@[simp] theorem D4F (b o : Nat) (K : Value → WP) : A0 PR (Instr.fieldAt 45 (.pointer (some ⟨b, o, none⟩)) 1) K = K (.pointer (some ⟨b, o + 1, none⟩)) := B4 (i := 1) A4n rfl ⟨_, _, _, _, x5⟩ b o
@[simp] theorem D3C (b o : Nat) (K : Value → WP) : A0 PR (Instr.fieldAt 45 (.pointer (some ⟨b, o, none⟩)) 2) K = K (.pointer (some ⟨b, o + 2, none⟩)) := B4 (i := 2) A4n rfl ⟨_, _, _, _, x5⟩ b o
@[simp] theorem D4C (b o : Nat) (K : Value → WP) : A0 PR (Instr.fieldAt 45 (.pointer (some ⟨b, o, none⟩)) 3) K = K (.pointer (some ⟨b, o + 3, none⟩)) := B4 (i := 3) A4n rfl ⟨_, _, _, _, G9⟩ b o
@[simp] theorem D36 (b o : Nat) (K : Value → WP) : A0 PR (Instr.fieldAt 45 (.pointer (some ⟨b, o, none⟩)) 4) K = K (.pointer (some ⟨b, o + 4, none⟩)) := B4 (i := 4) A4n rfl ⟨_, _, _, _, G9⟩ b o
@[simp] theorem D4A (b o : Nat) (K : Value → WP) : A0 PR (Instr.fieldAt 45 (.pointer (some ⟨b, o, none⟩)) 5) K = K (.pointer (some ⟨b, o + 5, none⟩)) := B4 (i := 5) A4n rfl ⟨_, _, _, _, G9⟩ b o
@[simp] theorem D3r (b o : Nat) (K : Value → WP) : A0 PR (Instr.fieldAt 47 (.pointer (some ⟨b, o, none⟩)) 0) K = K (.pointer (some ⟨b, o, none⟩)) := B4 (i := 0) B4q rfl ⟨_, _, _, _, A4n⟩ b o
@[simp] theorem D2g (b o : Nat) (K : Value → WP) : A0 PR (Instr.fieldAt 47 (.pointer (some ⟨b, o, none⟩)) 1) K = K (.pointer (some ⟨b, o + 6, none⟩)) := B4 (i := 1) B4q rfl ⟨_, _, _, _, G9⟩ b o
@[simp] theorem D2u (b o : Nat) (K : Value → WP) : A0 PR (Instr.fieldAt 55 (.pointer (some ⟨b, o, none⟩)) 0) K = K (.pointer (some ⟨b, o, none⟩)) := B4 (i := 0) A6G rfl ⟨_, _, _, _, B23⟩ b o
@[simp] theorem D3j (b o : Nat) (K : Value → WP) : A0 PR (Instr.fieldAt 55 (.pointer (some ⟨b, o, none⟩)) 3) K = K (.pointer (some ⟨b, o + 3, none⟩)) := B4 (i := 3) A6G rfl ⟨_, _, _, _, G9⟩ b o
@[simp] theorem D4J (b o : Nat) (K : Value → WP) : A0 PR (Instr.fieldAt 64 (.pointer (some ⟨b, o, none⟩)) 0) K = K (.pointer (some ⟨b, o, none⟩)) := B4 (i := 0) B3J rfl ⟨_, _, _, _, G9⟩ b o
@[simp] theorem D3H (b o : Nat) (K : Value → WP) : A0 PR (Instr.fieldAt 64 (.pointer (some ⟨b, o, none⟩)) 1) K = K (.pointer (some ⟨b, o + 1, none⟩)) := B4 (i := 1) B3J rfl ⟨_, _, _, _, x5⟩ b o
@[simp] theorem D2d (b o : Nat) (K : Value → WP) : A0 PR (Instr.fieldAt 64 (.pointer (some ⟨b, o, none⟩)) 2) K = K (.pointer (some ⟨b, o + 2, none⟩)) := B4 (i := 2) B3J rfl ⟨_, _, _, _, B08⟩ b o
@[simp] theorem D2l (b o : Nat) (K : Value → WP) : A0 PR (Instr.fieldAt 64 (.pointer (some ⟨b, o, none⟩)) 3) K = K (.pointer (some ⟨b, o + 3, none⟩)) := B4 (i := 3) B3J rfl ⟨_, _, _, _, G9⟩ b o
@[simp] theorem D3Q (b o : Nat) (K : Value → WP) : A0 PR (Instr.fieldAt 79 (.pointer (some ⟨b, o, none⟩)) 0) K = K (.pointer (some ⟨b, o, none⟩)) := B4 (i := 0) B5N rfl ⟨_, _, _, _, G9⟩ b o
@[simp] theorem D2Y (b o : Nat) (K : Value → WP) : A0 PR (Instr.fieldAt 79 (.pointer (some ⟨b, o, none⟩)) 1) K = K (.pointer (some ⟨b, o + 1, none⟩)) := B4 (i := 1) B5N rfl ⟨_, _, _, _, G9⟩ b o
@[simp] theorem D4D (b o : Nat) (K : Value → WP) : A0 PR (Instr.fieldAt 79 (.pointer (some ⟨b, o, none⟩)) 2) K = K (.pointer (some ⟨b, o + 2, none⟩)) := B4 (i := 2) B5N rfl ⟨_, _, _, _, B08⟩ b o
theorem g6 {k1 : IntKind} {i : Int} {s : ByteArray} {b : UInt8} (h0 : 0 ≤ i) (h1 : s[i.toNat]? = some b) (K : Value → WP) : A0 PR (Instr.index 9 (.string s) (.int k1 i)) K = K (.int .u8 b.toNat) := C5k x5 h0 h1
@[simp] theorem D4P {k : IntKind} {i : Int} {len cap : Nat} (h0 : 0 ≤ i) (h1 : i < len) (b o : Nat) (K : Value → WP) : A0 PR (Instr.indexAt 103 (.slice (some ⟨b, o, none⟩) len cap) (.int k i)) K = K (.pointer (some ⟨b, o + i.toNat * 2, none⟩)) := (P5 (K := K) B4j A73 h0 h1 b o)
theorem C60 : TI PR 143 Tryz.t143.desc 1 8 .nilFunc := ⟨Tryz.underlying143, Tryz.t143, by kernel_rfl, rfl, rfl, rfl⟩
@[simp] theorem D5J {k : IntKind} {i : Int} (h0 : 0 ≤ i) (h1 : i < (10 : Nat)) (b o : Nat) (K : Value → WP) : A0 PR (Instr.indexAt 144 (.pointer (some ⟨b, o, none⟩)) (.int k i)) K = K (.pointer (some ⟨b, o + i.toNat, none⟩)) := (by simpa using A8c (K := K) C6m C60 h0 h1 b o)
@[simp] theorem D4p {k : IntKind} {i : Int} (h0 : 0 ≤ i) (h1 : i < (2 : Nat)) (b o : Nat) (K : Value → WP) : A0 PR (Instr.indexAt 158 (.pointer (some ⟨b, o, none⟩)) (.int k i)) K = K (.pointer (some ⟨b, o + i.toNat, none⟩)) := (by simpa using A8c (K := K) B33 G9 h0 h1 b o)
@[simp] theorem D4z {k : IntKind} {i : Int} {len cap : Nat} (h0 : 0 ≤ i) (h1 : i < len) (b o : Nat) (K : Value → WP) : A0 PR (Instr.indexAt 208 (.slice (some ⟨b, o, none⟩) len cap) (.int k i)) K = K (.pointer (some ⟨b, o + i.toNat * 2, none⟩)) := (P5 (K := K) B4Y B62 h0 h1 b o)
theorem C00 : TI PR 215 Tryz.t215.desc 1 8 .nilFunc := ⟨Tryz.underlying215, Tryz.t215, by kernel_rfl, rfl, rfl, rfl⟩
@[simp] theorem D4r {k : IntKind} {i : Int} (h0 : 0 ≤ i) (h1 : i < (4 : Nat)) (b o : Nat) (K : Value → WP) : A0 PR (Instr.indexAt 216 (.pointer (some ⟨b, o, none⟩)) (.int k i)) K = K (.pointer (some ⟨b, o + i.toNat, none⟩)) := (by simpa using A8c (K := K) C10 C00 h0 h1 b o)
@[simp] theorem D5H {k : IntKind} {i : Int} {len cap : Nat} (h0 : 0 ≤ i) (h1 : i < len) (b o : Nat) (K : Value → WP) : A0 PR (Instr.indexAt 228 (.slice (some ⟨b, o, none⟩) len cap) (.int k i)) K = K (.pointer (some ⟨b, o + i.toNat, none⟩)) := (by simpa using P5 (K := K) C1V C0c h0 h1 b o)
theorem C0p : TI PR 266 Tryz.t265.desc 1 16 .nilIface := ⟨Tryz.underlying266, Tryz.t266, by kernel_rfl, rfl, rfl, rfl⟩
@[simp] theorem D5N {k : IntKind} {i : Int} {len cap : Nat} (h0 : 0 ≤ i) (h1 : i < len) (b o : Nat) (K : Value → WP) : A0 PR (Instr.indexAt 229 (.slice (some ⟨b, o, none⟩) len cap) (.int k i)) K = K (.pointer (some ⟨b, o + i.toNat, none⟩)) := (by simpa using P5 (K := K) B3N C0p h0 h1 b o)
@[simp] theorem D4x {k : IntKind} {i : Int} {len cap : Nat} (h0 : 0 ≤ i) (h1 : i < len) (b o : Nat) (K : Value → WP) : A0 PR (Instr.indexAt 259 (.slice (some ⟨b, o, none⟩) len cap) (.int k i)) K = K (.pointer (some ⟨b, o + i.toNat * 2, none⟩)) := (P5 (K := K) C1z B33 h0 h1 b o)
theorem C0l : TI PR 279 Tryz.t193.desc 1 24 (.slice none 0 0) := ⟨Tryz.underlying279, Tryz.t279, by kernel_rfl, rfl, rfl, rfl⟩
@[simp] theorem D4q {k : IntKind} {i : Int} {len cap : Nat} (h0 : 0 ≤ i) (h1 : i < len) (b o : Nat) (K : Value → WP) : A0 PR (Instr.indexAt 279 (.slice (some ⟨b, o, none⟩) len cap) (.int k i)) K = K (.pointer (some ⟨b, o + i.toNat * 2, none⟩)) := (P5 (K := K) C0l B63 h0 h1 b o)
@[simp] theorem D4k {k : IntKind} {i : Int} {len cap : Nat} (h0 : 0 ≤ i) (h1 : i < len) (b o : Nat) (K : Value → WP) : A0 PR (Instr.indexAt 281 (.slice (some ⟨b, o, none⟩) len cap) (.int k i)) K = K (.pointer (some ⟨b, o + i.toNat * 2, none⟩)) := (P5 (K := K) B65 A80 h0 h1 b o)
@[simp] theorem D5G {k : IntKind} {i : Int} {len cap : Nat} (h0 : 0 ≤ i) (h1 : i < len) (b o : Nat) (K : Value → WP) : A0 PR (Instr.indexAt 301 (.slice (some ⟨b, o, none⟩) len cap) (.int k i)) K = K (.pointer (some ⟨b, o + i.toNat, none⟩)) := (by simpa using P5 (K := K) A4F ty5 h0 h1 b o)
@[simp] theorem D41 {k : IntKind} {i : Int} {len cap : Nat} (h0 : 0 ≤ i) (h1 : i < len) (b o : Nat) (K : Value → WP) : A0 PR (Instr.indexAt 324 (.slice (some ⟨b, o, none⟩) len cap) (.int k i)) K = K (.pointer (some ⟨b, o + i.toNat * 4, none⟩)) := (P5 (K := K) C0x A13 h0 h1 b o)
@[simp] theorem D5b {k : IntKind} {i : Int} {len cap : Nat} (h0 : 0 ≤ i) (h1 : i < len) (b o : Nat) (K : Value → WP) : A0 PR (Instr.indexAt 36 (.slice (some ⟨b, o, none⟩) len cap) (.int k i)) K = K (.pointer (some ⟨b, o + i.toNat, none⟩)) := (by simpa using P5 (K := K) B8l A8l h0 h1 b o)
@[simp] theorem D5Y {k : IntKind} {i : Int} {len cap : Nat} (h0 : 0 ≤ i) (h1 : i < len) (b o : Nat) (K : Value → WP) : A0 PR (Instr.indexAt 37 (.slice (some ⟨b, o, none⟩) len cap) (.int k i)) K = K (.pointer (some ⟨b, o + i.toNat, none⟩)) := (by simpa using P5 (K := K) A8U G9 h0 h1 b o)
@[simp] theorem D4N {k : IntKind} {i : Int} {len cap : Nat} (h0 : 0 ≤ i) (h1 : i < len) (b o : Nat) (K : Value → WP) : A0 PR (Instr.indexAt 375 (.slice (some ⟨b, o, none⟩) len cap) (.int k i)) K = K (.pointer (some ⟨b, o + i.toNat * 2, none⟩)) := (P5 (K := K) C16 B1l h0 h1 b o)
@[simp] theorem D5S {k : IntKind} {i : Int} {len cap : Nat} (h0 : 0 ≤ i) (h1 : i < len) (b o : Nat) (K : Value → WP) : A0 PR (Instr.indexAt 51 (.slice (some ⟨b, o, none⟩) len cap) (.int k i)) K = K (.pointer (some ⟨b, o + i.toNat, none⟩)) := (by simpa using P5 (K := K) C6D x5 h0 h1 b o)
@[simp] theorem D5W {k : IntKind} {i : Int} {len cap : Nat} (h0 : 0 ≤ i) (h1 : i < len) (b o : Nat) (K : Value → WP) : A0 PR (Instr.indexAt 58 (.slice (some ⟨b, o, none⟩) len cap) (.int k i)) K = K (.pointer (some ⟨b, o + i.toNat * 2, none⟩)) := (P5 (K := K) B08 B1r h0 h1 b o)
@[simp] theorem D5d {k : IntKind} {i : Int} {len cap : Nat} (h0 : 0 ≤ i) (h1 : i < len) (b o : Nat) (K : Value → WP) : A0 PR (Instr.indexAt 84 (.slice (some ⟨b, o, none⟩) len cap) (.int k i)) K = K (.pointer (some ⟨b, o + i.toNat * 4, none⟩)) := (P5 (K := K) A8l A13 h0 h1 b o)
@[simp] theorem D3z (a : Option Addr) (n c : Nat) (K : Value → WP) : A0 PR (A8 .len #[103] 0 [.slice a n c]) K = K (.int .i64 n) := p6 B4j a n c
@[simp] theorem D3c (a : Option Addr) (n c : Nat) (K : Value → WP) : A0 PR (A8 .len #[192] 0 [.slice a n c]) K = K (.int .i64 n) := p6 C13 a n c
@[simp] theorem D3P (a : Option Addr) (n c : Nat) (K : Value → WP) : A0 PR (A8 .len #[208] 0 [.slice a n c]) K = K (.int .i64 n) := p6 B4Y a n c
@[simp] theorem D37 (a : Option Addr) (n c : Nat) (K : Value → WP) : A0 PR (A8 .len #[228] 0 [.slice a n c]) K = K (.int .i64 n) := p6 C1V a n c
@[simp] theorem D3A (a : Option Addr) (n c : Nat) (K : Value → WP) : A0 PR (A8 .len #[229] 0 [.slice a n c]) K = K (.int .i64 n) := p6 B3N a n c
@[simp] theorem D35 (a : Option Addr) (n c : Nat) (K : Value → WP) : A0 PR (A8 .len #[259] 0 [.slice a n c]) K = K (.int .i64 n) := p6 C1z a n c
@[simp] theorem D2b (a : Option Addr) (n c : Nat) (K : Value → WP) : A0 PR (A8 .len #[279] 0 [.slice a n c]) K = K (.int .i64 n) := p6 C0l a n c
@[simp] theorem D3N (a : Option Addr) (n c : Nat) (K : Value → WP) : A0 PR (A8 .len #[281] 0 [.slice a n c]) K = K (.int .i64 n) := p6 B65 a n c
@[simp] theorem D2v (a : Option Addr) (n c : Nat) (K : Value → WP) : A0 PR (A8 .len #[301] 0 [.slice a n c]) K = K (.int .i64 n) := p6 A4F a n c
@[simp] theorem D3M (a : Option Addr) (n c : Nat) (K : Value → WP) : A0 PR (A8 .len #[324] 0 [.slice a n c]) K = K (.int .i64 n) := p6 C0x a n c
@[simp] theorem D4M (a : Option Addr) (n c : Nat) (K : Value → WP) : A0 PR (A8 .len #[37] 0 [.slice a n c]) K = K (.int .i64 n) := p6 A8U a n c
@[simp] theorem D3D (a : Option Addr) (n c : Nat) (K : Value → WP) : A0 PR (A8 .len #[375] 0 [.slice a n c]) K = K (.int .i64 n) := p6 C16 a n c
@[simp] theorem D5M (a : Option Addr) (n c : Nat) (K : Value → WP) : A0 PR (A8 .len #[51] 0 [.slice a n c]) K = K (.int .i64 n) := p6 C6D a n c
@[simp] theorem D5D (a : Option Addr) (n c : Nat) (K : Value → WP) : A0 PR (A8 .len #[58] 0 [.slice a n c]) K = K (.int .i64 n) := p6 B08 a n c
@[simp] theorem D44 (a : Option Addr) (n c : Nat) (K : Value → WP) : A0 PR (A8 .len #[84] 0 [.slice a n c]) K = K (.int .i64 n) := p6 A8l a n c
@[simp] theorem D5m (s : ByteArray) (K : Value → WP) : A0 PR (A8 .len #[9] 0 [.string s]) K = K (.int .i64 s.size) := C8d x5 s
@[simp] theorem D5y (a : Addr) (K : Value → WP) (w : World) : A6 PR (Instr.loadAt 3 (.pointer (some a))) K w = rdc (w.cell? a) K (far PR 3 a K) w := B7z G9 rfl a
@[simp] theorem D5j (a : Addr) (K : Value → WP) (w : World) : A6 PR (Instr.loadAt 89 (.pointer (some a))) K w = rdc (w.cell? a) K (far PR 89 a K) w := B7z B0N rfl a
@[simp] theorem D4d (v : Value) (K : Value → WP) : A0 PR (Instr.makeInterface 195 v) K = K (.iface 195 v) := A5c A5u (by intro ms h; cases h) v
@[simp] theorem D4a (v : Value) (K : Value → WP) : A0 PR (Instr.makeInterface 263 v) K = K (.iface 263 v) := A5c B1m (by intro ms h; cases h) v
@[simp] theorem D5C (v : Value) (K : Value → WP) : A0 PR (Instr.makeInterface 333 v) K = K (.iface 333 v) := A5c C6u (by intro ms h; cases h) v
@[simp] theorem D4Q (v : Value) (K : Value → WP) : A0 PR (Instr.makeInterface 334 v) K = K (.iface 334 v) := A5c C6y (by intro ms h; cases h) v
@[simp] theorem D0T (b o : Nat) (K : Value → WP) : A0 PR (Instr.sliceAt 355 (.pointer (some ⟨b, o, none⟩)) none none none) K = K (.slice (some ⟨b, o, none⟩) 38 38) := C4F C1E ty5 b o
@[simp] theorem D5U {k1 : IntKind} {hi : Int} {s : ByteArray} (h0 : 0 ≤ hi) (h1 : hi ≤ s.size) (K : Value → WP) : A0 PR (Instr.sliceAt 9 (.string s) none (some (.int k1 hi)) none) K = K (.string (s.extract 0 hi.toNat)) := C4G x5 h0 h1
@[simp] theorem D5f {k1 : IntKind} {lo : Int} {s : ByteArray} (h0 : 0 ≤ lo) (h1 : lo ≤ s.size) (K : Value → WP) : A0 PR (Instr.sliceAt 9 (.string s) (some (.int k1 lo)) none none) K = K (.string (s.extract lo.toNat s.size)) := C2n x5 h0 h1
@[simp] theorem D5r {k1 k2 : IntKind} {lo hi : Int} {s : ByteArray} (h0 : 0 ≤ lo) (h1 : lo ≤ hi) (h2 : hi ≤ s.size) (K : Value → WP) : A0 PR (Instr.sliceAt 9 (.string s) (some (.int k1 lo)) (some (.int k2 hi)) none) K = K (.string (s.extract lo.toNat hi.toNat)) := C5w x5 h0 h1 h2
theorem C6N : TI PR 156 Tryz.t156.desc 1 8 (.map none) := ⟨Tryz.underlying156, Tryz.t156, by kernel_rfl, rfl, rfl, rfl⟩
theorem B68 : TI PR 250 Tryz.t249.desc 1 16 .nilIface := ⟨Tryz.underlying250, Tryz.t250, by kernel_rfl, rfl, rfl, rfl⟩
theorem B66 : TI PR 251 Tryz.t251.desc 1 8 (.map none) := ⟨Tryz.underlying251, Tryz.t251, by kernel_rfl, rfl, rfl, rfl⟩
end Go.Proofs.YtjobgnabneddjaaGreat
namespace Go.Proofs.YtjobgnabneddjaaGreat
open Go
@[simp] theorem C3n (a b : ByteArray) : (a == b) = decide (a = b) := by
 obtain ⟨x⟩ := a; obtain ⟨y⟩ := b
 have h : ((⟨x⟩ : ByteArray) == ⟨y⟩) = (x == y) := rfl
 rw [h]
 by_cases e : x = y
 ·subst e; simp
 ·simp [e]
@[simp] theorem D0E (a : Array UInt8) : (ByteArray.mk a).size = a.size := rfl
theorem B71 (ns : List Int) : (A4P ns).data.toList = ns.map fun n => UInt8.ofNat n.toNat := by
 have : ∀ (l : List Int) (r : ByteArray), (l.foldl (fun r n => r.push (UInt8.ofNat n.toNat)) r).data.toList = r.data.toList ++ l.map fun n => UInt8.ofNat n.toNat := by
  intro l
  induction l with
  | nil => intro r; simp
  | cons x l ih => intro r; rw [List.foldl_cons, ih]; simp [ByteArray.push]
 have h := this ns ByteArray.empty
 rw [show ByteArray.empty.data.toList = [] from rfl, List.nil_append] at h
 exact h
@[simp] theorem C9K (ns : List Int) : (A4P ns).size = ns.length := by
 have := congrArg List.length (B71 ns)
 rw [List.length_map] at this
 exact this
class TS (t : TypeId) (z : outParam Value) : Prop where
 ti : ∃ d m, TI PR t d 1 m z ∧ Q7 d = false
class TG (t : TypeId) (n : outParam Nat) (z : outParam Value) : Prop where
 ti : ∃ d m, TI PR t d n m z ∧ Q7 d = true
class TA (t : TypeId) (n : outParam Nat) (z : outParam Value) : Prop where
 ti : ∃ d m, TI PR t d n m z
class SL (t : TypeId) (e : outParam TypeId) (k by' : outParam Nat) (z : outParam Value) : Prop where
 ti : (∃ n m z', TI PR t (.slice e) n m z') ∧ (∃ d, TI PR e d k by' z) ∧ z.cells.size = k
instance TS.ta {t : TypeId} {z : Value} [h : TS t z] : TA t 1 z := ⟨let ⟨d, m, h, _⟩ := h.ti; ⟨d, m, h⟩⟩
instance TG.ta {t : TypeId} {n : Nat} {z : Value} [h : TG t n z] : TA t n z := ⟨let ⟨d, m, h, _⟩ := h.ti; ⟨d, m, h⟩⟩
def rdq (x : Option (List Value)) (G : List Value → WP) (F : WP) : WP := match x with | some l => G l | none => F
@[simp] theorem B3L (l : List Value) (G : List Value → WP) (F : WP) : rdq (some l) G F = G l := id rfl
@[congr] theorem D3q {x x' : Option (List Value)} {G : List Value → WP} {F : WP} (h : x = x') {q : Nat} (hq : Z3 = q) : rdq x G F = rdq x' G F := by rw [h]
@[simp] theorem D4s (xs : List Value) : V1 xs 0 0 = some [] := by simp [V1]
@[simp] theorem D17 (x : Value) (xs : List Value) (n : Nat) : V1 (x :: xs) 0 (n + 1) = (V1 xs 0 n).map (x :: ·) := by
 simp only [V1, Nat.zero_add, List.length_cons, List.drop_zero, List.take_succ_cons]
 by_cases h : n ≤ xs.length
 ·rw [if_pos h, if_pos (by omega)]; rfl
 ·rw [if_neg h, if_neg (by omega)]; rfl
theorem B6E {α : Type} {l : List α} {f : α → List Value} {k i : Nat} {x : α} (hk : ∀ x, (f x).length = k) (hx : l[i]? = some x) : V1 (l.flatMap f) (i * k) k = some (f x) := by
 obtain ⟨hlt, hx'⟩ := List.getElem?_eq_some_iff.1 hx
 have h1 : (i + 1) * k ≤ l.length * k := Nat.mul_le_mul_right k hlt
 rw [Nat.add_mul] at h1
 rw [V1, if_pos (by rw [L4 hk]; omega), B01 hk, List.drop_eq_getElem_cons hlt, List.flatMap_cons, hx']
 rw [List.take_left' (hk x)]
inductive Sel (r : Res) : List Res → List Res → Prop where
 | here {H : List Res} : Sel r (r :: H) H
 | there {x : Res} {H H' : List Res} : Sel r H H' → Sel r (x :: H) (x :: H')
theorem Sel.perm {r : Res} {H Hr : List Res} (h : Sel r H Hr) : H.Perm (r :: Hr) := by
 induction h with
 | here => exact .refl _
 | there _ ih => exact (ih.cons _).trans (.swap ..)
theorem Sel.sub {r : Res} {H Hr : List Res} (h : Sel r H Hr) : Hr.Sublist H := by
 induction h with
 | here => exact List.sublist_cons_self ..
 | there _ ih => exact ih.cons_cons _
theorem A1 {r : Res} {H : List Res} : r ∈ r :: H := List.mem_cons_self ..
theorem uH {r r' : Res} {H : List Res} : Up r r' (r :: H) (r' :: H) := Up.here
theorem uT {r r' x : Res} {H H' : List Res} (h : Up r r' H H') : Up r r' (x :: H) (x :: H') := Up.there h
theorem A2 {r x : Res} {H : List Res} (h : r ∈ H) : r ∈ x :: H := List.mem_cons_of_mem _ h
inductive Sels : List Res → List Res → Prop where
 | nil {H : List Res} : Sels [] H
 | cons {r : Res} {rs H Hr : List Res} : Sel r H Hr → Sels rs Hr → Sels (r :: rs) H
theorem Sels.sub {rs H : List Res} (h : Sels rs H) : ∃ H', H.Perm H' ∧ rs.Sublist H' := by
 induction h with
 | nil => exact ⟨_, .refl _, List.nil_sublist _⟩
 | cons h1 _ ih => obtain ⟨H', h2, h3⟩ := ih; exact ⟨_ :: H', h1.perm.trans (h2.cons _), h3.cons_cons _⟩
theorem Sels.lw {κ : Bool} {S : List Nat} {w0 w : World} {rs H : List Res} (h : Sels rs H) (hw : LW κ S w0 H w) : LW κ S w0 rs w := let ⟨_, h1, h2⟩ := h.sub; (hw.perm h1).sub h2
theorem Sels.tw {κ : Bool} {S : List Nat} {w0 : World} {rs H : List Res} {K : WP} (h : Sels rs H) (hk : TW κ S w0 rs K) : TW κ S w0 H K := fun w hw => hk w (h.lw hw)
inductive Part : List Res → List Res → List Res → Prop where
 | nil {H : List Res} : Part [] H H
 | cons {r : Res} {rs H H1 Hk : List Res} : Sel r H H1 → Part rs H1 Hk → Part (r :: rs) H Hk
theorem Part.perm {Hc H Hk : List Res} (h : Part Hc H Hk) : H.Perm (Hc ++ Hk) := by
 induction h with
 | nil => exact .refl _
 | cons h1 _ ih => exact h1.perm.trans (ih.cons _)
theorem D0 {κ : Bool} {X : Nat → Prop} {S : List Nat} {w0 : World} {H Hk Hc : List Res} {K : Value → WP} {f : FuncId} {args : List Value} {α : Type} {φ : α → Value → Prop} {Hn : α → List Res} (he : A9 PR f)
  (hf : ∀ w, LW κ S w0 (Hc ++ Hk) w → LW false (B6 Hc) w Hc w → Fn PR C0 f args.toArray w (Rn (B6 Hc) w φ Hn)) (hp : Part Hc H Hk) (hK : ∀ a v, φ a v → TW κ S w0 (Hn a ++ Hk) (K v)) : TW κ S w0 H (B5 PR X f args K) :=
 B3Q he hp.perm (fun w hw => let h := hw.perm hp.perm; hf w h (h.sub (List.sublist_append_left _ _)).self) hK
theorem B1 {κ : Bool} {S : List Nat} {w0 : World} {H : List Res} {α : Type} {φ : α → Value → Prop} {Hn : α → List Res} {v : Value} (a : α) (h : φ a v) (hs : Sels (Hn a) H) : TW κ S w0 H (Rn S w0 φ Hn v) := fun w hw => ⟨a, h, hs.lw hw.low⟩
theorem C0b {κ : Bool} {S : List Nat} {w0 : World} {H : List Res} {F : Value → WP} {A : (Value → WP) → WP} {α : Type} (φ : α → Prop) (Hh : α → List Res) (v1 : α → Value) (hF : ∀ x, φ x → TW κ S w0 (Hh x) (F (v1 x)))
  (hA : ∀ J : Value → WP, (∀ x, φ x → TW κ S w0 (Hh x) (J (v1 x))) → TW κ S w0 H (A J)) : TW κ S w0 H (kt (n := 1) F A) := hA F hF
theorem C1D {κ : Bool} {S : List Nat} {w0 : World} {H : List Res} {F : Value → Value → WP} {A : (Value → Value → WP) → WP} {α : Type} (φ : α → Prop) (Hh : α → List Res) (v1 v2 : α → Value) (hF : ∀ x, φ x → TW κ S w0 (Hh x) (F (v1 x) (v2 x)))
  (hA : ∀ J : Value → Value → WP, (∀ x, φ x → TW κ S w0 (Hh x) (J (v1 x) (v2 x))) → TW κ S w0 H (A J)) : TW κ S w0 H (kt (n := 2) F A) := hA F hF
theorem F9.form {w : World} {v : Value} {n : Nat} {xs : List Value} (h : F9 w v n xs) : ∃ a c, v = .slice a n c ∧ (0 < n → ∃ b o, a = some ⟨b, o, none⟩ ∧ N8 w b o xs) := by
 rcases h with ⟨rfl, rfl, a, c, rfl⟩ | ⟨b, o, c, rfl, hr⟩
 ·exact ⟨a, c, rfl, fun h => absurd h (by omega)⟩
 ·exact ⟨_, c, rfl, fun _ => ⟨b, o, rfl, hr⟩⟩
theorem N8.at {w : World} {b o k : Nat} {α : Type} {l : List α} {f : α → List Value} (h : N8 w b o (l.flatMap f)) (hk : ∀ x, (f x).length = k) {i : Nat} {x : α} (hx : l[i]? = some x) : n8 w b (o + i * k) k = some (f x) := by
 have h1 : N8 w b (o + i * k) (f x) := fun j hj => by
  rw [hk] at hj
  have h2 := P6 hk l i j hj
  rw [hx] at h2
  have h3 : (l.flatMap f)[i * k + j]? = some ((f x)[j]'(by rw [hk]; exact hj)) := by rw [h2]; simp [List.getElem?_eq_getElem, hk, hj]
  rw [Nat.add_assoc, h.get h3]; simp [List.getElem?_eq_getElem, hk, hj]
 have := A7Y h1
 rwa [hk] at this
theorem N8.cellAt {w : World} {b o k : Nat} {α : Type} {l : List α} {f : α → List Value} (h : N8 w b o (l.flatMap f)) (hk : ∀ x, (f x).length = k) {i j : Nat} {x : α} {u : Value} (hx : l[i]? = some x) (hu : (f x)[j]? = some u) : w.cell? ⟨b, o + i * k + j, none⟩ = some u := by
 have hj : j < k := by rw [← hk x]; exact (List.getElem?_eq_some_iff.1 hu).1
 have h2 := P6 hk l i j hj
 rw [hx] at h2
 rw [Nat.add_assoc]
 exact h.get (by rw [h2]; exact hu)
theorem N8.one {w : World} {b o : Nat} {α : Type} {l : List α} {f : α → Value} (h : N8 w b o (l.map f)) {i : Nat} {x : α} (hx : l[i]? = some x) : w.cell? ⟨b, o + i, none⟩ = some (f x) := h.get (by simp [hx])
section
variable {κ : Bool} {X : Nat → Prop} {S : List Nat} {w0 : World} {H H' Hr : List Res} {K : Value → WP} {K0 : WP} {t e : TypeId} {n k by' : Nat} {z : Value}
theorem D19 {s : Sem Value} {v : Value} (h : ∀ w, LW κ S w0 H w → A6 PR s K w = K v w) : TW κ S w0 H (A6 PR s K) = TW κ S w0 H (K v) := TW.congr h
theorem C2g {s : Sem Value} {v : Value} (hK : TW κ S w0 H (K v)) (h : ∀ w, LW κ S w0 H w → A6 PR s K w = K v w) : TW κ S w0 H (A6 PR s K) := fun w hw => by rw [h w hw]; exact hK w hw
theorem g4 {v : Value} {q : Nat} {xs : List Value} (hm : Res.own e k v q xs ∈ H) (hq : 0 < q) (h : ∀ g c, v = .slice (some ⟨g, 0, none⟩) q c → TW κ S w0 H K0) : TW κ S w0 H K0 := fun w hw => by
 rcases (hw.hold _ hm).2 with ⟨_, rfl⟩ | ⟨g, c, _, rfl, _⟩
 ·omega
 ·exact h g c rfl w hw
@[simp] theorem D5V [h : TS t z] {b o : Nat} {c : Array Value} {T : TypeId} {f : Nat × Nat} (hm : Res.pt b (.cells c T f) ∈ H) :
  TW κ S w0 H (A6 PR (Instr.loadAt t (.pointer (some ⟨b, o, none⟩))) K) = TW κ S w0 H (rdc c[o]? K (far PR t ⟨b, o, none⟩ K)) := let ⟨_, _, h, hd⟩ := h.ti; C7F h hd hm
@[simp] theorem D4e [h : TS t z] {g o : Nat} {k q c : Nat} {xs : List Value} (hm : Res.own e k (.slice (some ⟨g, 0, none⟩) q c) q xs ∈ H) :
  TW κ S w0 H (A6 PR (Instr.loadAt t (.pointer (some ⟨g, o, none⟩))) K) = TW κ S w0 H (rdc xs[o]? K (A6 PR (Instr.loadAt t (.pointer (some ⟨g, o, none⟩))) K)) := by
 cases hv : xs[o]? with
 | none => rfl
 | some v => exact let ⟨_, _, h, hd⟩ := h.ti; C5E h hd hm hv
@[simp] theorem D43 [h : TS t z] {b o : Nat} {v : Value} (hc : w0.cell? ⟨b, o, none⟩ = some v) (hS : b ∉ S) :
  TW κ S w0 H (A6 PR (Instr.loadAt t (.pointer (some ⟨b, o, none⟩))) K) = TW κ S w0 H (K v) := let ⟨_, _, h, hd⟩ := h.ti; C6G h hd hc hS
@[simp] theorem D4T [h : TG t n z] {b o : Nat} {c : Array Value} {T : TypeId} {f : Nat × Nat} (hm : Res.pt b (.cells c T f) ∈ H) :
  TW κ S w0 H (A6 PR (Instr.loadAt t (.pointer (some ⟨b, o, none⟩))) K) = TW κ S w0 H (rdq (V1 c.toList o n) (fun l => K (.agg l.toArray)) (A6 PR (Instr.loadAt t (.pointer (some ⟨b, o, none⟩))) K)) := by
 cases hl : V1 c.toList o n with
 | none => rfl
 | some l => exact let ⟨_, _, h, hd⟩ := h.ti; C6B h hd hm hl
@[simp] theorem D27 [h : TG t n z] {g o : Nat} {k q c : Nat} {xs : List Value} (hm : Res.own e k (.slice (some ⟨g, 0, none⟩) q c) q xs ∈ H) :
  TW κ S w0 H (A6 PR (Instr.loadAt t (.pointer (some ⟨g, o, none⟩))) K) = TW κ S w0 H (rdq (V1 xs o n) (fun l => K (.agg l.toArray)) (A6 PR (Instr.loadAt t (.pointer (some ⟨g, o, none⟩))) K)) := by
 cases hl : V1 xs o n with
 | none => rfl
 | some l => exact let ⟨_, _, h, hd⟩ := h.ti; C35 h hd hm hl
@[simp] theorem D3T [h : TG t n z] {b o : Nat} {l : List Value} (hc : n8 w0 b o n = some l) (hS : b ∉ S) :
  TW κ S w0 H (A6 PR (Instr.loadAt t (.pointer (some ⟨b, o, none⟩))) K) = TW κ S w0 H (K (.agg l.toArray)) := let ⟨_, _, h, hd⟩ := h.ti; C4C h hd hc hS
@[simp] theorem C9N [h : TS t z] {b o : Nat} {c : Array Value} {T : TypeId} {f : Nat × Nat} (hm : Res.pt b (.cells c T f) ∈ H) {v : Value} (hv : c[o]? = some v) :
  TW κ S w0 H (A6 PR (F5 [.c t (.pointer (some ⟨b, o, none⟩))]) K) = TW κ S w0 H (K v) := let ⟨_, _, h, hd⟩ := h.ti; C9v h hd hm hv
@[simp] theorem D5x [h : TG t n z] {b o : Nat} {c : Array Value} {T : TypeId} {f : Nat × Nat} (hm : Res.pt b (.cells c T f) ∈ H) :
  TW κ S w0 H (A6 PR (F5 [.c t (.pointer (some ⟨b, o, none⟩))]) K) = TW κ S w0 H (rdq (V1 c.toList o n) (fun l => K (.agg l.toArray)) (A6 PR (F5 [.c t (.pointer (some ⟨b, o, none⟩))]) K)) := by
 cases hl : V1 c.toList o n with
 | none => rfl
 | some l => exact let ⟨_, _, h, hd⟩ := h.ti; C8Y h hd hm hl
@[simp] theorem D5l [h : TG t n z] {b o : Nat} {c : Array Value} {T : TypeId} {f : Nat × Nat} {x : Value} (hm : Res.pt b (.cells c T f) ∈ H) :
  TW κ S w0 H (A6 PR (F5 [.c t (.pointer (some ⟨b, o, none⟩)), .v x]) K) = TW κ S w0 H (rdq (V1 c.toList o n) (fun l => K (.tuple #[.agg l.toArray, x])) (A6 PR (F5 [.c t (.pointer (some ⟨b, o, none⟩)), .v x]) K)) := by
 cases hl : V1 c.toList o n with
 | none => rfl
 | some l =>
   obtain ⟨_, _, h, hd⟩ := h.ti
   refine TW.congr fun w hw => ?_
   rw [B3L]
   have hr := A0B hl (N8.bl (hw.pt hm)); have h2 := u9 hr
   refine T1 ?_ K
   have := A1G h hd h2.1 h2.2
   simp only [Instr.loadAt, Instr.sureAddr, Sem.run_bind, Sem.run_pure, Result.andThen_ok] at this
   simp [F5, A3j, RV.sem, asAddr, this, one]
@[simp] theorem D5a [h : TG t n z] {b o : Nat} {c : Array Value} {T : TypeId} {f : Nat × Nat} {x y : Value} (hm : Res.pt b (.cells c T f) ∈ H) :
  TW κ S w0 H (A6 PR (F5 [.c t (.pointer (some ⟨b, o, none⟩)), .v x, .v y]) K) = TW κ S w0 H (rdq (V1 c.toList o n) (fun l => K (.tuple #[.agg l.toArray, x, y])) (A6 PR (F5 [.c t (.pointer (some ⟨b, o, none⟩)), .v x, .v y]) K)) := by
 cases hl : V1 c.toList o n with
 | none => rfl
 | some l =>
   obtain ⟨_, _, h, hd⟩ := h.ti
   refine TW.congr fun w hw => ?_
   rw [B3L]
   have hr := A0B hl (N8.bl (hw.pt hm)); have h2 := u9 hr
   refine T1 ?_ K
   have := A1G h hd h2.1 h2.2
   simp only [Instr.loadAt, Instr.sureAddr, Sem.run_bind, Sem.run_pure, Result.andThen_ok] at this
   simp [F5, A3j, RV.sem, asAddr, this, one]
@[simp] theorem D0U [h : TS t z] {b o : Nat} {c : Array Value} {T : TypeId} {f : Nat × Nat} {v : Value} {l : List Rd} (hm : Res.pt b (.cells c T f) ∈ H) (hv : c[o]? = some v) :
  TW κ S w0 H (watch PR ((none, Instr.loadAt t (.pointer (some ⟨b, o, none⟩)), v) :: l) K0) = TW κ S w0 H (watch PR l K0) := let ⟨_, _, h, hd⟩ := h.ti; B1g fun w hw => y3 h hd (by rw [F3 (hw.pt hm)]; exact hv)
@[simp] theorem C9z [h : TS t z] {g o : Nat} {k q c : Nat} {xs : List Value} {v : Value} {l : List Rd} (hm : Res.own e k (.slice (some ⟨g, 0, none⟩) q c) q xs ∈ H) (hv : xs[o]? = some v) :
  TW κ S w0 H (watch PR ((none, Instr.loadAt t (.pointer (some ⟨g, o, none⟩)), v) :: l) K0) = TW κ S w0 H (watch PR l K0) := let ⟨_, _, h, hd⟩ := h.ti; B1g fun w hw => y3 h hd (by have := (hw.ownr hm).get hv; rwa [Nat.zero_add] at this)
@[simp] theorem C9y [h : TS t z] {b o : Nat} {v : Value} {l : List Rd} (hc : w0.cell? ⟨b, o, none⟩ = some v) (hS : b ∉ S) :
  TW κ S w0 H (watch PR ((none, Instr.loadAt t (.pointer (some ⟨b, o, none⟩)), v) :: l) K0) = TW κ S w0 H (watch PR l K0) := let ⟨_, _, h, hd⟩ := h.ti; B1g fun w hw => y3 h hd (hw.ks.cell hS hc)
@[simp] theorem D4Z [h : TA t n z] {v : Value} {b o : Nat} {c : Array Value} {T : TypeId} (hv : v.cells.size = n)
  (hu : Up (.pt b (.cells c T (0, 0))) (.pt b (.cells (F4 c o v.cells.toList) T (0, 0))) H H') (hs : o + n ≤ c.size) (hp : v.cells.toList.all plain = true) :
  TW κ S w0 H (C3 PR X (Instr.storeAt t (.pointer (some ⟨b, o, none⟩)) v) K0) = TW κ S w0 H' K0 := let ⟨_, _, h⟩ := h.ti; D5A h hv hu hs hp
theorem N3 [h : TA t n z] {v : Value} {g o q c : Nat} {xs : List Value} (hu : Up (.own e k (.slice (some ⟨g, 0, none⟩) q c) q xs) (.own e k (.slice (some ⟨g, 0, none⟩) q c) q (U4 xs o v.cells.toList)) H H')
  (hv : v.cells.size = n) (hs : o + n ≤ xs.length) (hp : v.cells.toList.all plain = true) (hK : TW κ S w0 H' K0) :
  TW κ S w0 H (C3 PR X (Instr.storeAt t (.pointer (some ⟨g, o, none⟩)) v) K0) := let ⟨_, _, h⟩ := h.ti; C59 h hv hu hs hp hK
theorem A4 [h : TA t n z] (hK : ∀ b, TW κ S w0 (.pt b (.cells z.cells t) :: H) (K (.pointer (some ⟨b, 0, none⟩)))) : TW κ S w0 H (B3 PR X (Instr.alloc t true (.tuple #[])) K) := let ⟨_, _, h⟩ := h.ti; D4f h hK
theorem u6 {k1 k2 : IntKind} {l : Int} [h : SL t e k by' z] (h0 : 0 ≤ l) (hb : l * by' ≤ 140737488355328) (hc : l ≤ 9223372036854775807) (hk : 0 < k)
  (hK : ∀ b, TW κ S w0 (.own e k (.slice (some ⟨b, 0, none⟩) l.toNat l.toNat) l.toNat (Builtin.zeroCells z.cells l.toNat).toList :: H) (K (.slice (some ⟨b, 0, none⟩) l.toNat l.toNat))) :
  TW κ S w0 H (B3 PR X (Instr.makeSlice t (.int k1 l) (.int k2 l)) K) := let ⟨⟨_, _, _, h1⟩, ⟨_, h2⟩, h3⟩ := h.ti; D47 h1 h2 h3 hk h0 rfl hb hc hK
theorem E2 [h : SL t e k by' z] (hK : ∀ b, TW κ S w0 (.own e k (.slice (some ⟨b, 0, none⟩) 0 0) 0 [] :: H) (K (.slice (some ⟨b, 0, none⟩) 0 0))) : TW κ S w0 H (B3 PR X (Instr.buildSlice t 0 #[]) K) :=
 let ⟨⟨_, _, _, h1⟩, ⟨_, h2⟩, h3⟩ := h.ti; D0r h1 h2 hK
theorem C5q {m n q : Nat} (hq : 0 < n) : ∀ (vs : List Value) (i : Nat) (cs : Array Value), (∀ v ∈ vs, v.cells.size = n) → (i + vs.length) * n ≤ cs.size →
  Instr.fill (fun i => some (i * n, n)) cs ((List.range' i vs.length).zip vs) = some (F4 cs (i * n) (vs.flatMap fun v => v.cells.toList)) := by
 intro vs
 induction vs with
 | nil => intro i cs _ _; simp [Instr.fill]
 | cons v vs ih =>
  intro i cs hv hs
  simp only [List.length_cons] at hs
  have hv0 : v.cells.size = n := hv v (by simp)
  have e1 : (i + (vs.length + 1)) * n = i * n + n + vs.length * n := by rw [Nat.add_mul, Nat.add_mul]; omega
  simp only [List.length_cons, List.range'_succ, List.zip_cons_cons]
  rw [B7 rfl hv0 (by omega), ih (i + 1) _ (fun u hu => hv u (by simp [hu])) (by rw [B9]; (have : (i + 1 + vs.length) * n = i * n + n + vs.length * n := by (rw [Nat.add_mul, Nat.add_mul]; omega)); omega)]
  have spl_spl : ∀ (l l' : List Value) (c : Array Value) (o : Nat), F4 (F4 c o l) (o + l.length) l' = F4 c o (l ++ l') := by
   intro l
   induction l with
   | nil => intro l' c o; simp
   | cons u l ih => intro l' c o; simp only [B8a, List.cons_append, List.length_cons]; rw [← ih]; congr 1; omega
  rw [List.flatMap_cons, ← spl_spl]
  congr 2
  have : v.cells.toList.length = n := by simp [hv0]
  rw [this, Nat.add_mul]; omega
theorem B8M {len : Nat} {parts : Array (Nat × Value)} (vs : List Value) [h : SL t e k by' z] (hk : 0 < k) (h0 : 0 < len) (hb : len * k ≤ 2 ^ 24) (hp : parts.toList = (List.range' 0 len).zip vs) (hl : vs.length = len) (hv : ∀ v ∈ vs, v.cells.size = k)
  (hK : ∀ b, TW κ S w0 (.own e k (.slice (some ⟨b, 0, none⟩) len len) len (vs.flatMap fun v => v.cells.toList) :: H) (K (.slice (some ⟨b, 0, none⟩) len len))) :
  TW κ S w0 H (B3 PR X (Instr.buildSlice t len parts) K) := by
 obtain ⟨⟨_, _, _, h1⟩, ⟨_, h2⟩, h3⟩ := h.ti
 have hlen : (vs.flatMap fun v => v.cells.toList).length = len * k := by
  rw [← hl]; clear hp hl hK hb h0
  induction vs with
  | nil => simp
  | cons v vs ih =>
   have := hv v (by simp)
   rw [List.flatMap_cons, List.length_append, ih fun u hu => hv u (by simp [hu])]
   simp only [Array.length_toList, List.length_cons, this]; rw [Nat.add_mul]; omega
 have hf := C5q (m := 0) (q := 0) hk vs 0 ((Array.range (len * k)).map (z.cells[· % z.cells.size]!)) hv (by simp [hl])
 rw [hl, ← hp] at hf
 have hz : F4 ((Array.range (len * k)).map (z.cells[· % z.cells.size]!)) (0 * k) (vs.flatMap fun v => v.cells.toList) = (vs.flatMap fun v => v.cells.toList).toArray := by
  apply Array.toList_inj.1
  rw [A1z _ _ _ (by simp [-List.length_flatMap, hlen])]
  simp only [Nat.zero_mul, List.take_zero, List.nil_append, hlen, Nat.zero_add]
  rw [List.drop_eq_nil_of_le (by simp)]; simp
 refine D42 h1 h2 hb (by have : 0 < len * k := Nat.mul_pos h0 hk; omega) (hf.trans (by rw [hz])) (by simp [-List.length_flatMap, hlen]) ?_
 simpa using hK
theorem D9 {v0 : Value} [h : SL t e k by' z] (hk : 0 < k := by decide) (hb : 1 * k ≤ 2 ^ 24 := by decide) (h0 : v0.cells.size = k := by simp) (hK : ∀ b, TW κ S w0 (.own e k (.slice (some ⟨b, 0, none⟩) 1 1) 1 (v0.cells.toList) :: H) (K (.slice (some ⟨b, 0, none⟩) 1 1))) :
  TW κ S w0 H (B3 PR X (Instr.buildSlice t 1 #[(0, v0)]) K) := B8M [v0] hk (by omega) hb rfl rfl (by intro v hv; simp only [List.mem_cons, List.not_mem_nil, or_false] at hv; subst hv; assumption) (by simpa using hK)
theorem E4 {v0 v1 : Value} [h : SL t e k by' z] (hk : 0 < k := by decide) (hb : 2 * k ≤ 2 ^ 24 := by decide) (h0 : v0.cells.size = k := by simp) (h1 : v1.cells.size = k := by simp) (hK : ∀ b, TW κ S w0 (.own e k (.slice (some ⟨b, 0, none⟩) 2 2) 2 (v0.cells.toList ++ v1.cells.toList) :: H) (K (.slice (some ⟨b, 0, none⟩) 2 2))) :
  TW κ S w0 H (B3 PR X (Instr.buildSlice t 2 #[(0, v0), (1, v1)]) K) := B8M [v0, v1] hk (by omega) hb rfl rfl (by intro v hv; simp only [List.mem_cons, List.not_mem_nil, or_false] at hv; rcases hv with rfl | rfl <;> assumption) (by simpa using hK)
theorem E1 {v0 v1 v2 : Value} [h : SL t e k by' z] (hk : 0 < k := by decide) (hb : 3 * k ≤ 2 ^ 24 := by decide) (h0 : v0.cells.size = k := by simp) (h1 : v1.cells.size = k := by simp) (h2 : v2.cells.size = k := by simp) (hK : ∀ b, TW κ S w0 (.own e k (.slice (some ⟨b, 0, none⟩) 3 3) 3 (v0.cells.toList ++ v1.cells.toList ++ v2.cells.toList) :: H) (K (.slice (some ⟨b, 0, none⟩) 3 3))) :
  TW κ S w0 H (B3 PR X (Instr.buildSlice t 3 #[(0, v0), (1, v1), (2, v2)]) K) := B8M [v0, v1, v2] hk (by omega) hb rfl rfl (by intro v hv; simp only [List.mem_cons, List.not_mem_nil, or_false] at hv; rcases hv with rfl | rfl | rfl <;> assumption) (by simpa using hK)
theorem E0 {v0 v1 v2 v3 v4 : Value} [h : SL t e k by' z] (hk : 0 < k := by decide) (hb : 5 * k ≤ 2 ^ 24 := by decide) (h0 : v0.cells.size = k := by simp) (h1 : v1.cells.size = k := by simp) (h2 : v2.cells.size = k := by simp) (h3 : v3.cells.size = k := by simp) (h4 : v4.cells.size = k := by simp) (hK : ∀ b, TW κ S w0 (.own e k (.slice (some ⟨b, 0, none⟩) 5 5) 5 (v0.cells.toList ++ v1.cells.toList ++ v2.cells.toList ++ v3.cells.toList ++ v4.cells.toList) :: H) (K (.slice (some ⟨b, 0, none⟩) 5 5))) :
  TW κ S w0 H (B3 PR X (Instr.buildSlice t 5 #[(0, v0), (1, v1), (2, v2), (3, v3), (4, v4)]) K) := B8M [v0, v1, v2, v3, v4] hk (by omega) hb rfl rfl (by intro v hv; simp only [List.mem_cons, List.not_mem_nil, or_false] at hv; rcases hv with rfl | rfl | rfl | rfl | rfl <;> assumption) (by simpa using hK)
theorem E3 {v0 v1 v2 v3 v4 v5 : Value} [h : SL t e k by' z] (hk : 0 < k := by decide) (hb : 6 * k ≤ 2 ^ 24 := by decide) (h0 : v0.cells.size = k := by simp) (h1 : v1.cells.size = k := by simp) (h2 : v2.cells.size = k := by simp) (h3 : v3.cells.size = k := by simp) (h4 : v4.cells.size = k := by simp) (h5 : v5.cells.size = k := by simp) (hK : ∀ b, TW κ S w0 (.own e k (.slice (some ⟨b, 0, none⟩) 6 6) 6 (v0.cells.toList ++ v1.cells.toList ++ v2.cells.toList ++ v3.cells.toList ++ v4.cells.toList ++ v5.cells.toList) :: H) (K (.slice (some ⟨b, 0, none⟩) 6 6))) :
  TW κ S w0 H (B3 PR X (Instr.buildSlice t 6 #[(0, v0), (1, v1), (2, v2), (3, v3), (4, v4), (5, v5)]) K) := B8M [v0, v1, v2, v3, v4, v5] hk (by omega) hb rfl rfl (by intro v hv; simp only [List.mem_cons, List.not_mem_nil, or_false] at hv; rcases hv with rfl | rfl | rfl | rfl | rfl | rfl <;> assumption) (by simpa using hK)
theorem Q2.form {w : World} {e : TypeId} {k n : Nat} {v : Value} {xs : List Value} (h : Q2 w e k v n xs) : ∃ a c, v = .slice a n c := by
 rcases h.2 with ⟨rfl, rfl⟩ | ⟨g, cap, cur, rfl, _⟩
 ·exact ⟨_, _, rfl⟩
 ·exact ⟨_, _, rfl⟩
theorem C4A {q : Nat} {xs : List Value} {A : Value → WP} (h : ∀ a c, TW κ S w0 (.own e k (.slice a q c) q xs :: H) (A (.slice a q c))) (v : Value) : TW κ S w0 (.own e k v q xs :: H) (A v) := fun w hw => by
 obtain ⟨a, c, rfl⟩ := Q2.form (hw.hold _ A1)
 exact h a c w hw
theorem A1W {ty : TypeId} {v x : Value} {q r : Nat} {xs news : List Value} [h : SL t e k by' z] (hs : Sel (.own e k v q xs) H Hr) (hx : N9 κ S w0 H x r news) (hk : 0 < k) (hl : news.length = r * k) (hp : news.all plain = true)
  (h63 : q + r ≤ maxLen) (hby : (q + r) * by' ≤ 140737488355328) (hK : ∀ a c, TW κ S w0 (.own e k (.slice a (q + r) c) (q + r) (xs ++ news) :: Hr) (K (.slice a (q + r) c))) : TW κ S w0 H (B3 PR X (A8 .append #[t, t] ty [v, x]) K) := by
 obtain ⟨⟨_, _, _, h1⟩, ⟨_, h2⟩, h3⟩ := h.ti
 refine TW.perm ?_ hs.perm
 exact D0w (H'' := fun v' => .own e k v' (q + r) (xs ++ news) :: Hr) h1 h2 h3 hk (fun v' => .here) (fun w hw => hx w (hw.perm hs.perm.symm)) hl hp h63 hby (C4A hK)
end
end Go.Proofs.YtjobgnabneddjaaGreat
namespace Go.Proofs.YtjobgnabneddjaaGreat
open Go
instance : TS 3 (.int .i64 0) := ⟨_, _, G9, rfl⟩
instance : TS 4 (.bool false) := ⟨_, _, ty4, rfl⟩
instance : TS 5 (.int .u8 0) := ⟨_, _, ty5, rfl⟩
instance : TS 9 (.string (ByteArray.mk #[])) := ⟨_, _, x5, rfl⟩
instance : TG 23 5 (.agg #[(.int .i64 0), (.int .i64 0), (.int .i64 0), (.int .i64 0), (.int .i64 0)]) := ⟨_, _, A3r, rfl⟩
instance : TS 24 .nilFunc := ⟨_, _, C86, rfl⟩
instance : TS 26 (.pointer none) := ⟨_, _, C43, rfl⟩
instance : TS 27 (.int .i64 0) := ⟨_, _, B23, rfl⟩
instance : TS 30 (.pointer none) := ⟨_, _, C8V, rfl⟩
instance : TS 33 (.pointer none) := ⟨_, _, C4Z, rfl⟩
instance : TS 34 (.pointer none) := ⟨_, _, C5j, rfl⟩
instance : TS 35 (.pointer none) := ⟨_, _, C4c, rfl⟩
instance : TS 36 (.slice none 0 0) := ⟨_, _, B8l, rfl⟩
instance : SL 36 84 1 24 (.slice none 0 0) := ⟨⟨_, _, _, B8l⟩, ⟨_, A8l⟩, rfl⟩
instance : TS 37 (.slice none 0 0) := ⟨_, _, A8U, rfl⟩
instance : SL 37 3 1 8 (.int .i64 0) := ⟨⟨_, _, _, A8U⟩, ⟨_, G9⟩, rfl⟩
instance : TG 42 3 (.agg #[(.bool false), (.bool false), (.bool false)]) := ⟨_, _, B0T, rfl⟩
instance : TG 45 6 (.agg #[(.int .i64 0), (.string (ByteArray.mk #[])), (.string (ByteArray.mk #[])), (.int .i64 0), (.int .i64 0), (.int .i64 0)]) := ⟨_, _, A4n, rfl⟩
instance : TG 47 7 (.agg #[(.int .i64 0), (.string (ByteArray.mk #[])), (.string (ByteArray.mk #[])), (.int .i64 0), (.int .i64 0), (.int .i64 0), (.int .i64 0)]) := ⟨_, _, B4q, rfl⟩
instance : SL 51 9 1 16 (.string (ByteArray.mk #[])) := ⟨⟨_, _, _, C6D⟩, ⟨_, x5⟩, rfl⟩
instance : TG 55 4 (.agg #[(.int .i64 0), (.int .i64 0), (.bool false), (.int .i64 0)]) := ⟨_, _, A6G, rfl⟩
instance : TS 58 (.slice none 0 0) := ⟨_, _, B08, rfl⟩
instance : SL 58 155 2 16 (.agg #[(.int .i64 0), (.int .i64 0)]) := ⟨⟨_, _, _, B08⟩, ⟨_, B1r⟩, rfl⟩
instance : TG 64 4 (.agg #[(.int .i64 0), (.string (ByteArray.mk #[])), (.slice none 0 0), (.int .i64 0)]) := ⟨_, _, B3J, rfl⟩
instance : TS 84 (.slice none 0 0) := ⟨_, _, A8l, rfl⟩
instance : SL 84 218 4 40 (.agg #[(.int .i64 0), (.string (ByteArray.mk #[])), (.int .i64 0), (.int .i64 0)]) := ⟨⟨_, _, _, A8l⟩, ⟨_, A13⟩, rfl⟩
instance : TS 89 (.int .u64 0) := ⟨_, _, B0N, rfl⟩
instance : TS 103 (.slice none 0 0) := ⟨_, _, B4j, rfl⟩
instance : SL 103 270 2 32 (.agg #[(.int .i64 0), (.slice none 0 0)]) := ⟨⟨_, _, _, B4j⟩, ⟨_, A73⟩, rfl⟩
instance : TS 104 (.slice none 0 0) := ⟨_, _, C1B, rfl⟩
instance : SL 104 277 2 16 (.agg #[(.int .i64 0), (.int .i64 0)]) := ⟨⟨_, _, _, C1B⟩, ⟨_, D00⟩, rfl⟩
instance : TS 124 .nilFunc := ⟨_, _, C0c, rfl⟩
instance : TS 143 .nilFunc := ⟨_, _, C60, rfl⟩
instance : TG 144 10 (.agg #[.nilFunc, .nilFunc, .nilFunc, .nilFunc, .nilFunc, .nilFunc, .nilFunc, .nilFunc, .nilFunc, .nilFunc]) := ⟨_, _, C6m, rfl⟩
instance : TG 148 3 (.agg #[(.int .i64 0), (.int .i64 0), (.int .i64 0)]) := ⟨_, _, A8q, rfl⟩
instance : TG 155 2 (.agg #[(.int .i64 0), (.int .i64 0)]) := ⟨_, _, B1r, rfl⟩
instance : TG 158 2 (.agg #[(.int .i64 0), (.int .i64 0)]) := ⟨_, _, B33, rfl⟩
instance : TS 180 .nilFunc := ⟨_, _, D1c, rfl⟩
instance : TS 192 (.slice none 0 0) := ⟨_, _, C13, rfl⟩
instance : TS 193 (.slice none 0 0) := ⟨_, _, C2A, rfl⟩
instance : SL 193 290 2 16 (.agg #[(.int .u64 0), (.int .i64 0)]) := ⟨⟨_, _, _, C2A⟩, ⟨_, B63⟩, rfl⟩
instance : TG 195 2 (.agg #[(.slice none 0 0), (.slice none 0 0)]) := ⟨_, _, A5u, rfl⟩
instance : TS 208 (.slice none 0 0) := ⟨_, _, B4Y, rfl⟩
instance : SL 208 214 2 32 (.agg #[(.slice none 0 0), (.int .i64 0)]) := ⟨⟨_, _, _, B4Y⟩, ⟨_, B62⟩, rfl⟩
instance : TS 215 .nilFunc := ⟨_, _, C00, rfl⟩
instance : TG 216 4 (.agg #[.nilFunc, .nilFunc, .nilFunc, .nilFunc]) := ⟨_, _, C10, rfl⟩
instance : TG 218 4 (.agg #[(.int .i64 0), (.string (ByteArray.mk #[])), (.int .i64 0), (.int .i64 0)]) := ⟨_, _, A13, rfl⟩
instance : TG 224 3 (.agg #[(.string (ByteArray.mk #[])), (.string (ByteArray.mk #[])), (.int .i64 0)]) := ⟨_, _, B1k, rfl⟩
instance : TG 226 3 (.agg #[(.string (ByteArray.mk #[])), (.string (ByteArray.mk #[])), (.int .i64 0)]) := ⟨_, _, B1q, rfl⟩
instance : SL 228 124 1 8 .nilFunc := ⟨⟨_, _, _, C1V⟩, ⟨_, C0c⟩, rfl⟩
instance : TS 229 (.slice none 0 0) := ⟨_, _, B3N, rfl⟩
instance : SL 229 266 1 16 .nilIface := ⟨⟨_, _, _, B3N⟩, ⟨_, C0p⟩, rfl⟩
instance : SL 259 158 2 16 (.agg #[(.int .i64 0), (.int .i64 0)]) := ⟨⟨_, _, _, C1z⟩, ⟨_, B33⟩, rfl⟩
instance : TG 263 0 (.agg #[]) := ⟨_, _, B1m, rfl⟩
instance : TS 266 .nilIface := ⟨_, _, C0p, rfl⟩
instance : TG 270 2 (.agg #[(.int .i64 0), (.slice none 0 0)]) := ⟨_, _, A73, rfl⟩
instance : TS 279 (.slice none 0 0) := ⟨_, _, C0l, rfl⟩
instance : TS 281 (.slice none 0 0) := ⟨_, _, B65, rfl⟩
instance : SL 281 284 2 16 (.agg #[(.int .u64 0), (.int .i64 0)]) := ⟨⟨_, _, _, B65⟩, ⟨_, A80⟩, rfl⟩
instance : TG 284 2 (.agg #[(.int .u64 0), (.int .i64 0)]) := ⟨_, _, A80, rfl⟩
instance : TS 300 (.pointer none) := ⟨_, _, B64, rfl⟩
instance : TS 301 (.slice none 0 0) := ⟨_, _, A4F, rfl⟩
instance : SL 301 5 1 1 (.int .u8 0) := ⟨⟨_, _, _, A4F⟩, ⟨_, ty5⟩, rfl⟩
instance : TG 305 2 (.agg #[(.pointer none), (.slice none 0 0)]) := ⟨_, _, C6s, rfl⟩
instance : TS 324 (.slice none 0 0) := ⟨_, _, C0x, rfl⟩
instance : TS 326 .nilFunc := ⟨_, _, D1A, rfl⟩
instance : TG 330 2 (.agg #[.nilFunc, (.int .i64 0)]) := ⟨_, _, B1l, rfl⟩
instance : TG 355 38 (.agg #[(.int .u8 0), (.int .u8 0), (.int .u8 0), (.int .u8 0), (.int .u8 0), (.int .u8 0), (.int .u8 0), (.int .u8 0), (.int .u8 0), (.int .u8 0), (.int .u8 0), (.int .u8 0), (.int .u8 0), (.int .u8 0), (.int .u8 0), (.int .u8 0), (.int .u8 0), (.int .u8 0), (.int .u8 0), (.int .u8 0), (.int .u8 0), (.int .u8 0), (.int .u8 0), (.int .u8 0), (.int .u8 0), (.int .u8 0), (.int .u8 0), (.int .u8 0), (.int .u8 0), (.int .u8 0), (.int .u8 0), (.int .u8 0), (.int .u8 0), (.int .u8 0), (.int .u8 0), (.int .u8 0), (.int .u8 0), (.int .u8 0)]) := ⟨_, _, C1E, rfl⟩
instance : TS 368 .nilFunc := ⟨_, _, D1U, rfl⟩
instance : TS 370 (.int .u64 0) := ⟨_, _, C6T, rfl⟩
instance : SL 375 330 2 16 (.agg #[.nilFunc, (.int .i64 0)]) := ⟨⟨_, _, _, C16⟩, ⟨_, B1l⟩, rfl⟩
@[simp] theorem D0M (a : Option Addr) (x y : Operand) (K : Value → WP) : A6 PR (H0 .eql 110 x y (.pointer a) (.pointer none)) K = K (.bool a.isNone) := funext fun w => C12 a x y K w
@[simp] theorem D0v (a : Option Addr) (x y : Operand) (K : Value → WP) : A6 PR (H0 .eql 131 x y (.pointer a) (.pointer none)) K = K (.bool a.isNone) := funext fun w => C11 a x y K w
@[simp] theorem D3f (a : Option Addr) (x y : Operand) (K : Value → WP) : A6 PR (H0 .eql 26 x y (.pointer a) (.pointer none)) K = K (.bool a.isNone) := funext fun w => C3g a x y K w
@[simp] theorem D3b (a : Option Addr) (x y : Operand) (K : Value → WP) : A6 PR (H0 .eql 30 x y (.pointer a) (.pointer none)) K = K (.bool a.isNone) := funext fun w => C2p a x y K w
@[simp] theorem D01 (a : Option Addr) (x y : Operand) (K : Value → WP) : A6 PR (H0 .eql 300 x y (.pointer a) (.pointer none)) K = K (.bool a.isNone) := funext fun w => C1s a x y K w
@[simp] theorem D4Y (a0 b0 : Bool) (a1 b1 : Bool) (a2 b2 : Bool) (x y : Operand) (K : Value → WP) : A6 PR (H0 .eql 42 x y (.agg #[.bool a0, .bool a1, .bool a2]) (.agg #[.bool b0, .bool b1, .bool b2])) K = K (.bool ((a0 == b0) && ((a1 == b1) && ((a2 == b2) && true)))) := funext fun w => C4w a0 b0 a1 b1 a2 b2 x y K w
@[simp] theorem D4V (a0 b0 : Int) (a1 b1 : Int) (a2 b2 : Bool) (a3 b3 : Int) (x y : Operand) (K : Value → WP) : A6 PR (H0 .eql 55 x y (.agg #[.int .i64 a0, .int .i64 a1, .bool a2, .int .i64 a3]) (.agg #[.int .i64 b0, .int .i64 b1, .bool b2, .int .i64 b3])) K = K (.bool (decide (a0 = b0) && (decide (a1 = b1) && ((a2 == b2) && (decide (a3 = b3) && true))))) := funext fun w => C5p a0 b0 a1 b1 a2 b2 a3 b3 x y K w
@[simp] theorem D2S (a : Option Addr) (x y : Operand) (K : Value → WP) : A6 PR (H0 .neq 131 x y (.pointer a) (.pointer none)) K = K (.bool (!a.isNone)) := funext fun w => C1q a x y K w
@[simp] theorem D20 (a0 b0 : Int) (a1 b1 : ByteArray) (a2 b2 : Int) (a3 b3 : Int) (x y : Operand) (K : Value → WP) : A6 PR (H0 .neq 218 x y (.agg #[.int .i64 a0, .string a1, .int .i64 a2, .int .i64 a3]) (.agg #[.int .i64 b0, .string b1, .int .i64 b2, .int .i64 b3])) K = K (.bool !(decide (a0 = b0) && ((a1 == b1) && (decide (a2 = b2) && (decide (a3 = b3) && true))))) := funext fun w => C2u a0 b0 a1 b1 a2 b2 a3 b3 x y K w
@[simp] theorem D3W (a : Option Addr) (x y : Operand) (K : Value → WP) : A6 PR (H0 .neq 26 x y (.pointer a) (.pointer none)) K = K (.bool (!a.isNone)) := funext fun w => C31 a x y K w
@[simp] theorem D3n (a : Option Addr) (x y : Operand) (K : Value → WP) : A6 PR (H0 .neq 33 x y (.pointer a) (.pointer none)) K = K (.bool (!a.isNone)) := funext fun w => C38 a x y K w
@[simp] theorem D24 (a : Option Addr) (x y : Operand) (K : Value → WP) : A6 PR (H0 .neq 34 x y (.pointer a) (.pointer none)) K = K (.bool (!a.isNone)) := funext fun w => C3x a x y K w
@[simp] theorem D3v (a : Option Addr) (x y : Operand) (K : Value → WP) : A6 PR (H0 .neq 35 x y (.pointer a) (.pointer none)) K = K (.bool (!a.isNone)) := funext fun w => C21 a x y K w
@[simp] theorem D4j (a0 b0 : Int) (a1 b1 : Int) (a2 b2 : Bool) (a3 b3 : Int) (x y : Operand) (K : Value → WP) : A6 PR (H0 .neq 55 x y (.agg #[.int .i64 a0, .int .i64 a1, .bool a2, .int .i64 a3]) (.agg #[.int .i64 b0, .int .i64 b1, .bool b2, .int .i64 b3])) K = K (.bool !(decide (a0 = b0) && (decide (a1 = b1) && ((a2 == b2) && (decide (a3 = b3) && true))))) := funext fun w => C4g a0 b0 a1 b1 a2 b2 a3 b3 x y K w
end Go.Proofs.YtjobgnabneddjaaGreat
namespace Go.Proofs.YtjobgnabneddjaaGreat
open Go
def B4u (n i : Nat) : List Value := [.int .i64 (i : Int), .int .u64 (8 * ((n : Int) - 1 - i))]
abbrev C3f (b : Nat) : Value := .func (.func 243) #[] #[.pointer (some ⟨b, 0, none⟩)]
theorem B8r (w : World) (n : Int) : Fn PR C0 199 #[.int .i64 n] w (Rn [] w (fun b v => v = C3f b) fun b => [.pt b (.cells #[.int .i64 n] 3)]) := by
 refine B5a (TW.go (κ := false) (S := []) ?_)
 unfold A69
 (have zz:=trivial;repeat((first|clear zz|with_reducible first|refine A3 ?_|refine A5 fun _=>?_|refine A4 fun _=>?_);try simp(disch:=first|omega|assumption|((repeat(first|exact A1|exact uH|apply A2|apply uT));first|done|fail)|(simp;first|done|omega|fail))[]))
 rename_i b
 exact m7 b rfl (by simp)
theorem B7Z (b : Nat) {n : Nat} (hn : n ≤ 8) : A5y (C3f b) [.pt b (.cells #[.int .i64 (n : Int)] 3)] (fun _ _ => True) ((List.range n).map (B4u n)) := by
 refine ⟨_, _, _, rfl, fun l J E hJ hE stJ stE hy w0 h0 => ?_⟩
 refine B12 (B19 (TW.at (κ := true) ?_ (hJ _ _ _ h0).1))
 unfold A32
 (have zz:=trivial;repeat((first|clear zz|with_reducible first|refine A3 ?_|refine A5 fun _=>?_|refine A4 fun _=>?_);try simp(disch:=first|omega|assumption|((repeat(first|exact A1|exact uH|apply A2|apply uT));first|done|fail)|(simp;first|done|omega|fail))[]))
 refine A4g n (fun i => i) (fun _ => _) hJ stJ h0 fun i a hi hJi _ L hL => ?_
 by_cases hlt : i < n
 ·(have zz:=trivial;repeat((first|clear zz|with_reducible first|refine A3 ?_|refine A5 fun _=>?_|refine A4 fun _=>?_);try simp(disch:=first|omega|assumption|((repeat(first|exact A1|exact uH|apply A2|apply uT));first|done|fail)|(simp;first|done|omega|fail))[hlt]))
  refine A8D hJ hE stJ hy hJi (by simpa using hlt) (by simp [B4u]) (fun w3 h => ?_) (fun w3 h => ?_)
  ·(have zz:=trivial;repeat((first|clear zz|with_reducible first|refine A3 ?_|refine A5 fun _=>?_|refine A4 fun _=>?_);try simp(disch:=first|omega|assumption|((repeat(first|exact A1|exact uH|apply A2|apply uT));first|done|fail)|(simp;first|done|omega|fail))[]))
   exact fun w' hw' => hL hlt w' (stJ _ _ _ _ _ h hw')
  ·(have zz:=trivial;repeat((first|clear zz|with_reducible first|refine A3 ?_|refine A5 fun _=>?_|refine A4 fun _=>?_);try simp(disch:=first|omega|assumption|((repeat(first|exact A1|exact uH|apply A2|apply uT));first|done|fail)|(simp;first|done|omega|fail))[]))
   exact A4z stE h
 ·obtain rfl : i = n := by omega
  (have zz:=trivial;repeat((first|clear zz|with_reducible first|refine A3 ?_|refine A5 fun _=>?_|refine A4 fun _=>?_);try simp(disch:=first|omega|assumption|((repeat(first|exact A1|exact uH|apply A2|apply uT));first|done|fail)|(simp;first|done|omega|fail))[]))
  exact A4v stJ (by simpa using hJi)
def G3 (s : ByteArray) (i : Nat) : Nat := (s.data.getD i 0).toNat
def u3 (s : ByteArray) (a : Nat) : Nat → Nat
 | 0 => 0
 | i + 1 => u3 s a i * 256 + G3 s (a + i)
theorem A1F (s : ByteArray) (i : Nat) : G3 s i < 256 := (s.data.getD i 0).toNat_lt
theorem B0s (s : ByteArray) (a i : Nat) : u3 s a i < 256 ^ i := by
 induction i with
 | zero => simp [u3]
 | succ i ih =>
  have := A1F s (a + i)
  simp only [u3, Nat.pow_succ]
  omega
theorem A0u {s : ByteArray} {i : Nat} (h : i < s.size) : ∃ b : UInt8, s[i]? = some b ∧ b.toNat = G3 s i := by
 refine ⟨s[i], by simp [h], ?_⟩
 have h' : i < s.data.size := h
 have e : s.data.getD i 0 = s[i] := by rw [Array.getD_eq_getD_getElem?, Array.getElem?_eq_getElem h']; rfl
 rw [G3, e]
def A27 (s : ByteArray) (a n : Int) : Bool := decide (1 ≤ n ∧ n ≤ 8 ∧ 0 ≤ a ∧ a ≤ s.size - n)
def A6P (s : ByteArray) (a n : Int) : Int := if A27 s a n = true then (u3 s a.toNat n.toNat : Nat) else 0
theorem A3W (w : World) (s : ByteArray) (hs : s.size < 2 ^ 63) (a n : Int) :
  Fn PR C0 145 #[.string s, .int .i64 a, .int .i64 n] w (fun v w' => v = .tuple #[.int .u64 (A6P s a n), .bool (A27 s a n)] ∧ D2 [] w w') := by
 refine Fn.pure (B8Y (TW.go (κ := false) (S := []) ?_))
 unfold B1U
 by_cases hok : A27 s a n = true
 case neg =>
  have hv : A6P s a n = 0 := if_neg hok
  have hok' : A27 s a n = false := by simpa using hok
  rw [hv, hok']
  have hc : n < 1 ∨ 8 < n ∨ a < 0 ∨ (s.size : Int) - n < a := by
   simp only [A27, decide_eq_true_eq] at hok; omega
  by_cases h1 : n < 1
  ·(have zz:=trivial;repeat((first|clear zz|with_reducible first|refine A3 ?_|refine A5 fun _=>?_|refine A4 fun _=>?_);try simp(disch:=first|omega|assumption|((repeat(first|exact A1|exact uH|apply A2|apply uT));first|done|fail)|(simp;first|done|omega|fail))[h1])); exact B0 rfl
  by_cases h2 : 8 < n
  ·(have zz:=trivial;repeat((first|clear zz|with_reducible first|refine A3 ?_|refine A5 fun _=>?_|refine A4 fun _=>?_);try simp(disch:=first|omega|assumption|((repeat(first|exact A1|exact uH|apply A2|apply uT));first|done|fail)|(simp;first|done|omega|fail))[h1, h2])); exact B0 rfl
  by_cases h3 : a < 0
  ·(have zz:=trivial;repeat((first|clear zz|with_reducible first|refine A3 ?_|refine A5 fun _=>?_|refine A4 fun _=>?_);try simp(disch:=first|omega|assumption|((repeat(first|exact A1|exact uH|apply A2|apply uT));first|done|fail)|(simp;first|done|omega|fail))[h1, h2, h3])); exact B0 rfl
  have h4 : (s.size : Int) - n < a := by omega
  (have zz:=trivial;repeat((first|clear zz|with_reducible first|refine A3 ?_|refine A5 fun _=>?_|refine A4 fun _=>?_);try simp(disch:=first|omega|assumption|((repeat(first|exact A1|exact uH|apply A2|apply uT));first|done|fail)|(simp;first|done|omega|fail))[h1, h2, h3, h4])); exact B0 rfl
 have hv : A6P s a n = (u3 s a.toNat n.toNat : Nat) := if_pos hok
 rw [hv, hok]
 simp only [A27, decide_eq_true_eq] at hok
 obtain ⟨m, rfl⟩ : ∃ m : Nat, n = m := ⟨n.toNat, by omega⟩
 obtain ⟨k, rfl⟩ : ∃ k : Nat, a = k := ⟨a.toNat, by omega⟩
 have h1 : ¬ (m : Int) < 1 := by omega
 have h2 : ¬ 8 < (m : Int) := by omega
 have h4 : ¬ (s.size : Int) - m < k := by omega
 have h5 : ¬ (k : Int) < 0 := by omega
 (have zz:=trivial;repeat((first|clear zz|with_reducible first|refine A3 ?_|refine A5 fun _=>?_|refine A4 fun _=>?_);try simp(disch:=first|omega|assumption|((repeat(first|exact A1|exact uH|apply A2|apply uT));first|done|fail)|(simp;first|done|omega|fail))[h1, h2, h4, h5]))
 rename_i bs ba bv
 refine G4 A6A (fun w' _ => B8r w' m) ?_
 rintro b v rfl
 refine A4H (B7Z b (n := m) (by omega)) (by simp [B4u]) (fun _ (_ : Unit) => True) (fun i _ => [.pt bv (.cells #[.int .u64 ((u3 s k i * 256 ^ (m - i) : Nat) : Int)] 89), .pt ba (.cells #[.int .i64 (k : Int)] 3), .pt bs (.cells #[.string s] 9)])
  (fun _ (_ : Unit) => False) (fun _ => []) () trivial ?_ ?_ ?_ ?_ (by simp [u3])
 ·intros; trivial
 ·rintro i hi _ F _ K' hK _
  have hi' : i < m := by simpa using hi
  obtain ⟨by0, hb0, hb1⟩ := A0u (s := s) (i := k + i) (by omega)
  have hidx : ((k : Int) + i).toNat = k + i := by omega
  have hbl := A1F s (k + i)
  rw [← hidx] at hb0
  have hsh : (0 : Int) ≤ 8 * ((m : Int) - 1 - i) := by omega
  simp only [List.getElem_map, List.getElem_range, B4u, VF.app]
  (have zz:=trivial;repeat((first|clear zz|with_reducible first|refine A3 ?_|refine A5 fun _=>?_|refine A4 fun _=>?_);try simp(disch:=first|omega|assumption|((repeat(first|exact A1|exact uH|apply A2|apply uT));first|done|fail)|(simp;first|done|omega|fail))[g6]))
  refine TW.eqH ?_ (hK () trivial)
  have hlt : (u3 s k i * 256 + G3 s (k + i)) * 256 ^ (m - 1 - i) < 2 ^ 64 := by
   have hA : u3 s k (i + 1) < 256 ^ (i + 1) := B0s s k (i + 1)
   have h8 : 256 ^ (i + 1) * 256 ^ (m - 1 - i) ≤ 2 ^ 64 := by
    rw [← Nat.pow_add, show (2 : Nat) ^ 64 = 256 ^ 8 from rfl]
    exact Nat.pow_le_pow_right (by omega) (by omega)
   exact Nat.lt_of_lt_of_le (Nat.mul_lt_mul_of_pos_right hA (Nat.pow_pos (by omega))) h8
  have hval := C7W hbl hlt (by omega)
  rw [show m - (i + 1) = m - 1 - i from by omega]
  simp [u3, ← hval]
  rw [hb1, show (8 * ((m : Int) - 1 - i)).toNat = 8 * (m - 1 - i) from by omega, show m - i = m - 1 - i + 1 from by omega]
 ·rintro _ _
  (have zz:=trivial;repeat((first|clear zz|with_reducible first|refine A3 ?_|refine A5 fun _=>?_|refine A4 fun _=>?_);try simp(disch:=first|omega|assumption|((repeat(first|exact A1|exact uH|apply A2|apply uT));first|done|fail)|(simp;first|done|omega|fail))[]))
  exact B0 (by simp)
 ·rintro _ _ h; exact h.elim
def B7E (v : Int) (n i : Nat) : Int := IntKind.u8.wrap (v.fdiv (2 ^ min (8 * ((n : Int) - 1 - i)).toNat IntKind.u64.bits))
def A0x (v : Int) (n i : Nat) : List Int := (List.range n).map fun j => if j < i then B7E v n j else 0
def G0 (v n : Int) : ByteArray := if 1 ≤ n ∧ n ≤ 8 then A4P (A0x v n.toNat n.toNat) else ByteArray.mk #[]
theorem C58 (v : Int) {n i : Nat} (h : i < n) : (A0x v n i).set i (B7E v n i) = A0x v n (i + 1) := by
 apply List.ext_getElem (by simp [A0x])
 intro j h1 h2
 simp only [A0x, List.length_set, List.length_map, List.length_range] at h1
 rw [List.getElem_set]
 simp only [A0x, List.getElem_map, List.getElem_range]
 by_cases hij : i = j
 ·subst hij; simp
 ·by_cases hj : j < i
  ·simp [hij, hj, Nat.lt_succ_of_lt hj]
  ·have : ¬ j < i + 1 := by omega
   simp [hij, hj, this]
def A6r (v : Int) (n i : Nat) : Array Value := ((A0x v n i).map (Value.int .u8)).toArray
theorem C2U (v : Int) {m : Nat} (h : m ≤ 8) : Builtin.zeroCells (Value.int .u8 0).cells m = A6r v m 0 := by
 have : m = 0 ∨ m = 1 ∨ m = 2 ∨ m = 3 ∨ m = 4 ∨ m = 5 ∨ m = 6 ∨ m = 7 ∨ m = 8 := by omega
 rcases this with rfl | rfl | rfl | rfl | rfl | rfl | rfl | rfl | rfl <;>
  (apply Array.ext'; simp [Builtin.zeroCells, A6r, A0x, List.range, List.range.loop])
@[simp] theorem C3C {v n : Int} (h1 : 1 ≤ n) (h2 : n ≤ 8) : (G0 v n).size = n.toNat := by simp [G0, h1, h2, A0x]
theorem Z4 (w : World) (v n : Int) :
  Fn PR C0 176 #[.int .u64 v, .int .i64 n] w (fun u w' => u = .string (G0 v n) ∧ D2 [] w w') := by
 refine Fn.pure (B8q (TW.go (κ := false) (S := []) ?_))
 unfold B07
 by_cases hok : 1 ≤ n ∧ n ≤ 8
 case neg =>
  have hv : G0 v n = ByteArray.mk #[] := if_neg hok
  rw [hv]
  by_cases h1 : n < 1
  ·(have zz:=trivial;repeat((first|clear zz|with_reducible first|refine A3 ?_|refine A5 fun _=>?_|refine A4 fun _=>?_);try simp(disch:=first|omega|assumption|((repeat(first|exact A1|exact uH|apply A2|apply uT));first|done|fail)|(simp;first|done|omega|fail))[h1])); exact B0 rfl
  ·have h2 : 8 < n := by omega
   (have zz:=trivial;repeat((first|clear zz|with_reducible first|refine A3 ?_|refine A5 fun _=>?_|refine A4 fun _=>?_);try simp(disch:=first|omega|assumption|((repeat(first|exact A1|exact uH|apply A2|apply uT));first|done|fail)|(simp;first|done|omega|fail))[h1, h2])); exact B0 rfl
 have hv : G0 v n = A4P (A0x v n.toNat n.toNat) := if_pos hok
 rw [hv]
 obtain ⟨m, rfl⟩ : ∃ m : Nat, n = m := ⟨n.toNat, by omega⟩
 have h1 : ¬ (m : Int) < 1 := by omega
 have h2 : ¬ 8 < (m : Int) := by omega
 (have zz:=trivial;repeat((first|clear zz|with_reducible first|refine A3 ?_|refine A5 fun _=>?_|refine A4 fun _=>?_);try simp(disch:=first|omega|assumption|((repeat(first|exact A1|exact uH|apply A2|apply uT));first|done|fail)|(simp;first|done|omega|fail))[h1, h2]))
 refine u6 (by omega) (by omega) (by omega) (by omega) fun bs => ?_
 rw [Int.toNat_natCast, C2U v (by omega)]
 (have zz:=trivial;repeat((first|clear zz|with_reducible first|refine A3 ?_|refine A5 fun _=>?_|refine A4 fun _=>?_);try simp(disch:=first|omega|assumption|((repeat(first|exact A1|exact uH|apply A2|apply uT));first|done|fail)|(simp;first|done|omega|fail))[h1, h2]))
 rename_i bv bb
 refine G4 A6A (fun w' _ => B8r w' m) ?_
 rintro b v rfl
 refine A4H (B7Z b (n := m) (by omega)) (by simp [B4u]) (fun _ (_ : Unit) => True) (fun i _ => [.pt bb (.cells #[.slice (some ⟨bs, 0, none⟩) m m] 301),
   .own 5 1 (.slice (some ⟨bs, 0, none⟩) m m) m (A6r v m i).toList, .pt bv (.cells #[.int .u64 v] 89)])
  (fun _ (_ : Unit) => False) (fun _ => []) () trivial ?_ ?_ ?_ ?_ (by simp)
 ·intros; trivial
 ·rintro i hi _ F _ K' hK _
  have hi' : i < m := by simpa using hi
  have hsh : (0 : Int) ≤ 8 * ((m : Int) - 1 - i) := by omega
  simp only [List.getElem_map, List.getElem_range, B4u, VF.app]
  (have zz:=trivial;repeat((first|clear zz|with_reducible first|refine A3 ?_|refine A5 fun _=>?_|refine A4 fun _=>?_);try simp(disch:=first|omega|assumption|((repeat(first|exact A1|exact uH|apply A2|apply uT));first|done|fail)|(simp;first|done|omega|fail))[]))
  refine N3 (by (repeat constructor)) (by simp) (by simp [A6r, A0x]; omega) (by simp) ?_
  refine TW.eqH ?_ (hK () trivial)
  have e : U4 (A6r v m i).toList i [.int .u8 (B7E v m i)] = (A6r v m (i + 1)).toList := by
   rw [B7K (by simp [A6r, A0x]; omega)]; simp [A6r, ← C58 v hi', List.map_set]
  rw [← e]; simp [B7E]
 ·rintro _ _
  (have zz:=trivial;repeat((first|clear zz|with_reducible first|refine A3 ?_|refine A5 fun _=>?_|refine A4 fun _=>?_);try simp(disch:=first|omega|assumption|((repeat(first|exact A1|exact uH|apply A2|apply uT));first|done|fail)|(simp;first|done|omega|fail))[]))
  have hlen : (A0x v m m).length = m := by simp [A0x]
  have := fun w' K (hr : N8 w' bs 0 ((A0x v m m).map (Value.int .u8))) => @B9F K w' bs 0 m _ hr
  rw [hlen] at this
  rw [D19 fun w' hw' => this w' _ (by simpa [A6r] using hw'.ownr (e := 5) (k := 1) (q := m) (c := m) (xs := (A6r v m m).toList) (by (repeat constructor)))]
  simp only [D07]
  exact B0 rfl
 ·rintro _ _ h; exact h.elim
end Go.Proofs.YtjobgnabneddjaaGreat
