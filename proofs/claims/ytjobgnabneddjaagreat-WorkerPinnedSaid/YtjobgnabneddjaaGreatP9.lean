/- The proof of a given statement, a part of it (ShStd ShOctet Ins Tc Tn Oct). No condition but what each lemma says. -/
import Derived.Test.YtjobgnabneddjaaGreatP8
set_option linter.unusedVariables false
set_option linter.unusedSimpArgs false
namespace Go.Proofs.YtjobgnabneddjaaGreat
open Go
def S9 (X : Nat → Prop) (t0 : Value) (R : Value → WP) : WP :=
 jn (n := 1) (fun t2 =>
 B2 PR X (Instr.buildSlice 84 0 #[]) fun t5 =>
 B2 PR X (A8 .append #[84, 84] 84 [t5, t0]) fun t7 =>
 R t7) fun J1 =>
 A6 PR (G9 .eql 84 (.tmp 3) (.const (.slice none 0 0)) t0 (.slice none 0 0)) fun t4 =>
 C3 t4 (
 R (.slice none 0 0)) (
 J1 (.slice none 0 0))
theorem p4 : A9 PR 122 := A7 Tryz.func122 (by kernel_rfl) rfl
theorem r8 {X : Nat → Prop} {t0 : Value} {R : Value → WP} {w : World} (h : S9 X t0 R w) : Fn PR X 122 #[t0] w R := C6 (args := [t0]) mixed Tryz.func122 (by kernel_rfl) h
def Q7 (X : Nat → Prop) (t0 : Value) (R : Value → WP) : WP :=
 jn (n := 1) (fun t2 =>
 B2 PR X (Instr.buildSlice 58 0 #[]) fun t5 =>
 B2 PR X (A8 .append #[58, 58] 58 [t5, t0]) fun t7 =>
 R t7) fun J1 =>
 A6 PR (G9 .eql 58 (.tmp 3) (.const (.slice none 0 0)) t0 (.slice none 0 0)) fun t4 =>
 C3 t4 (
 R (.slice none 0 0)) (
 J1 (.slice none 0 0))
theorem j9 : A9 PR 123 := A7 Tryz.func123 (by kernel_rfl) rfl
theorem l6 {X : Nat → Prop} {t0 : Value} {R : Value → WP} {w : World} (h : Q7 X t0 R w) : Fn PR X 123 #[t0] w R := C6 (args := [t0]) mixed Tryz.func123 (by kernel_rfl) h
def U0 (X : Nat → Prop) (t0 t1 : Value) (R : Value → WP) : WP :=
 B4 PR X 201 [t0, t1] fun t7 =>
 A0 PR (binOp .geq 3 t7 (.int .i64 0)) fun t8 =>
 R t8
theorem r9 : A9 PR 148 := A7 Tryz.func148 (by kernel_rfl) rfl
theorem w7 {X : Nat → Prop} {t0 t1 : Value} {R : Value → WP} {w : World} (h : U0 X t0 t1 R w) : Fn PR X 148 #[t0, t1] w R := C6 (args := [t0, t1]) mixed Tryz.func148 (by kernel_rfl) h
def U6 (X : Nat → Prop) (t0 t1 : Value) (R : Value → WP) : WP :=
 B4 PR X 212 [t0] fun t7 =>
 B4 PR X 213 [t7, t1] fun t10 =>
 R t7
theorem v8 : A9 PR 160 := A7 Tryz.func160 (by kernel_rfl) rfl
theorem x9 {X : Nat → Prop} {t0 t1 : Value} {R : Value → WP} {w : World} (h : U6 X t0 t1 R w) : Fn PR X 160 #[t0, t1] w R := C6 (args := [t0, t1]) mixed Tryz.func160 (by kernel_rfl) h
def Z2 (X : Nat → Prop) (t0 t1 : Value) (R : Value → WP) : WP :=
 B4 PR X 232 [t0] fun t7 =>
 A0 PR (B5 t0) fun t10 =>
 A0 PR (Instr.fieldAt 303 t10 1) fun t11 =>
 A6 PR (Instr.loadAt 301 t11) fun t12 =>
 B2 PR X (A8 .append #[301, 9] 301 [t12, t1]) fun t14 =>
 A0 PR (B5 t0) fun t15 =>
 A0 PR (Instr.fieldAt 303 t15 1) fun t16 =>
 C1 PR X (Instr.storeAt 301 t16 t14) <|
 A0 PR (A8 .len #[9] 0 [t1]) fun t18 =>
 R (.tuple #[t18, .nilIface])
theorem L5 : A9 PR 173 := A7 Tryz.func173 (by kernel_rfl) rfl
theorem A0n {X : Nat → Prop} {t0 t1 : Value} {R : Value → WP} {w : World} (h : Z2 X t0 t1 R w) : Fn PR X 173 #[t0, t1] w R := C6 (args := [t0, t1]) mixed Tryz.func173 (by kernel_rfl) h
def m8 (X : Nat → Prop) (t0 : Value) (R : Value → WP) : WP :=
 drw <|
 A0 PR (B5 t0) fun t4 =>
 A0 PR (Instr.fieldAt 303 t4 1) fun t5 =>
 A6 PR (Instr.loadAt 301 t5) fun t6 =>
 A0 PR (B5 t0) fun t9 =>
 A0 PR (Instr.fieldAt 303 t9 1) fun t10 =>
 A6 PR (Instr.loadAt 301 t10) fun t11 =>
 A0 PR (A8 .len #[301] 0 [t11]) fun t12 =>
 B2 PR X (A8 .unsafeSliceData #[301] 363 [t6]) fun t7 =>
 watch PR [(none, (Instr.loadAt 301 t10), t11)] <|
 B2 PR X (A8 .unsafeString #[363, 3] 9 [t7, t12]) fun t13 =>
 R t13
theorem A2m : A9 PR 174 := A7 Tryz.func174 (by kernel_rfl) rfl
theorem A21 {X : Nat → Prop} {t0 : Value} {R : Value → WP} {w : World} (h : m8 X t0 R w) : Fn PR X 174 #[t0] w R := C6 (args := [t0]) mixed Tryz.func174 (by kernel_rfl) h
def r4 (X : Nat → Prop) (t0 t1 : Value) (R : Value → WP) : WP :=
 A0 PR (B5 t0) fun t6 =>
 A0 PR (Instr.fieldAt 137 t6 2) fun t7 =>
 B4 PR X 234 [t7, t1] fun t9 =>
 R t9
theorem A3B : A9 PR 178 := A7 Tryz.func178 (by kernel_rfl) rfl
theorem A32 {X : Nat → Prop} {t0 t1 : Value} {R : Value → WP} {w : World} (h : r4 X t0 t1 R w) : Fn PR X 178 #[t0, t1] w R := C6 (args := [t0, t1]) mixed Tryz.func178 (by kernel_rfl) h
def W0 (X : Nat → Prop) (t0 t1 : Value) (R : Value → WP) : WP :=
 jn (n := 2) (fun t4 t8 =>
 R (.int .i64 (-1))) fun J1 =>
 A0 PR (A8 .len #[259] 0 [t0]) fun t7 =>
 lp (n := 2) (fun L2 t4_1 t8_1 =>
 A0 PR (binOp .lss 3 t8_1 t7) fun t9 =>
 jn (n := 0) (
 jn (n := 1) (fun t4_2 =>
 A0 PR (binOp .add 3 t8_1 (.int .i64 1)) fun t18 =>
 L2 t4_2 t18) fun J3 =>
 A0 PR (Instr.indexAt 259 t0 t8_1) fun t14 =>
 A6 PR (Instr.loadAt 158 t14) fun t15 =>
 K4 PR X t1 [t15] fun t16 =>
 C3 t16 (
 R t8_1) (
 J3 t4_1)) fun J4 =>
 C3 t9 (
 J4) (
 J1 t4_1 t8_1)) (.int .i64 0) (.int .i64 0)
theorem A0F : A9 PR 201 := A7 Tryz.func201 (by kernel_rfl) rfl
theorem A0j {X : Nat → Prop} {t0 t1 : Value} {R : Value → WP} {w : World} (h : W0 X t0 t1 R w) : Fn PR X 201 #[t0, t1] w R := C6 (args := [t0, t1]) mixed Tryz.func201 (by kernel_rfl) h
def A5w (X : Nat → Prop) (t0 t1 : Value) (R : Value → WP) : WP :=
 jn (n := 2) (fun t5 t6 =>
 R t5) fun J1 =>
 lp (n := 2) (fun L2 t5_1 t6_1 =>
 jn (n := 0) (
 A0 PR (binOp .add 3 t5_1 t6_1) fun t14 =>
 A0 PR (convert 3 242 t14) fun t15 =>
 A0 PR (binOp .shr 242 t15 (.int .u64 1)) fun t16 =>
 A0 PR (convert 242 3 t16) fun t17 =>
 K4 PR X t1 [t17] fun t20 =>
 A0 PR (Op.unary .not t20) fun t21 =>
 C3 t21 (
 A0 PR (binOp .add 3 t17 (.int .i64 1)) fun t23 =>
 L2 t23 t6_1) (
 L2 t5_1 t17)) fun J3 =>
 A0 PR (binOp .lss 3 t5_1 t6_1) fun t11 =>
 C3 t11 (
 J3) (
 J1 t5_1 t6_1)) (.int .i64 0) t0
theorem B2u : A9 PR 210 := A7 Tryz.func210 (by kernel_rfl) rfl
theorem B26 {X : Nat → Prop} {t0 t1 : Value} {R : Value → WP} {w : World} (h : A5w X t0 t1 R w) : Fn PR X 210 #[t0, t1] w R := C6 (args := [t0, t1]) mixed Tryz.func210 (by kernel_rfl) h
def Z0 (X : Nat → Prop) (t0 : Value) (R : Value → WP) : WP :=
 B4 PR X 248 [(.slice none 0 0), t0] fun t4 =>
 R t4
theorem A0g : A9 PR 212 := A7 Tryz.func212 (by kernel_rfl) rfl
theorem A1B {X : Nat → Prop} {t0 : Value} {R : Value → WP} {w : World} (h : Z0 X t0 R w) : Fn PR X 212 #[t0] w R := C6 (args := [t0]) mixed Tryz.func212 (by kernel_rfl) h
theorem Y9 : A9 PR 213 := A7 Tryz.func213 (by kernel_rfl) rfl
def A7g (X : Nat → Prop) (t0 : Value) (R : Value → WP) : WP :=
 jn (n := 2) (fun t2 t8 =>
 R (.int .i64 0)) fun J1 =>
 A0 PR (A8 .len #[37] 0 [t0]) fun t7 =>
 lp (n := 2) (fun L2 t2_1 t8_1 =>
 A0 PR (binOp .lss 3 t8_1 t7) fun t9 =>
 jn (n := 0) (
 jn (n := 1) (fun t2_2 =>
 A0 PR (binOp .add 3 t8_1 (.int .i64 1)) fun t16 =>
 L2 t2_2 t16) fun J3 =>
 A0 PR (Instr.indexAt 37 t0 t8_1) fun t10 =>
 A6 PR (Instr.loadAt 3 t10) fun t11 =>
 A0 PR (binOp .neq 3 t11 (.int .i64 0)) fun t14 =>
 C3 t14 (
 R t11) (
 J3 t2_1)) fun J4 =>
 C3 t9 (
 J4) (
 J1 t2_1 t8_1)) (.int .i64 0) (.int .i64 0)
theorem B3B : A9 PR 216 := A7 Tryz.func216 (by kernel_rfl) rfl
theorem B4q {X : Nat → Prop} {t0 : Value} {R : Value → WP} {w : World} (h : A7g X t0 R w) : Fn PR X 216 #[t0] w R := C6 (args := [t0]) mixed Tryz.func216 (by kernel_rfl) h
theorem B6G {X : Nat → Prop} {t0 : Value} {K : Value → WP} {w : World} (h : Fn PR X 216 #[t0] w K) : B4 PR X 216 [t0] K w := Or.inl ⟨B3B, h⟩
def A0N (X : Nat → Prop) (t0 t1 : Value) (R : Value → WP) : WP :=
 B4 PR X 251 [t0] fun t8 =>
 B4 PR X 251 [t1] fun t10 =>
 jn (n := 1) (fun t4 =>
 jn (n := 1) (fun t4_1 =>
 jn (n := 1) (fun t4_2 =>
 jn (n := 1) (fun t4_3 =>
 R (.int .i64 0)) fun J1 =>
 A0 PR (binOp .gtr 89 t0 t1) fun t19 =>
 C3 t19 (
 R (.int .i64 1)) (
 J1 t4_2)) fun J2 =>
 A0 PR (binOp .lss 89 t0 t1) fun t16 =>
 C3 t16 (
 R (.int .i64 (-1))) (
 J2 t4_1)) fun J3 =>
 C3 t10 (
 R (.int .i64 1)) (
 J3 t4)) fun J4 =>
 C3 t8 (
 jn (n := 1) (fun t4_4 =>
 R (.int .i64 (-1))) fun J5 =>
 C3 t10 (
 R (.int .i64 0)) (
 J5 (.int .i64 0))) (
 J4 (.int .i64 0))
theorem A5H : A9 PR 217 := A7 Tryz.func217 (by kernel_rfl) rfl
theorem A5k {X : Nat → Prop} {t0 t1 : Value} {R : Value → WP} {w : World} (h : A0N X t0 t1 R w) : Fn PR X 217 #[t0, t1] w R := C6 (args := [t0, t1]) mixed Tryz.func217 (by kernel_rfl) h
theorem A69 {X : Nat → Prop} {t0 t1 : Value} {K : Value → WP} {w : World} (h : Fn PR X 217 #[t0, t1] w K) : B4 PR X 217 [t0, t1] K w := Or.inl ⟨A5H, h⟩
def A2b (X : Nat → Prop) (t0 t1 : Value) (R : Value → WP) : WP :=
 B4 PR X 252 [t0] fun t8 =>
 B4 PR X 252 [t1] fun t10 =>
 jn (n := 1) (fun t4 =>
 jn (n := 1) (fun t4_1 =>
 jn (n := 1) (fun t4_2 =>
 jn (n := 1) (fun t4_3 =>
 R (.int .i64 0)) fun J1 =>
 A0 PR (binOp .gtr 3 t0 t1) fun t19 =>
 C3 t19 (
 R (.int .i64 1)) (
 J1 t4_2)) fun J2 =>
 A0 PR (binOp .lss 3 t0 t1) fun t16 =>
 C3 t16 (
 R (.int .i64 (-1))) (
 J2 t4_1)) fun J3 =>
 C3 t10 (
 R (.int .i64 1)) (
 J3 t4)) fun J4 =>
 C3 t8 (
 jn (n := 1) (fun t4_4 =>
 R (.int .i64 (-1))) fun J5 =>
 C3 t10 (
 R (.int .i64 0)) (
 J5 (.int .i64 0))) (
 J4 (.int .i64 0))
theorem A8P : A9 PR 218 := A7 Tryz.func218 (by kernel_rfl) rfl
theorem A9Y {X : Nat → Prop} {t0 t1 : Value} {R : Value → WP} {w : World} (h : A2b X t0 t1 R w) : Fn PR X 218 #[t0, t1] w R := C6 (args := [t0, t1]) mixed Tryz.func218 (by kernel_rfl) h
theorem B0M {X : Nat → Prop} {t0 t1 : Value} {K : Value → WP} {w : World} (h : Fn PR X 218 #[t0, t1] w K) : B4 PR X 218 [t0, t1] K w := Or.inl ⟨A8P, h⟩
def d9 (X : Nat → Prop) (t0 : Value) (R : Value → WP) : WP :=
 A0 PR (B5 t0) fun t3 =>
 A0 PR (Instr.fieldAt 303 t3 0) fun t4 =>
 A6 PR (Instr.loadAt 300 t4) fun t5 =>
 A6 PR (G9 .eql 300 (.tmp 5) (.const (.pointer none)) t5 (.pointer none)) fun t6 =>
 C3 t6 (
 A6 PR (convert 300 391 t0) fun t9 =>
 B4 PR X 264 [t9] fun t10 =>
 A6 PR (convert 391 300 t10) fun t11 =>
 A0 PR (B5 t0) fun t12 =>
 A0 PR (Instr.fieldAt 303 t12 0) fun t13 =>
 C1 PR X (Instr.storeAt 300 t13 t11) <|
 R (.tuple #[])) (
 A0 PR (B5 t0) fun t15 =>
 A0 PR (Instr.fieldAt 303 t15 0) fun t16 =>
 A6 PR (Instr.loadAt 300 t16) fun t17 =>
 A6 PR (G9 .neq 300 (.tmp 17) (.tmp 18) t17 t0) fun t19 =>
 C3 t19 (
 G5) (
 R (.tuple #[])))
theorem A1D : A9 PR 232 := A7 Tryz.func232 (by kernel_rfl) rfl
theorem A1z {X : Nat → Prop} {t0 : Value} {R : Value → WP} {w : World} (h : d9 X t0 R w) : Fn PR X 232 #[t0] w R := C6 (args := [t0]) mixed Tryz.func232 (by kernel_rfl) h
def M8 (X : Nat → Prop) (t0 t1 : Value) (R : Value → WP) : WP :=
 B2 PR X (Instr.box 281 t0) fun t2 =>
 jn (n := 0) (
 A6 PR (Instr.loadAt 281 t2) fun t12 =>
 n0 (R t12)) fun J1 =>
 rng (N := 1) PR X (fun t7 K2 =>
 B2 PR (fun _ => False) (Instr.alloc 284 true (.tuple #[])) fun t5 =>
 C1 PR (fun _ => False) (Instr.storeAt 284 t5 t7) <|
 bgn <|
 A6 PR (Instr.loadAt 281 t2) fun t8 =>
 A6 PR (Instr.loadAt 284 t5) fun t9 =>
 B2 PR (fun _ => False) (Instr.buildSlice 281 1 #[(0, t9)]) fun t10 =>
 B2 PR (fun _ => False) (A8 .append #[281, 281] 281 [t8, t10]) fun t11 =>
 C1 PR (fun _ => False) (Instr.storeAt 281 t2 t11) <|
 K2 none) t1 (fun j => match j with | none => (J1) | some (.exit i) => (match Nat.beq i 0 with | true => (J1) | false => (G5)) | some .ret => (n0 (R (.slice none 0 0))) | some _ => G5)
theorem W2 : A9 PR 248 := A7 Tryz.func248 (by kernel_rfl) rfl
theorem Z6 {X : Nat → Prop} {t0 t1 : Value} {R : Value → WP} {w : World} (h : M8 X t0 t1 R w) : Fn PR X 248 #[t0, t1] w R := C6 (args := [t0, t1]) mixed Tryz.func248 (by kernel_rfl) h
def A1Z (X : Nat → Prop) (t0 : Value) (R : Value → WP) : WP :=
 A0 PR (binOp .neq 89 t0 t0) fun t5 =>
 R t5
theorem A6y : A9 PR 251 := A7 Tryz.func251 (by kernel_rfl) rfl
theorem A8B {X : Nat → Prop} {t0 : Value} {R : Value → WP} {w : World} (h : A1Z X t0 R w) : Fn PR X 251 #[t0] w R := C6 (args := [t0]) mixed Tryz.func251 (by kernel_rfl) h
theorem A2T {X : Nat → Prop} {t0 : Value} {K : Value → WP} {w : World} (h : Fn PR X 251 #[t0] w K) : B4 PR X 251 [t0] K w := Or.inl ⟨A6y, h⟩
def A3N (X : Nat → Prop) (t0 : Value) (R : Value → WP) : WP :=
 A0 PR (binOp .neq 3 t0 t0) fun t5 =>
 R t5
theorem B0T : A9 PR 252 := A7 Tryz.func252 (by kernel_rfl) rfl
theorem B1W {X : Nat → Prop} {t0 : Value} {R : Value → WP} {w : World} (h : A3N X t0 R w) : Fn PR X 252 #[t0] w R := C6 (args := [t0]) mixed Tryz.func252 (by kernel_rfl) h
theorem A4W {X : Nat → Prop} {t0 : Value} {K : Value → WP} {w : World} (h : Fn PR X 252 #[t0] w K) : B4 PR X 252 [t0] K w := Or.inl ⟨B0T, h⟩
def N4 (X : Nat → Prop) (t0 t1 : Value) (R : Value → WP) : WP :=
 jn (n := 2) (fun t4 t8 =>
 R (.int .i64 (-1))) fun J1 =>
 A0 PR (A8 .len #[58] 0 [t0]) fun t7 =>
 lp (n := 2) (fun L2 t4_1 t8_1 =>
 A0 PR (binOp .lss 3 t8_1 t7) fun t9 =>
 jn (n := 0) (
 jn (n := 1) (fun t4_2 =>
 A0 PR (binOp .add 3 t8_1 (.int .i64 1)) fun t18 =>
 L2 t4_2 t18) fun J3 =>
 A0 PR (Instr.indexAt 58 t0 t8_1) fun t14 =>
 A6 PR (Instr.loadAt 155 t14) fun t15 =>
 K4 PR X t1 [t15] fun t16 =>
 C3 t16 (
 R t8_1) (
 J3 t4_1)) fun J4 =>
 C3 t9 (
 J4) (
 J1 t4_1 t8_1)) (.int .i64 0) (.int .i64 0)
theorem c9 : A9 PR 266 := A7 Tryz.func266 (by kernel_rfl) rfl
theorem d7 {X : Nat → Prop} {t0 t1 : Value} {R : Value → WP} {w : World} (h : N4 X t0 t1 R w) : Fn PR X 266 #[t0, t1] w R := C6 (args := [t0, t1]) mixed Tryz.func266 (by kernel_rfl) h
theorem A2K : A9 PR 341 := A7 Tryz.func341 (by kernel_rfl) rfl
end Go.Proofs.YtjobgnabneddjaaGreat
namespace Go.Proofs.YtjobgnabneddjaaGreat
open Go
def A8u (X : Nat → Prop) (t0 t1 t2 : Value) (R : Value → WP) : WP :=
 B2 PR X (Instr.box 9 t0) fun t3 =>
 B2 PR X (Instr.box 3 t1) fun t4 =>
 jn (n := 2) (fun t6 t7 =>
 B2 PR X (Instr.alloc 89 true (.tuple #[])) fun t8 =>
 jn (n := 0) (
 A6 PR (Instr.loadAt 89 t8) fun t43 =>
 n0 (R (.tuple #[t43, (.bool true)]))) fun J1 =>
 B4 PR X 199 [t2] fun t30 =>
 rng (N := 2) PR X (fun t31 t32 K2 =>
 bgn <|
 drw <|
 A6 PR (Instr.loadAt 89 t8) fun t33 =>
 A6 PR (Instr.loadAt 9 t3) fun t34 =>
 A6 PR (Instr.loadAt 3 t4) fun t35 =>
 A0 PR (binOp .add 3 t35 t31) fun t37 =>
 A0 PR (Instr.index 9 t34 t37) fun t38 =>
 A0 PR (convert 5 89 t38) fun t39 =>
 A0 PR (binOp .shl 89 t39 t32) fun t41 =>
 A0 PR (binOp .or 89 t33 t41) fun t42 =>
 C1 PR (fun _ => False) (Instr.storeAt 89 t8 t42) <|
 K2 none) t30 (fun j => match j with | none => (J1) | some (.exit i) => (match Nat.beq i 0 with | true => (J1) | false => (G5)) | some .ret => (n0 (R (.tuple #[t6, t7]))) | some _ => G5)) fun J3 =>
 A0 PR (binOp .lss 3 t2 (.int .i64 1)) fun t12 =>
 gj t12 false (fun J => J t2) fun t14 =>
 gj t12 false (fun J => A0 PR (binOp .gtr 3 t14 (.int .i64 8)) J) fun t15 =>
 A0 PR (do pure (if ← asBool t12 then (.bool true) else t15)) fun t16 =>
 gj t16 false (fun J => A6 PR (Instr.loadAt 3 t4) J) fun t18 =>
 gj t16 false (fun J => A0 PR (binOp .lss 3 t18 (.int .i64 0)) J) fun t19 =>
 A0 PR (do pure (if ← asBool t16 then (.bool true) else t19)) fun t20 =>
 gj t20 false (fun J => A6 PR (Instr.loadAt 3 t4) J) fun t22 =>
 gj t20 false (fun J => A6 PR (Instr.loadAt 9 t3) J) fun t23 =>
 gj t20 false (fun J => A0 PR (A8 .len #[9] 0 [t23]) J) fun t24 =>
 gj t20 false (fun J => J t2) fun t25 =>
 gj t20 false (fun J => A0 PR (binOp .sub 3 t24 t25) J) fun t26 =>
 gj t20 false (fun J => A0 PR (binOp .gtr 3 t22 t26) J) fun t27 =>
 A0 PR (do pure (if ← asBool t20 then (.bool true) else t27)) fun t28 =>
 C3 t28 (
 n0 (R (.tuple #[(.int .u64 0), (.bool false)]))) (
 J3 (.int .u64 0) (.bool false))
theorem Q6 : A9 PR 145 := A7 Tryz.func145 (by kernel_rfl) rfl
theorem B6Y {X : Nat → Prop} {t0 t1 t2 : Value} {R : Value → WP} {w : World} (h : A8u X t0 t1 t2 R w) : Fn PR X 145 #[t0, t1, t2] w R := C6 (args := [t0, t1, t2]) mixed Tryz.func145 (by kernel_rfl) h
def A9n (X : Nat → Prop) (t0 t1 : Value) (R : Value → WP) : WP :=
 B2 PR X (Instr.box 89 t0) fun t2 =>
 jn (n := 1) (fun t4 =>
 B2 PR X (Instr.makeSlice 301 t1 t1) fun t15 =>
 B2 PR X (Instr.alloc 301 true (.tuple #[])) fun t5 =>
 C1 PR X (Instr.storeAt 301 t5 t15) <|
 jn (n := 0) (
 A6 PR (Instr.loadAt 301 t5) fun t27 =>
 A6 PR (convert 301 9 t27) fun t28 =>
 n0 (R t28)) fun J1 =>
 B4 PR X 199 [t1] fun t17 =>
 rng (N := 2) PR X (fun t18 t19 K2 =>
 bgn <|
 A6 PR (Instr.loadAt 301 t5) fun t20 =>
 A6 PR (Instr.loadAt 89 t2) fun t22 =>
 A0 PR (binOp .shr 89 t22 t19) fun t24 =>
 A0 PR (convert 89 5 t24) fun t25 =>
 A0 PR (Instr.indexAt 301 t20 t18) fun t26 =>
 C1 PR (fun _ => False) (Instr.storeAt 5 t26 t25) <|
 K2 none) t17 (fun j => match j with | none => (J1) | some (.exit i) => (match Nat.beq i 0 with | true => (J1) | false => (G5)) | some .ret => (n0 (R t4)) | some _ => G5)) fun J3 =>
 A0 PR (binOp .lss 3 t1 (.int .i64 1)) fun t9 =>
 gj t9 false (fun J => J t1) fun t11 =>
 gj t9 false (fun J => A0 PR (binOp .gtr 3 t11 (.int .i64 8)) J) fun t12 =>
 A0 PR (do pure (if ← asBool t9 then (.bool true) else t12)) fun t13 =>
 C3 t13 (
 n0 (R (.string (ByteArray.mk #[])))) (
 J3 (.string (ByteArray.mk #[])))
theorem G4 : A9 PR 176 := A7 Tryz.func176 (by kernel_rfl) rfl
theorem B6m {X : Nat → Prop} {t0 t1 : Value} {R : Value → WP} {w : World} (h : A9n X t0 t1 R w) : Fn PR X 176 #[t0, t1] w R := C6 (args := [t0, t1]) mixed Tryz.func176 (by kernel_rfl) h
def A6W (X : Nat → Prop) (t0 : Value) (R : Value → WP) : WP :=
 B2 PR X (Instr.box 3 t0) fun t1 =>
 A0 PR (Instr.makeFunc (.func 243) #[] #[t1]) fun t3 =>
 R t3
theorem A4d : A9 PR 199 := A7 Tryz.func199 (by kernel_rfl) rfl
theorem B3M {X : Nat → Prop} {t0 : Value} {R : Value → WP} {w : World} (h : A6W X t0 R w) : Fn PR X 199 #[t0] w R := C6 (args := [t0]) mixed Tryz.func199 (by kernel_rfl) h
def A2z (X : Nat → Prop) (t0 t1 : Value) (R : Value → WP) : WP :=
 A6 PR (Instr.loadAt 3 t1) fun t4 =>
 lp (n := 1) (fun L1 t5 =>
 A0 PR (binOp .lss 3 t5 t4) fun t6 =>
 jn (n := 0) (
 jn (n := 0) (
 A0 PR (binOp .add 3 t5 (.int .i64 1)) fun t18 =>
 L1 t18) fun J2 =>
 A6 PR (Instr.loadAt 3 t1) fun t10 =>
 A0 PR (binOp .sub 3 t10 (.int .i64 1)) fun t11 =>
 A0 PR (binOp .sub 3 t11 t5) fun t13 =>
 A0 PR (binOp .mul 3 (.int .i64 8) t13) fun t14 =>
 A0 PR (convert 3 242 t14) fun t15 =>
 K4 PR X t0 [t5, t15] fun t16 =>
 A0 PR (Op.unary .not t16) fun t17 =>
 C3 t17 (
 R (.tuple #[])) (
 J2)) fun J3 =>
 C3 t6 (
 J3) (
 R (.tuple #[]))) (.int .i64 0)
theorem A9Z : A9 PR 243 := A7 Tryz.func243 (by kernel_rfl) rfl
theorem B0L {X : Nat → Prop} {t0 t1 : Value} {R : Value → WP} {w : World} (h : A2z X t0 t1 R w) : Fn PR X 243 #[t0, t1] w R := C6 (args := [t0, t1]) mixed Tryz.func243 (by kernel_rfl) h
theorem B0S {X : Nat → Prop} {t0 t1 : Value} {K : Value → WP} {w : World} (h : Fn PR X 243 #[t0, t1] w K) : A1v PR X 243 [t0, t1] K w := ⟨A9Z, h⟩
end Go.Proofs.YtjobgnabneddjaaGreat
namespace Go.Proofs.YtjobgnabneddjaaGreat
open Go
theorem C39 : TI PR 144 Tryz.t144.desc 10 80 (.agg #[.nilFunc, .nilFunc, .nilFunc, .nilFunc, .nilFunc, .nilFunc, .nilFunc, .nilFunc, .nilFunc, .nilFunc]) := ⟨Tryz.underlying144, Tryz.t144, by kernel_rfl, rfl, rfl, rfl⟩
theorem A6b : TI PR 148 Tryz.t147.desc 3 24 (.agg #[(.int .i64 0), (.int .i64 0), (.int .i64 0)]) := ⟨Tryz.underlying148, Tryz.t148, by kernel_rfl, rfl, rfl, rfl⟩
theorem A98 : TI PR 155 Tryz.t154.desc 2 16 (.agg #[(.int .i64 0), (.int .i64 0)]) := ⟨Tryz.underlying155, Tryz.t155, by kernel_rfl, rfl, rfl, rfl⟩
theorem C8y : TI PR 180 Tryz.t180.desc 1 8 .nilFunc := ⟨Tryz.underlying180, Tryz.t180, by kernel_rfl, rfl, rfl, rfl⟩
theorem A4Z : TI PR 195 Tryz.t194.desc 2 48 (.agg #[(.slice none 0 0), (.slice none 0 0)]) := ⟨Tryz.underlying195, Tryz.t195, by kernel_rfl, rfl, rfl, rfl⟩
theorem A13 : TI PR 218 Tryz.t217.desc 4 40 (.agg #[(.int .i64 0), (.string (ByteArray.mk #[])), (.int .i64 0), (.int .i64 0)]) := ⟨Tryz.underlying218, Tryz.t218, by kernel_rfl, rfl, rfl, rfl⟩
theorem B0H : TI PR 224 Tryz.t223.desc 3 40 (.agg #[(.string (ByteArray.mk #[])), (.string (ByteArray.mk #[])), (.int .i64 0)]) := ⟨Tryz.underlying224, Tryz.t224, by kernel_rfl, rfl, rfl, rfl⟩
theorem A96 : TI PR 226 Tryz.t223.desc 3 40 (.agg #[(.string (ByteArray.mk #[])), (.string (ByteArray.mk #[])), (.int .i64 0)]) := ⟨Tryz.underlying226, Tryz.t226, by kernel_rfl, rfl, rfl, rfl⟩
theorem A91 : TI PR 263 Tryz.t133.desc 0 0 (.agg #[]) := ⟨Tryz.underlying263, Tryz.t263, by kernel_rfl, rfl, rfl, rfl⟩
theorem B95 : TI PR 27 Tryz.t3.desc 1 8 (.int .i64 0) := ⟨Tryz.underlying27, Tryz.t27, by kernel_rfl, rfl, rfl, rfl⟩
theorem A68 : TI PR 284 Tryz.t283.desc 2 16 (.agg #[(.int .u64 0), (.int .i64 0)]) := ⟨Tryz.underlying284, Tryz.t284, by kernel_rfl, rfl, rfl, rfl⟩
theorem H6 : TI PR 3 Tryz.t3.desc 1 8 (.int .i64 0) := ⟨Tryz.underlying3, Tryz.t3, by kernel_rfl, rfl, rfl, rfl⟩
theorem A25 : TI PR 301 Tryz.t301.desc 1 24 (.slice none 0 0) := ⟨Tryz.underlying301, Tryz.t301, by kernel_rfl, rfl, rfl, rfl⟩
theorem B0B : TI PR 303 Tryz.t302.desc 2 32 (.agg #[(.pointer none), (.slice none 0 0)]) := ⟨Tryz.underlying303, Tryz.t303, by kernel_rfl, rfl, rfl, rfl⟩
theorem C4c : TI PR 305 Tryz.t304.desc 2 32 (.agg #[(.pointer none), (.slice none 0 0)]) := ⟨Tryz.underlying305, Tryz.t305, by kernel_rfl, rfl, rfl, rfl⟩
theorem B91 : TI PR 324 Tryz.t84.desc 1 24 (.slice none 0 0) := ⟨Tryz.underlying324, Tryz.t324, by kernel_rfl, rfl, rfl, rfl⟩
theorem A99 : TI PR 330 Tryz.t329.desc 2 16 (.agg #[.nilFunc, (.int .i64 0)]) := ⟨Tryz.underlying330, Tryz.t330, by kernel_rfl, rfl, rfl, rfl⟩
theorem B9D : TI PR 355 Tryz.t355.desc 38 38 (.agg #[(.int .u8 0), (.int .u8 0), (.int .u8 0), (.int .u8 0), (.int .u8 0), (.int .u8 0), (.int .u8 0), (.int .u8 0), (.int .u8 0), (.int .u8 0), (.int .u8 0), (.int .u8 0), (.int .u8 0), (.int .u8 0), (.int .u8 0), (.int .u8 0), (.int .u8 0), (.int .u8 0), (.int .u8 0), (.int .u8 0), (.int .u8 0), (.int .u8 0), (.int .u8 0), (.int .u8 0), (.int .u8 0), (.int .u8 0), (.int .u8 0), (.int .u8 0), (.int .u8 0), (.int .u8 0), (.int .u8 0), (.int .u8 0), (.int .u8 0), (.int .u8 0), (.int .u8 0), (.int .u8 0), (.int .u8 0), (.int .u8 0)]) := ⟨Tryz.underlying355, Tryz.t355, by kernel_rfl, rfl, rfl, rfl⟩
theorem C9b : TI PR 368 Tryz.t368.desc 1 8 .nilFunc := ⟨Tryz.underlying368, Tryz.t368, by kernel_rfl, rfl, rfl, rfl⟩
theorem C4e : TI PR 370 Tryz.t89.desc 1 8 (.int .u64 0) := ⟨Tryz.underlying370, Tryz.t370, by kernel_rfl, rfl, rfl, rfl⟩
theorem B1P : TI PR 42 Tryz.t41.desc 3 3 (.agg #[(.bool false), (.bool false), (.bool false)]) := ⟨Tryz.underlying42, Tryz.t42, by kernel_rfl, rfl, rfl, rfl⟩
theorem A3S : TI PR 45 Tryz.t44.desc 6 64 (.agg #[(.int .i64 0), (.string (ByteArray.mk #[])), (.string (ByteArray.mk #[])), (.int .i64 0), (.int .i64 0), (.int .i64 0)]) := ⟨Tryz.underlying45, Tryz.t45, by kernel_rfl, rfl, rfl, rfl⟩
theorem B33 : TI PR 47 Tryz.t46.desc 7 72 (.agg #[(.int .i64 0), (.string (ByteArray.mk #[])), (.string (ByteArray.mk #[])), (.int .i64 0), (.int .i64 0), (.int .i64 0), (.int .i64 0)]) := ⟨Tryz.underlying47, Tryz.t47, by kernel_rfl, rfl, rfl, rfl⟩
theorem C3s : TI PR 51 Tryz.t51.desc 1 24 (.slice none 0 0) := ⟨Tryz.underlying51, Tryz.t51, by kernel_rfl, rfl, rfl, rfl⟩
theorem B3x : TI PR 55 Tryz.t54.desc 4 32 (.agg #[(.int .i64 0), (.int .i64 0), (.bool false), (.int .i64 0)]) := ⟨Tryz.underlying55, Tryz.t55, by kernel_rfl, rfl, rfl, rfl⟩
theorem A8a : TI PR 84 Tryz.t84.desc 1 24 (.slice none 0 0) := ⟨Tryz.underlying84, Tryz.t84, by kernel_rfl, rfl, rfl, rfl⟩
theorem A9S : TI PR 89 Tryz.t89.desc 1 8 (.int .u64 0) := ⟨Tryz.underlying89, Tryz.t89, by kernel_rfl, rfl, rfl, rfl⟩
theorem B2G : TI PR 103 Tryz.t103.desc 1 24 (.slice none 0 0) := ⟨Tryz.underlying103, Tryz.t103, by kernel_rfl, rfl, rfl, rfl⟩
theorem A7E : TI PR 270 Tryz.t269.desc 2 32 (.agg #[(.int .i64 0), (.slice none 0 0)]) := ⟨Tryz.underlying270, Tryz.t270, by kernel_rfl, rfl, rfl, rfl⟩
theorem B9v : TI PR 104 Tryz.t104.desc 1 24 (.slice none 0 0) := ⟨Tryz.underlying104, Tryz.t104, by kernel_rfl, rfl, rfl, rfl⟩
theorem C8f : TI PR 277 Tryz.t276.desc 2 16 (.agg #[(.int .i64 0), (.int .i64 0)]) := ⟨Tryz.underlying277, Tryz.t277, by kernel_rfl, rfl, rfl, rfl⟩
theorem B8j : TI PR 193 Tryz.t193.desc 1 24 (.slice none 0 0) := ⟨Tryz.underlying193, Tryz.t193, by kernel_rfl, rfl, rfl, rfl⟩
theorem B5T : TI PR 290 Tryz.t283.desc 2 16 (.agg #[(.int .u64 0), (.int .i64 0)]) := ⟨Tryz.underlying290, Tryz.t290, by kernel_rfl, rfl, rfl, rfl⟩
theorem B5W : TI PR 281 Tryz.t281.desc 1 24 (.slice none 0 0) := ⟨Tryz.underlying281, Tryz.t281, by kernel_rfl, rfl, rfl, rfl⟩
theorem B31 : TI PR 36 Tryz.t36.desc 1 24 (.slice none 0 0) := ⟨Tryz.underlying36, Tryz.t36, by kernel_rfl, rfl, rfl, rfl⟩
theorem A6x : TI PR 37 Tryz.t37.desc 1 24 (.slice none 0 0) := ⟨Tryz.underlying37, Tryz.t37, by kernel_rfl, rfl, rfl, rfl⟩
theorem ty9 : TI PR 9 Tryz.t9.desc 1 16 (.string (ByteArray.mk #[])) := ⟨Tryz.underlying9, Tryz.t9, by kernel_rfl, rfl, rfl, rfl⟩
theorem B3r : TI PR 58 Tryz.t58.desc 1 24 (.slice none 0 0) := ⟨Tryz.underlying58, Tryz.t58, by kernel_rfl, rfl, rfl, rfl⟩
theorem A22 : TI PR 106 Tryz.t105.desc 14 208 (.agg #[(.int .i64 0), (.int .i64 0), (.int .i64 0), (.int .i64 0), (.int .i64 0), (.int .i64 0), (.int .i64 0), (.slice none 0 0), (.slice none 0 0), (.slice none 0 0), (.slice none 0 0), (.slice none 0 0), (.slice none 0 0), (.int .i64 0)]) := ⟨Tryz.underlying106, Tryz.t106, by kernel_rfl, rfl, rfl, rfl⟩
@[simp] theorem C5U {v0 v1 v2 : Value} (h0 : v0.cells.size = 5) (h1 : v1.cells.size = 1) (h2 : v2.cells.size = 1) (K : Value → WP) : A0 PR (Instr.build 106 #[(0, v0), (3, v1), (8, v2)]) K = K (.agg (E5 (E5 (E5 #[(.int .i64 0), (.int .i64 0), (.int .i64 0), (.int .i64 0), (.int .i64 0), (.int .i64 0), (.int .i64 0), (.slice none 0 0), (.slice none 0 0), (.slice none 0 0), (.slice none 0 0), (.slice none 0 0), (.slice none 0 0), (.int .i64 0)] 0 v0.cells.toList) 7 v1.cells.toList) 12 v2.cells.toList)) := E6 (pl := #[(0, 5), (5, 1), (6, 1), (7, 1), (8, 1), (9, 1), (10, 1), (11, 1), (12, 1), (13, 1)]) A22 (fun w => by kernel_rfl) (by rw [B7 rfl h0 (by simp [C0]), B7 rfl h1 (by simp [C0]), B7 rfl h2 (by simp [C0])]; rfl)
theorem B0C : TI PR 128 Tryz.t127.desc 4 48 (.agg #[(.string (ByteArray.mk #[])), (.string (ByteArray.mk #[])), (.int .i64 0), (.bool false)]) := ⟨Tryz.underlying128, Tryz.t128, by kernel_rfl, rfl, rfl, rfl⟩
@[simp] theorem C9C {v0 : Value} (h0 : v0.cells.size = 1) (K : Value → WP) : A0 PR (Instr.build 128 #[(0, v0)]) K = K (.agg (E5 #[(.string (ByteArray.mk #[])), (.string (ByteArray.mk #[])), (.int .i64 0), (.bool false)] 0 v0.cells.toList)) := E6 (pl := #[(0, 1), (1, 1), (2, 1), (3, 1)]) B0C (fun w => by kernel_rfl) (by rw [B7 rfl h0 (by simp [C0])]; rfl)
theorem A24 : TI PR 130 Tryz.t129.desc 14 144 (.agg #[(.string (ByteArray.mk #[])), (.string (ByteArray.mk #[])), (.int .i64 0), (.bool false), (.int .i64 0), (.int .i64 0), (.int .i64 0), (.int .i64 0), (.int .i64 0), (.slice none 0 0), (.int .i64 0), (.int .i64 0), (.bool false), (.int .i64 0)]) := ⟨Tryz.underlying130, Tryz.t130, by kernel_rfl, rfl, rfl, rfl⟩
@[simp] theorem C7B {v0 v1 : Value} (h0 : v0.cells.size = 4) (h1 : v1.cells.size = 1) (K : Value → WP) : A0 PR (Instr.build 130 #[(0, v0), (1, v1)]) K = K (.agg (E5 (E5 #[(.string (ByteArray.mk #[])), (.string (ByteArray.mk #[])), (.int .i64 0), (.bool false), (.int .i64 0), (.int .i64 0), (.int .i64 0), (.int .i64 0), (.int .i64 0), (.slice none 0 0), (.int .i64 0), (.int .i64 0), (.bool false), (.int .i64 0)] 0 v0.cells.toList) 4 v1.cells.toList)) := E6 (pl := #[(0, 4), (4, 1), (5, 1), (6, 1), (7, 1), (8, 1), (9, 1), (10, 4)]) A24 (fun w => by kernel_rfl) (by rw [B7 rfl h0 (by simp [C0]), B7 rfl h1 (by simp [C0])]; rfl)
theorem B5L : TI PR 141 Tryz.t140.desc 3 56 (.agg #[(.int .i64 0), (.slice none 0 0), (.slice none 0 0)]) := ⟨Tryz.underlying141, Tryz.t141, by kernel_rfl, rfl, rfl, rfl⟩
@[simp] theorem C6Y {v0 v1 : Value} (h0 : v0.cells.size = 1) (h1 : v1.cells.size = 1) (K : Value → WP) : A0 PR (Instr.build 141 #[(1, v0), (2, v1)]) K = K (.agg (E5 (E5 #[(.int .i64 0), (.slice none 0 0), (.slice none 0 0)] 1 v0.cells.toList) 2 v1.cells.toList)) := E6 (pl := #[(0, 1), (1, 1), (2, 1)]) B5L (fun w => by kernel_rfl) (by rw [B7 rfl h0 (by simp [C0]), B7 rfl h1 (by simp [C0])]; rfl)
@[simp] theorem D0a  (K : Value → WP) : A0 PR (Instr.build 148 #[]) K = K (.agg #[(.int .i64 0), (.int .i64 0), (.int .i64 0)]) := E6 (pl := #[(0, 1), (1, 1), (2, 1)]) A6b (fun w => by kernel_rfl) rfl
@[simp] theorem C6M {v0 v1 : Value} (h0 : v0.cells.size = 1) (h1 : v1.cells.size = 1) (K : Value → WP) : A0 PR (Instr.build 148 #[(0, v0), (1, v1)]) K = K (.agg (E5 (E5 #[(.int .i64 0), (.int .i64 0), (.int .i64 0)] 0 v0.cells.toList) 1 v1.cells.toList)) := E6 (pl := #[(0, 1), (1, 1), (2, 1)]) A6b (fun w => by kernel_rfl) (by rw [B7 rfl h0 (by simp [C0]), B7 rfl h1 (by simp [C0])]; rfl)
@[simp] theorem C46 {v0 v1 v2 : Value} (h0 : v0.cells.size = 1) (h1 : v1.cells.size = 1) (h2 : v2.cells.size = 1) (K : Value → WP) : A0 PR (Instr.build 148 #[(0, v0), (1, v1), (2, v2)]) K = K (.agg (E5 (E5 (E5 #[(.int .i64 0), (.int .i64 0), (.int .i64 0)] 0 v0.cells.toList) 1 v1.cells.toList) 2 v2.cells.toList)) := E6 (pl := #[(0, 1), (1, 1), (2, 1)]) A6b (fun w => by kernel_rfl) (by rw [B7 rfl h0 (by simp [C0]), B7 rfl h1 (by simp [C0]), B7 rfl h2 (by simp [C0])]; rfl)
theorem B19 : TI PR 158 Tryz.t158.desc 2 16 (.agg #[(.int .i64 0), (.int .i64 0)]) := ⟨Tryz.underlying158, Tryz.t158, by kernel_rfl, rfl, rfl, rfl⟩
@[simp] theorem C6l {v0 v1 : Value} (h0 : v0.cells.size = 1) (h1 : v1.cells.size = 1) (K : Value → WP) : A0 PR (Instr.build 195 #[(0, v0), (1, v1)]) K = K (.agg (E5 (E5 #[(.slice none 0 0), (.slice none 0 0)] 0 v0.cells.toList) 1 v1.cells.toList)) := E6 (pl := #[(0, 1), (1, 1)]) A4Z (fun w => by kernel_rfl) (by rw [B7 rfl h0 (by simp [C0]), B7 rfl h1 (by simp [C0])]; rfl)
theorem C7n : TI PR 203 Tryz.t202.desc 17 136 (.agg #[(.int .i64 0), (.int .i64 0), (.int .i64 0), (.int .i64 0), (.int .i64 0), (.int .i64 0), (.int .i64 0), (.int .i64 0), (.int .i64 0), (.int .i64 0), (.int .i64 0), (.int .i64 0), (.int .i64 0), (.int .i64 0), (.int .i64 0), (.int .i64 0), (.int .i64 0)]) := ⟨Tryz.underlying203, Tryz.t203, by kernel_rfl, rfl, rfl, rfl⟩
@[simp] theorem C9a {v0 : Value} (h0 : v0.cells.size = 1) (K : Value → WP) : A0 PR (Instr.build 203 #[(1, v0)]) K = K (.agg (E5 #[(.int .i64 0), (.int .i64 0), (.int .i64 0), (.int .i64 0), (.int .i64 0), (.int .i64 0), (.int .i64 0), (.int .i64 0), (.int .i64 0), (.int .i64 0), (.int .i64 0), (.int .i64 0), (.int .i64 0), (.int .i64 0), (.int .i64 0), (.int .i64 0), (.int .i64 0)] 16 v0.cells.toList)) := E6 (pl := #[(0, 16), (16, 1)]) C7n (fun w => by kernel_rfl) (by rw [B7 rfl h0 (by simp [C0])]; rfl)
@[simp] theorem C3U {v0 v1 v2 v3 : Value} (h0 : v0.cells.size = 1) (h1 : v1.cells.size = 1) (h2 : v2.cells.size = 1) (h3 : v3.cells.size = 1) (K : Value → WP) : A0 PR (Instr.build 218 #[(0, v0), (1, v1), (2, v2), (3, v3)]) K = K (.agg (E5 (E5 (E5 (E5 #[(.int .i64 0), (.string (ByteArray.mk #[])), (.int .i64 0), (.int .i64 0)] 0 v0.cells.toList) 1 v1.cells.toList) 2 v2.cells.toList) 3 v3.cells.toList)) := E6 (pl := #[(0, 1), (1, 1), (2, 1), (3, 1)]) A13 (fun w => by kernel_rfl) (by rw [B7 rfl h0 (by simp [C0]), B7 rfl h1 (by simp [C0]), B7 rfl h2 (by simp [C0]), B7 rfl h3 (by simp [C0])]; rfl)
@[simp] theorem C9S {v0 : Value} (h0 : v0.cells.size = 1) (K : Value → WP) : A0 PR (Instr.build 218 #[(0, v0)]) K = K (.agg (E5 #[(.int .i64 0), (.string (ByteArray.mk #[])), (.int .i64 0), (.int .i64 0)] 0 v0.cells.toList)) := E6 (pl := #[(0, 1), (1, 1), (2, 1), (3, 1)]) A13 (fun w => by kernel_rfl) (by rw [B7 rfl h0 (by simp [C0])]; rfl)
@[simp] theorem C9r  (K : Value → WP) : A0 PR (Instr.build 224 #[]) K = K (.agg #[(.string (ByteArray.mk #[])), (.string (ByteArray.mk #[])), (.int .i64 0)]) := E6 (pl := #[(0, 1), (1, 1), (2, 1)]) B0H (fun w => by kernel_rfl) rfl
@[simp] theorem C4p {v0 v1 v2 : Value} (h0 : v0.cells.size = 1) (h1 : v1.cells.size = 1) (h2 : v2.cells.size = 1) (K : Value → WP) : A0 PR (Instr.build 224 #[(0, v0), (1, v1), (2, v2)]) K = K (.agg (E5 (E5 (E5 #[(.string (ByteArray.mk #[])), (.string (ByteArray.mk #[])), (.int .i64 0)] 0 v0.cells.toList) 1 v1.cells.toList) 2 v2.cells.toList)) := E6 (pl := #[(0, 1), (1, 1), (2, 1)]) B0H (fun w => by kernel_rfl) (by rw [B7 rfl h0 (by simp [C0]), B7 rfl h1 (by simp [C0]), B7 rfl h2 (by simp [C0])]; rfl)
@[simp] theorem D0Q  (K : Value → WP) : A0 PR (Instr.build 226 #[]) K = K (.agg #[(.string (ByteArray.mk #[])), (.string (ByteArray.mk #[])), (.int .i64 0)]) := E6 (pl := #[(0, 1), (1, 1), (2, 1)]) A96 (fun w => by kernel_rfl) rfl
@[simp] theorem C5g {v0 v1 v2 : Value} (h0 : v0.cells.size = 1) (h1 : v1.cells.size = 1) (h2 : v2.cells.size = 1) (K : Value → WP) : A0 PR (Instr.build 226 #[(0, v0), (1, v1), (2, v2)]) K = K (.agg (E5 (E5 (E5 #[(.string (ByteArray.mk #[])), (.string (ByteArray.mk #[])), (.int .i64 0)] 0 v0.cells.toList) 1 v1.cells.toList) 2 v2.cells.toList)) := E6 (pl := #[(0, 1), (1, 1), (2, 1)]) A96 (fun w => by kernel_rfl) (by rw [B7 rfl h0 (by simp [C0]), B7 rfl h1 (by simp [C0]), B7 rfl h2 (by simp [C0])]; rfl)
theorem A30 : TI PR 23 Tryz.t22.desc 5 40 (.agg #[(.int .i64 0), (.int .i64 0), (.int .i64 0), (.int .i64 0), (.int .i64 0)]) := ⟨Tryz.underlying23, Tryz.t23, by kernel_rfl, rfl, rfl, rfl⟩
@[simp] theorem C2D {v0 v1 v2 v3 v4 : Value} (h0 : v0.cells.size = 1) (h1 : v1.cells.size = 1) (h2 : v2.cells.size = 1) (h3 : v3.cells.size = 1) (h4 : v4.cells.size = 1) (K : Value → WP) : A0 PR (Instr.build 23 #[(0, v0), (1, v1), (2, v2), (3, v3), (4, v4)]) K = K (.agg (E5 (E5 (E5 (E5 (E5 #[(.int .i64 0), (.int .i64 0), (.int .i64 0), (.int .i64 0), (.int .i64 0)] 0 v0.cells.toList) 1 v1.cells.toList) 2 v2.cells.toList) 3 v3.cells.toList) 4 v4.cells.toList)) := E6 (pl := #[(0, 1), (1, 1), (2, 1), (3, 1), (4, 1)]) A30 (fun w => by kernel_rfl) (by rw [B7 rfl h0 (by simp [C0]), B7 rfl h1 (by simp [C0]), B7 rfl h2 (by simp [C0]), B7 rfl h3 (by simp [C0]), B7 rfl h4 (by simp [C0])]; rfl)
theorem C4Q : TI PR 231 Tryz.t230.desc 1 24 (.agg #[(.slice none 0 0)]) := ⟨Tryz.underlying231, Tryz.t231, by kernel_rfl, rfl, rfl, rfl⟩
@[simp] theorem C9k {v0 : Value} (h0 : v0.cells.size = 1) (K : Value → WP) : A0 PR (Instr.build 231 #[(0, v0)]) K = K (.agg (E5 #[(.slice none 0 0)] 0 v0.cells.toList)) := E6 (pl := #[(0, 1)]) C4Q (fun w => by kernel_rfl) (by rw [B7 rfl h0 (by simp [C0])]; rfl)
@[simp] theorem C97  (K : Value → WP) : A0 PR (Instr.build 263 #[]) K = K (.agg #[]) := E6 (pl := #[]) A91 (fun w => by kernel_rfl) rfl
@[simp] theorem D1Q  (K : Value → WP) : A0 PR (Instr.build 270 #[]) K = K (.agg #[(.int .i64 0), (.slice none 0 0)]) := E6 (pl := #[(0, 1), (1, 1)]) A7E (fun w => by kernel_rfl) rfl
@[simp] theorem C6K {v0 v1 : Value} (h0 : v0.cells.size = 1) (h1 : v1.cells.size = 1) (K : Value → WP) : A0 PR (Instr.build 270 #[(0, v0), (1, v1)]) K = K (.agg (E5 (E5 #[(.int .i64 0), (.slice none 0 0)] 0 v0.cells.toList) 1 v1.cells.toList)) := E6 (pl := #[(0, 1), (1, 1)]) A7E (fun w => by kernel_rfl) (by rw [B7 rfl h0 (by simp [C0]), B7 rfl h1 (by simp [C0])]; rfl)
@[simp] theorem C8k {v0 : Value} (h0 : v0.cells.size = 1) (K : Value → WP) : A0 PR (Instr.build 270 #[(0, v0)]) K = K (.agg (E5 #[(.int .i64 0), (.slice none 0 0)] 0 v0.cells.toList)) := E6 (pl := #[(0, 1), (1, 1)]) A7E (fun w => by kernel_rfl) (by rw [B7 rfl h0 (by simp [C0])]; rfl)
@[simp] theorem C57 {v0 v1 : Value} (h0 : v0.cells.size = 1) (h1 : v1.cells.size = 1) (K : Value → WP) : A0 PR (Instr.build 284 #[(0, v0), (1, v1)]) K = K (.agg (E5 (E5 #[(.int .u64 0), (.int .i64 0)] 0 v0.cells.toList) 1 v1.cells.toList)) := E6 (pl := #[(0, 1), (1, 1)]) A68 (fun w => by kernel_rfl) (by rw [B7 rfl h0 (by simp [C0]), B7 rfl h1 (by simp [C0])]; rfl)
@[simp] theorem C6j {v0 v1 : Value} (h0 : v0.cells.size = 1) (h1 : v1.cells.size = 1) (K : Value → WP) : A0 PR (Instr.build 330 #[(0, v0), (1, v1)]) K = K (.agg (E5 (E5 #[.nilFunc, (.int .i64 0)] 0 v0.cells.toList) 1 v1.cells.toList)) := E6 (pl := #[(0, 1), (1, 1)]) A99 (fun w => by kernel_rfl) (by rw [B7 rfl h0 (by simp [C0]), B7 rfl h1 (by simp [C0])]; rfl)
theorem C4V : TI PR 333 Tryz.t133.desc 0 0 (.agg #[]) := ⟨Tryz.underlying333, Tryz.t333, by kernel_rfl, rfl, rfl, rfl⟩
@[simp] theorem D0E  (K : Value → WP) : A0 PR (Instr.build 333 #[]) K = K (.agg #[]) := E6 (pl := #[]) C4V (fun w => by kernel_rfl) rfl
theorem C4F : TI PR 334 Tryz.t133.desc 0 0 (.agg #[]) := ⟨Tryz.underlying334, Tryz.t334, by kernel_rfl, rfl, rfl, rfl⟩
@[simp] theorem D0P  (K : Value → WP) : A0 PR (Instr.build 334 #[]) K = K (.agg #[]) := E6 (pl := #[]) C4F (fun w => by kernel_rfl) rfl
theorem A9C : TI PR 39 Tryz.t38.desc 11 120 (.agg #[(.int .i64 0), (.int .i64 0), (.int .i64 0), (.int .i64 0), (.int .i64 0), (.pointer none), (.pointer none), (.pointer none), (.slice none 0 0), (.slice none 0 0), (.int .i64 0)]) := ⟨Tryz.underlying39, Tryz.t39, by kernel_rfl, rfl, rfl, rfl⟩
@[simp] theorem D0M {v0 : Value} (h0 : v0.cells.size = 5) (K : Value → WP) : A0 PR (Instr.build 39 #[(0, v0)]) K = K (.agg (E5 #[(.int .i64 0), (.int .i64 0), (.int .i64 0), (.int .i64 0), (.int .i64 0), (.pointer none), (.pointer none), (.pointer none), (.slice none 0 0), (.slice none 0 0), (.int .i64 0)] 0 v0.cells.toList)) := E6 (pl := #[(0, 5), (5, 1), (6, 1), (7, 1), (8, 1), (9, 1), (10, 1)]) A9C (fun w => by kernel_rfl) (by rw [B7 rfl h0 (by simp [C0])]; rfl)
@[simp] theorem D2G  (K : Value → WP) : A0 PR (Instr.build 42 #[]) K = K (.agg #[(.bool false), (.bool false), (.bool false)]) := E6 (pl := #[(0, 1), (1, 1), (2, 1)]) B1P (fun w => by kernel_rfl) rfl
@[simp] theorem C7Z {v0 v1 : Value} (h0 : v0.cells.size = 1) (h1 : v1.cells.size = 1) (K : Value → WP) : A0 PR (Instr.build 42 #[(0, v0), (1, v1)]) K = K (.agg (E5 (E5 #[(.bool false), (.bool false), (.bool false)] 0 v0.cells.toList) 1 v1.cells.toList)) := E6 (pl := #[(0, 1), (1, 1), (2, 1)]) B1P (fun w => by kernel_rfl) (by rw [B7 rfl h0 (by simp [C0]), B7 rfl h1 (by simp [C0])]; rfl)
@[simp] theorem D0k {v0 : Value} (h0 : v0.cells.size = 1) (K : Value → WP) : A0 PR (Instr.build 42 #[(0, v0)]) K = K (.agg (E5 #[(.bool false), (.bool false), (.bool false)] 0 v0.cells.toList)) := E6 (pl := #[(0, 1), (1, 1), (2, 1)]) B1P (fun w => by kernel_rfl) (by rw [B7 rfl h0 (by simp [C0])]; rfl)
@[simp] theorem C9p {v0 : Value} (h0 : v0.cells.size = 1) (K : Value → WP) : A0 PR (Instr.build 42 #[(1, v0)]) K = K (.agg (E5 #[(.bool false), (.bool false), (.bool false)] 1 v0.cells.toList)) := E6 (pl := #[(0, 1), (1, 1), (2, 1)]) B1P (fun w => by kernel_rfl) (by rw [B7 rfl h0 (by simp [C0])]; rfl)
@[simp] theorem D0g {v0 : Value} (h0 : v0.cells.size = 1) (K : Value → WP) : A0 PR (Instr.build 42 #[(2, v0)]) K = K (.agg (E5 #[(.bool false), (.bool false), (.bool false)] 2 v0.cells.toList)) := E6 (pl := #[(0, 1), (1, 1), (2, 1)]) B1P (fun w => by kernel_rfl) (by rw [B7 rfl h0 (by simp [C0])]; rfl)
@[simp] theorem D15  (K : Value → WP) : A0 PR (Instr.build 45 #[]) K = K (.agg #[(.int .i64 0), (.string (ByteArray.mk #[])), (.string (ByteArray.mk #[])), (.int .i64 0), (.int .i64 0), (.int .i64 0)]) := E6 (pl := #[(0, 1), (1, 1), (2, 1), (3, 1), (4, 1), (5, 1)]) A3S (fun w => by kernel_rfl) rfl
@[simp] theorem C0C {v0 v1 v2 v3 v4 v5 : Value} (h0 : v0.cells.size = 1) (h1 : v1.cells.size = 1) (h2 : v2.cells.size = 1) (h3 : v3.cells.size = 1) (h4 : v4.cells.size = 1) (h5 : v5.cells.size = 1) (K : Value → WP) : A0 PR (Instr.build 45 #[(0, v0), (1, v1), (2, v2), (3, v3), (4, v4), (5, v5)]) K = K (.agg (E5 (E5 (E5 (E5 (E5 (E5 #[(.int .i64 0), (.string (ByteArray.mk #[])), (.string (ByteArray.mk #[])), (.int .i64 0), (.int .i64 0), (.int .i64 0)] 0 v0.cells.toList) 1 v1.cells.toList) 2 v2.cells.toList) 3 v3.cells.toList) 4 v4.cells.toList) 5 v5.cells.toList)) := E6 (pl := #[(0, 1), (1, 1), (2, 1), (3, 1), (4, 1), (5, 1)]) A3S (fun w => by kernel_rfl) (by rw [B7 rfl h0 (by simp [C0]), B7 rfl h1 (by simp [C0]), B7 rfl h2 (by simp [C0]), B7 rfl h3 (by simp [C0]), B7 rfl h4 (by simp [C0]), B7 rfl h5 (by simp [C0])]; rfl)
@[simp] theorem C4G {v0 v1 v2 v3 : Value} (h0 : v0.cells.size = 1) (h1 : v1.cells.size = 1) (h2 : v2.cells.size = 1) (h3 : v3.cells.size = 1) (K : Value → WP) : A0 PR (Instr.build 45 #[(0, v0), (1, v1), (2, v2), (5, v3)]) K = K (.agg (E5 (E5 (E5 (E5 #[(.int .i64 0), (.string (ByteArray.mk #[])), (.string (ByteArray.mk #[])), (.int .i64 0), (.int .i64 0), (.int .i64 0)] 0 v0.cells.toList) 1 v1.cells.toList) 2 v2.cells.toList) 5 v3.cells.toList)) := E6 (pl := #[(0, 1), (1, 1), (2, 1), (3, 1), (4, 1), (5, 1)]) A3S (fun w => by kernel_rfl) (by rw [B7 rfl h0 (by simp [C0]), B7 rfl h1 (by simp [C0]), B7 rfl h2 (by simp [C0]), B7 rfl h3 (by simp [C0])]; rfl)
@[simp] theorem D1j  (K : Value → WP) : A0 PR (Instr.build 47 #[]) K = K (.agg #[(.int .i64 0), (.string (ByteArray.mk #[])), (.string (ByteArray.mk #[])), (.int .i64 0), (.int .i64 0), (.int .i64 0), (.int .i64 0)]) := E6 (pl := #[(0, 6), (6, 1)]) B33 (fun w => by kernel_rfl) rfl
@[simp] theorem C7U {v0 v1 : Value} (h0 : v0.cells.size = 6) (h1 : v1.cells.size = 1) (K : Value → WP) : A0 PR (Instr.build 47 #[(0, v0), (1, v1)]) K = K (.agg (E5 (E5 #[(.int .i64 0), (.string (ByteArray.mk #[])), (.string (ByteArray.mk #[])), (.int .i64 0), (.int .i64 0), (.int .i64 0), (.int .i64 0)] 0 v0.cells.toList) 6 v1.cells.toList)) := E6 (pl := #[(0, 6), (6, 1)]) B33 (fun w => by kernel_rfl) (by rw [B7 rfl h0 (by simp [C0]), B7 rfl h1 (by simp [C0])]; rfl)
@[simp] theorem D0N {v0 : Value} (h0 : v0.cells.size = 6) (K : Value → WP) : A0 PR (Instr.build 47 #[(0, v0)]) K = K (.agg (E5 #[(.int .i64 0), (.string (ByteArray.mk #[])), (.string (ByteArray.mk #[])), (.int .i64 0), (.int .i64 0), (.int .i64 0), (.int .i64 0)] 0 v0.cells.toList)) := E6 (pl := #[(0, 6), (6, 1)]) B33 (fun w => by kernel_rfl) (by rw [B7 rfl h0 (by simp [C0])]; rfl)
@[simp] theorem D0r {v0 : Value} (h0 : v0.cells.size = 1) (K : Value → WP) : A0 PR (Instr.build 55 #[(0, v0)]) K = K (.agg (E5 #[(.int .i64 0), (.int .i64 0), (.bool false), (.int .i64 0)] 0 v0.cells.toList)) := E6 (pl := #[(0, 1), (1, 1), (2, 1), (3, 1)]) B3x (fun w => by kernel_rfl) (by rw [B7 rfl h0 (by simp [C0])]; rfl)
@[simp] theorem C7S {v0 v1 : Value} (h0 : v0.cells.size = 1) (h1 : v1.cells.size = 1) (K : Value → WP) : A0 PR (Instr.build 55 #[(1, v0), (2, v1)]) K = K (.agg (E5 (E5 #[(.int .i64 0), (.int .i64 0), (.bool false), (.int .i64 0)] 1 v0.cells.toList) 2 v1.cells.toList)) := E6 (pl := #[(0, 1), (1, 1), (2, 1), (3, 1)]) B3x (fun w => by kernel_rfl) (by rw [B7 rfl h0 (by simp [C0]), B7 rfl h1 (by simp [C0])]; rfl)
@[simp] theorem D0b {v0 : Value} (h0 : v0.cells.size = 1) (K : Value → WP) : A0 PR (Instr.build 55 #[(1, v0)]) K = K (.agg (E5 #[(.int .i64 0), (.int .i64 0), (.bool false), (.int .i64 0)] 1 v0.cells.toList)) := E6 (pl := #[(0, 1), (1, 1), (2, 1), (3, 1)]) B3x (fun w => by kernel_rfl) (by rw [B7 rfl h0 (by simp [C0])]; rfl)
theorem B34 : TI PR 79 Tryz.t78.desc 3 40 (.agg #[(.int .i64 0), (.int .i64 0), (.slice none 0 0)]) := ⟨Tryz.underlying79, Tryz.t79, by kernel_rfl, rfl, rfl, rfl⟩
theorem B8w : TI PR 228 Tryz.t228.desc 1 24 (.slice none 0 0) := ⟨Tryz.underlying228, Tryz.t228, by kernel_rfl, rfl, rfl, rfl⟩
theorem B98 : TI PR 124 Tryz.t124.desc 1 8 .nilFunc := ⟨Tryz.underlying124, Tryz.t124, by kernel_rfl, rfl, rfl, rfl⟩
theorem B9Y : TI PR 259 Tryz.t259.desc 1 24 (.slice none 0 0) := ⟨Tryz.underlying259, Tryz.t259, by kernel_rfl, rfl, rfl, rfl⟩
theorem ty5 : TI PR 5 Tryz.t5.desc 1 1 (.int .u8 0) := ⟨Tryz.underlying5, Tryz.t5, by kernel_rfl, rfl, rfl, rfl⟩
theorem B9l : TI PR 375 Tryz.t375.desc 1 24 (.slice none 0 0) := ⟨Tryz.underlying375, Tryz.t375, by kernel_rfl, rfl, rfl, rfl⟩
theorem C4L : TI PR 242 Tryz.t242.desc 1 8 (.int .u64 0) := ⟨Tryz.underlying242, Tryz.t242, by kernel_rfl, rfl, rfl, rfl⟩
@[simp] theorem C9K {k : IntKind} (a : Int) (K : Value → WP) : A0 PR (convert 242 3 (.int k a)) K = K (.int .i64 (IntKind.i64.wrap a)) := A2H H6 C4L
@[simp] theorem C7q {k : IntKind} (a : Int) (K : Value → WP) : A0 PR (convert 3 242 (.int k a)) K = K (.int .u64 (IntKind.u64.wrap a)) := A2H C4L H6
@[simp] theorem D0C {k : IntKind} (a : Int) (K : Value → WP) : A0 PR (convert 3 89 (.int k a)) K = K (.int .u64 (IntKind.u64.wrap a)) := A2H A9S H6
theorem B7s {K : Value → WP} {w : World} {b o cap : Nat} {ns : List Int} (hr : L9 w b o (ns.map (Value.int .u8))) : A6 PR (convert 301 9 (.slice (some ⟨b, o, none⟩) ns.length cap)) K w = K (.string (A3C ns)) w := C77 A25 ty5 ty9 hr
@[simp] theorem D2N {k : IntKind} (a : Int) (K : Value → WP) : A0 PR (convert 5 3 (.int k a)) K = K (.int .i64 (IntKind.i64.wrap a)) := A2H H6 ty5
@[simp] theorem C9L {k : IntKind} (a : Int) (K : Value → WP) : A0 PR (convert 5 370 (.int k a)) K = K (.int .u64 (IntKind.u64.wrap a)) := A2H C4e ty5
@[simp] theorem D0z {k : IntKind} (a : Int) (K : Value → WP) : A0 PR (convert 5 89 (.int k a)) K = K (.int .u64 (IntKind.u64.wrap a)) := A2H A9S ty5
@[simp] theorem D0Y {k : IntKind} (a : Int) (K : Value → WP) : A0 PR (convert 89 3 (.int k a)) K = K (.int .i64 (IntKind.i64.wrap a)) := A2H H6 A9S
@[simp] theorem D1S {k : IntKind} (a : Int) (K : Value → WP) : A0 PR (convert 89 5 (.int k a)) K = K (.int .u8 (IntKind.u8.wrap a)) := A2H ty5 A9S
theorem C4U : TI PR 131 Tryz.t131.desc 1 8 (.pointer none) := ⟨Tryz.underlying131, Tryz.t131, by kernel_rfl, rfl, rfl, rfl⟩
@[simp] theorem B9E (a : Option Addr) (x y : Operand) (K : Value → WP) (w : World) : A6 PR (G9 .eql 131 x y (.pointer a) (.pointer none)) K w = K (.bool a.isNone) w := A9z C4U
theorem C2z : TI PR 26 Tryz.t26.desc 1 8 (.pointer none) := ⟨Tryz.underlying26, Tryz.t26, by kernel_rfl, rfl, rfl, rfl⟩
@[simp] theorem C13 (a : Option Addr) (x y : Operand) (K : Value → WP) (w : World) : A6 PR (G9 .eql 26 x y (.pointer a) (.pointer none)) K w = K (.bool a.isNone) w := A9z C2z
theorem C7G : TI PR 30 Tryz.t30.desc 1 8 (.pointer none) := ⟨Tryz.underlying30, Tryz.t30, by kernel_rfl, rfl, rfl, rfl⟩
@[simp] theorem C0T (a : Option Addr) (x y : Operand) (K : Value → WP) (w : World) : A6 PR (G9 .eql 30 x y (.pointer a) (.pointer none)) K w = K (.bool a.isNone) w := A9z C7G
theorem B5S : TI PR 300 Tryz.t300.desc 1 8 (.pointer none) := ⟨Tryz.underlying300, Tryz.t300, by kernel_rfl, rfl, rfl, rfl⟩
@[simp] theorem B89 (a : Option Addr) (x y : Operand) (K : Value → WP) (w : World) : A6 PR (G9 .eql 300 x y (.pointer a) (.pointer none)) K w = K (.bool a.isNone) w := A9z B5S
theorem ty4 : TI PR 4 Tryz.t4.desc 1 1 (.bool false) := ⟨Tryz.underlying4, Tryz.t4, by kernel_rfl, rfl, rfl, rfl⟩
@[simp] theorem C3L (a0 b0 : Bool) (a1 b1 : Bool) (a2 b2 : Bool) (x y : Operand) (K : Value → WP) (w : World) : A6 PR (G9 .eql 42 x y (.agg #[.bool a0, .bool a1, .bool a2]) (.agg #[.bool b0, .bool b1, .bool b2])) K w = K (.bool ((a0 == b0) && ((a1 == b1) && ((a2 == b2) && true)))) w := C37 (by kernel_rfl) (B2g (e := 9999) B1P (by kernel_rfl) (A0D rfl ty4 rfl rfl rfl (A3v (e := 9998) ty4) (A0D rfl ty4 rfl rfl rfl (A3v (e := 9998) ty4) (A0D rfl ty4 rfl rfl rfl (A3v (e := 9998) ty4) (B8Y)))))
@[simp] theorem C20 (a0 b0 : Int) (a1 b1 : Int) (a2 b2 : Bool) (a3 b3 : Int) (x y : Operand) (K : Value → WP) (w : World) : A6 PR (G9 .eql 55 x y (.agg #[.int .i64 a0, .int .i64 a1, .bool a2, .int .i64 a3]) (.agg #[.int .i64 b0, .int .i64 b1, .bool b2, .int .i64 b3])) K w = K (.bool (decide (a0 = b0) && (decide (a1 = b1) && ((a2 == b2) && (decide (a3 = b3) && true))))) w := C37 (by kernel_rfl) (B2g (e := 9999) B3x (by kernel_rfl) (A0D rfl B95 rfl rfl rfl (B3l (e := 9998) B95) (A0D rfl H6 rfl rfl rfl (B3l (e := 9998) H6) (A0D rfl ty4 rfl rfl rfl (A3v (e := 9998) ty4) (A0D rfl H6 rfl rfl rfl (B3l (e := 9998) H6) (B8Y))))))
@[simp] theorem B88 (a : Option Addr) (x y : Operand) (K : Value → WP) (w : World) : A6 PR (G9 .neq 131 x y (.pointer a) (.pointer none)) K w = K (.bool (!a.isNone)) w := A5u C4U
@[simp] theorem C0p (a : Option Addr) (x y : Operand) (K : Value → WP) (w : World) : A6 PR (G9 .neq 26 x y (.pointer a) (.pointer none)) K w = K (.bool (!a.isNone)) w := A5u C2z
theorem C2E : TI PR 33 Tryz.t33.desc 1 8 (.pointer none) := ⟨Tryz.underlying33, Tryz.t33, by kernel_rfl, rfl, rfl, rfl⟩
@[simp] theorem C0P (a : Option Addr) (x y : Operand) (K : Value → WP) (w : World) : A6 PR (G9 .neq 33 x y (.pointer a) (.pointer none)) K w = K (.bool (!a.isNone)) w := A5u C2E
theorem C3V : TI PR 34 Tryz.t34.desc 1 8 (.pointer none) := ⟨Tryz.underlying34, Tryz.t34, by kernel_rfl, rfl, rfl, rfl⟩
@[simp] theorem C0a (a : Option Addr) (x y : Operand) (K : Value → WP) (w : World) : A6 PR (G9 .neq 34 x y (.pointer a) (.pointer none)) K w = K (.bool (!a.isNone)) w := A5u C3V
theorem C2M : TI PR 35 Tryz.t35.desc 1 8 (.pointer none) := ⟨Tryz.underlying35, Tryz.t35, by kernel_rfl, rfl, rfl, rfl⟩
@[simp] theorem C0r (a : Option Addr) (x y : Operand) (K : Value → WP) (w : World) : A6 PR (G9 .neq 35 x y (.pointer a) (.pointer none)) K w = K (.bool (!a.isNone)) w := A5u C2M
@[simp] theorem C8z (b o : Nat) (K : Value → WP) : A0 PR (Instr.fieldAt 106 (.pointer (some ⟨b, o, none⟩)) 0) K = K (.pointer (some ⟨b, o, none⟩)) := B3 (i := 0) A22 rfl ⟨_, _, _, _, A30⟩ b o
@[simp] theorem C8F (b o : Nat) (K : Value → WP) : A0 PR (Instr.fieldAt 106 (.pointer (some ⟨b, o, none⟩)) 1) K = K (.pointer (some ⟨b, o + 5, none⟩)) := B3 (i := 1) A22 rfl ⟨_, _, _, _, H6⟩ b o
@[simp] theorem C8Y (b o : Nat) (K : Value → WP) : A0 PR (Instr.fieldAt 106 (.pointer (some ⟨b, o, none⟩)) 2) K = K (.pointer (some ⟨b, o + 6, none⟩)) := B3 (i := 2) A22 rfl ⟨_, _, _, _, H6⟩ b o
@[simp] theorem C84 (b o : Nat) (K : Value → WP) : A0 PR (Instr.fieldAt 106 (.pointer (some ⟨b, o, none⟩)) 4) K = K (.pointer (some ⟨b, o + 8, none⟩)) := B3 (i := 4) A22 rfl ⟨_, _, _, _, A6x⟩ b o
@[simp] theorem C7j (b o : Nat) (K : Value → WP) : A0 PR (Instr.fieldAt 106 (.pointer (some ⟨b, o, none⟩)) 5) K = K (.pointer (some ⟨b, o + 9, none⟩)) := B3 (i := 5) A22 rfl ⟨_, _, _, _, B2G⟩ b o
@[simp] theorem C8P (b o : Nat) (K : Value → WP) : A0 PR (Instr.fieldAt 106 (.pointer (some ⟨b, o, none⟩)) 6) K = K (.pointer (some ⟨b, o + 10, none⟩)) := B3 (i := 6) A22 rfl ⟨_, _, _, _, B9v⟩ b o
@[simp] theorem C8b (b o : Nat) (K : Value → WP) : A0 PR (Instr.fieldAt 106 (.pointer (some ⟨b, o, none⟩)) 7) K = K (.pointer (some ⟨b, o + 11, none⟩)) := B3 (i := 7) A22 rfl ⟨_, _, _, _, B31⟩ b o
@[simp] theorem C7p (b o : Nat) (K : Value → WP) : A0 PR (Instr.fieldAt 106 (.pointer (some ⟨b, o, none⟩)) 9) K = K (.pointer (some ⟨b, o + 13, none⟩)) := B3 (i := 9) A22 rfl ⟨_, _, _, _, H6⟩ b o
@[simp] theorem C9j (b o : Nat) (K : Value → WP) : A0 PR (Instr.fieldAt 128 (.pointer (some ⟨b, o, none⟩)) 0) K = K (.pointer (some ⟨b, o, none⟩)) := B3 (i := 0) B0C rfl ⟨_, _, _, _, ty9⟩ b o
@[simp] theorem C9c (b o : Nat) (K : Value → WP) : A0 PR (Instr.fieldAt 128 (.pointer (some ⟨b, o, none⟩)) 1) K = K (.pointer (some ⟨b, o + 1, none⟩)) := B3 (i := 1) B0C rfl ⟨_, _, _, _, ty9⟩ b o
@[simp] theorem C88 (b o : Nat) (K : Value → WP) : A0 PR (Instr.fieldAt 128 (.pointer (some ⟨b, o, none⟩)) 2) K = K (.pointer (some ⟨b, o + 2, none⟩)) := B3 (i := 2) B0C rfl ⟨_, _, _, _, H6⟩ b o
@[simp] theorem C9Z (b o : Nat) (K : Value → WP) : A0 PR (Instr.fieldAt 128 (.pointer (some ⟨b, o, none⟩)) 3) K = K (.pointer (some ⟨b, o + 3, none⟩)) := B3 (i := 3) B0C rfl ⟨_, _, _, _, ty4⟩ b o
@[simp] theorem C86 (b o : Nat) (K : Value → WP) : A0 PR (Instr.fieldAt 130 (.pointer (some ⟨b, o, none⟩)) 0) K = K (.pointer (some ⟨b, o, none⟩)) := B3 (i := 0) A24 rfl ⟨_, _, _, _, B0C⟩ b o
@[simp] theorem C7m (b o : Nat) (K : Value → WP) : A0 PR (Instr.fieldAt 130 (.pointer (some ⟨b, o, none⟩)) 1) K = K (.pointer (some ⟨b, o + 4, none⟩)) := B3 (i := 1) A24 rfl ⟨_, _, _, _, H6⟩ b o
@[simp] theorem C9U (b o : Nat) (K : Value → WP) : A0 PR (Instr.fieldAt 130 (.pointer (some ⟨b, o, none⟩)) 2) K = K (.pointer (some ⟨b, o + 5, none⟩)) := B3 (i := 2) A24 rfl ⟨_, _, _, _, H6⟩ b o
@[simp] theorem C8M (b o : Nat) (K : Value → WP) : A0 PR (Instr.fieldAt 130 (.pointer (some ⟨b, o, none⟩)) 3) K = K (.pointer (some ⟨b, o + 6, none⟩)) := B3 (i := 3) A24 rfl ⟨_, _, _, _, H6⟩ b o
@[simp] theorem C8J (b o : Nat) (K : Value → WP) : A0 PR (Instr.fieldAt 130 (.pointer (some ⟨b, o, none⟩)) 4) K = K (.pointer (some ⟨b, o + 7, none⟩)) := B3 (i := 4) A24 rfl ⟨_, _, _, _, H6⟩ b o
@[simp] theorem C7d (b o : Nat) (K : Value → WP) : A0 PR (Instr.fieldAt 130 (.pointer (some ⟨b, o, none⟩)) 5) K = K (.pointer (some ⟨b, o + 8, none⟩)) := B3 (i := 5) A24 rfl ⟨_, _, _, _, H6⟩ b o
@[simp] theorem C89 (b o : Nat) (K : Value → WP) : A0 PR (Instr.fieldAt 130 (.pointer (some ⟨b, o, none⟩)) 6) K = K (.pointer (some ⟨b, o + 9, none⟩)) := B3 (i := 6) A24 rfl ⟨_, _, _, _, A8a⟩ b o
@[simp] theorem C74 (b o : Nat) (K : Value → WP) : A0 PR (Instr.fieldAt 130 (.pointer (some ⟨b, o, none⟩)) 7) K = K (.pointer (some ⟨b, o + 10, none⟩)) := B3 (i := 7) A24 rfl ⟨_, _, _, _, B3x⟩ b o
theorem C4j : TI PR 137 Tryz.t136.desc 1 8 (.agg #[(.int .i64 0)]) := ⟨Tryz.underlying137, Tryz.t137, by kernel_rfl, rfl, rfl, rfl⟩
theorem ty2 : TI PR 2 Tryz.t2.desc 1 8 (.int .i64 0) := ⟨Tryz.underlying2, Tryz.t2, by kernel_rfl, rfl, rfl, rfl⟩
@[simp] theorem C7x (b o : Nat) (K : Value → WP) : A0 PR (Instr.fieldAt 137 (.pointer (some ⟨b, o, none⟩)) 2) K = K (.pointer (some ⟨b, o, none⟩)) := B3 (i := 2) C4j rfl ⟨_, _, _, _, ty2⟩ b o
theorem C4N : TI PR 139 Tryz.t138.desc 1 8 (.agg #[(.int .i64 0)]) := ⟨Tryz.underlying139, Tryz.t139, by kernel_rfl, rfl, rfl, rfl⟩
@[simp] theorem C8g (b o : Nat) (K : Value → WP) : A0 PR (Instr.fieldAt 139 (.pointer (some ⟨b, o, none⟩)) 0) K = K (.pointer (some ⟨b, o, none⟩)) := B3 (i := 0) C4N rfl ⟨_, _, _, _, C4j⟩ b o
@[simp] theorem C8q (b o : Nat) (K : Value → WP) : A0 PR (Instr.fieldAt 141 (.pointer (some ⟨b, o, none⟩)) 0) K = K (.pointer (some ⟨b, o, none⟩)) := B3 (i := 0) B5L rfl ⟨_, _, _, _, C4N⟩ b o
@[simp] theorem C7g (b o : Nat) (K : Value → WP) : A0 PR (Instr.fieldAt 141 (.pointer (some ⟨b, o, none⟩)) 1) K = K (.pointer (some ⟨b, o + 1, none⟩)) := B3 (i := 1) B5L rfl ⟨_, _, _, _, A6x⟩ b o
@[simp] theorem C73 (b o : Nat) (K : Value → WP) : A0 PR (Instr.fieldAt 141 (.pointer (some ⟨b, o, none⟩)) 2) K = K (.pointer (some ⟨b, o + 2, none⟩)) := B3 (i := 2) B5L rfl ⟨_, _, _, _, A6x⟩ b o
@[simp] theorem C9A (b o : Nat) (K : Value → WP) : A0 PR (Instr.fieldAt 148 (.pointer (some ⟨b, o, none⟩)) 0) K = K (.pointer (some ⟨b, o, none⟩)) := B3 (i := 0) A6b rfl ⟨_, _, _, _, H6⟩ b o
@[simp] theorem C8G (b o : Nat) (K : Value → WP) : A0 PR (Instr.fieldAt 148 (.pointer (some ⟨b, o, none⟩)) 1) K = K (.pointer (some ⟨b, o + 1, none⟩)) := B3 (i := 1) A6b rfl ⟨_, _, _, _, H6⟩ b o
@[simp] theorem C9Q (b o : Nat) (K : Value → WP) : A0 PR (Instr.fieldAt 148 (.pointer (some ⟨b, o, none⟩)) 2) K = K (.pointer (some ⟨b, o + 2, none⟩)) := B3 (i := 2) A6b rfl ⟨_, _, _, _, H6⟩ b o
@[simp] theorem C9N (b o : Nat) (K : Value → WP) : A0 PR (Instr.fieldAt 155 (.pointer (some ⟨b, o, none⟩)) 0) K = K (.pointer (some ⟨b, o, none⟩)) := B3 (i := 0) A98 rfl ⟨_, _, _, _, H6⟩ b o
@[simp] theorem C9M (b o : Nat) (K : Value → WP) : A0 PR (Instr.fieldAt 155 (.pointer (some ⟨b, o, none⟩)) 1) K = K (.pointer (some ⟨b, o + 1, none⟩)) := B3 (i := 1) A98 rfl ⟨_, _, _, _, H6⟩ b o
theorem B9f : TI PR 192 Tryz.t58.desc 1 24 (.slice none 0 0) := ⟨Tryz.underlying192, Tryz.t192, by kernel_rfl, rfl, rfl, rfl⟩
@[simp] theorem C8T (b o : Nat) (K : Value → WP) : A0 PR (Instr.fieldAt 195 (.pointer (some ⟨b, o, none⟩)) 0) K = K (.pointer (some ⟨b, o, none⟩)) := B3 (i := 0) A4Z rfl ⟨_, _, _, _, B9f⟩ b o
@[simp] theorem C8Z (b o : Nat) (K : Value → WP) : A0 PR (Instr.fieldAt 195 (.pointer (some ⟨b, o, none⟩)) 1) K = K (.pointer (some ⟨b, o + 1, none⟩)) := B3 (i := 1) A4Z rfl ⟨_, _, _, _, B8j⟩ b o
@[simp] theorem C9F (b o : Nat) (K : Value → WP) : A0 PR (Instr.fieldAt 218 (.pointer (some ⟨b, o, none⟩)) 0) K = K (.pointer (some ⟨b, o, none⟩)) := B3 (i := 0) A13 rfl ⟨_, _, _, _, H6⟩ b o
@[simp] theorem C8L (b o : Nat) (K : Value → WP) : A0 PR (Instr.fieldAt 218 (.pointer (some ⟨b, o, none⟩)) 1) K = K (.pointer (some ⟨b, o + 1, none⟩)) := B3 (i := 1) A13 rfl ⟨_, _, _, _, ty9⟩ b o
@[simp] theorem C70 (b o : Nat) (K : Value → WP) : A0 PR (Instr.fieldAt 218 (.pointer (some ⟨b, o, none⟩)) 2) K = K (.pointer (some ⟨b, o + 2, none⟩)) := B3 (i := 2) A13 rfl ⟨_, _, _, _, H6⟩ b o
@[simp] theorem C9G (b o : Nat) (K : Value → WP) : A0 PR (Instr.fieldAt 218 (.pointer (some ⟨b, o, none⟩)) 3) K = K (.pointer (some ⟨b, o + 3, none⟩)) := B3 (i := 3) A13 rfl ⟨_, _, _, _, H6⟩ b o
@[simp] theorem C75 (b o : Nat) (K : Value → WP) : A0 PR (Instr.fieldAt 224 (.pointer (some ⟨b, o, none⟩)) 0) K = K (.pointer (some ⟨b, o, none⟩)) := B3 (i := 0) B0H rfl ⟨_, _, _, _, ty9⟩ b o
@[simp] theorem C7w (b o : Nat) (K : Value → WP) : A0 PR (Instr.fieldAt 224 (.pointer (some ⟨b, o, none⟩)) 1) K = K (.pointer (some ⟨b, o + 1, none⟩)) := B3 (i := 1) B0H rfl ⟨_, _, _, _, ty9⟩ b o
@[simp] theorem C85 (b o : Nat) (K : Value → WP) : A0 PR (Instr.fieldAt 224 (.pointer (some ⟨b, o, none⟩)) 2) K = K (.pointer (some ⟨b, o + 2, none⟩)) := B3 (i := 2) B0H rfl ⟨_, _, _, _, H6⟩ b o
@[simp] theorem C7r (b o : Nat) (K : Value → WP) : A0 PR (Instr.fieldAt 226 (.pointer (some ⟨b, o, none⟩)) 0) K = K (.pointer (some ⟨b, o, none⟩)) := B3 (i := 0) A96 rfl ⟨_, _, _, _, ty9⟩ b o
@[simp] theorem C8w (b o : Nat) (K : Value → WP) : A0 PR (Instr.fieldAt 226 (.pointer (some ⟨b, o, none⟩)) 1) K = K (.pointer (some ⟨b, o + 1, none⟩)) := B3 (i := 1) A96 rfl ⟨_, _, _, _, ty9⟩ b o
@[simp] theorem C8W (b o : Nat) (K : Value → WP) : A0 PR (Instr.fieldAt 226 (.pointer (some ⟨b, o, none⟩)) 2) K = K (.pointer (some ⟨b, o + 2, none⟩)) := B3 (i := 2) A96 rfl ⟨_, _, _, _, H6⟩ b o
@[simp] theorem C9v (b o : Nat) (K : Value → WP) : A0 PR (Instr.fieldAt 23 (.pointer (some ⟨b, o, none⟩)) 0) K = K (.pointer (some ⟨b, o, none⟩)) := B3 (i := 0) A30 rfl ⟨_, _, _, _, H6⟩ b o
@[simp] theorem D1E (b o : Nat) (K : Value → WP) : A0 PR (Instr.fieldAt 23 (.pointer (some ⟨b, o, none⟩)) 1) K = K (.pointer (some ⟨b, o + 1, none⟩)) := B3 (i := 1) A30 rfl ⟨_, _, _, _, H6⟩ b o
@[simp] theorem D0W (b o : Nat) (K : Value → WP) : A0 PR (Instr.fieldAt 23 (.pointer (some ⟨b, o, none⟩)) 2) K = K (.pointer (some ⟨b, o + 2, none⟩)) := B3 (i := 2) A30 rfl ⟨_, _, _, _, H6⟩ b o
@[simp] theorem C95 (b o : Nat) (K : Value → WP) : A0 PR (Instr.fieldAt 23 (.pointer (some ⟨b, o, none⟩)) 3) K = K (.pointer (some ⟨b, o + 3, none⟩)) := B3 (i := 3) A30 rfl ⟨_, _, _, _, H6⟩ b o
@[simp] theorem D1L (b o : Nat) (K : Value → WP) : A0 PR (Instr.fieldAt 23 (.pointer (some ⟨b, o, none⟩)) 4) K = K (.pointer (some ⟨b, o + 4, none⟩)) := B3 (i := 4) A30 rfl ⟨_, _, _, _, H6⟩ b o
theorem B13 : TI PR 229 Tryz.t229.desc 1 24 (.slice none 0 0) := ⟨Tryz.underlying229, Tryz.t229, by kernel_rfl, rfl, rfl, rfl⟩
@[simp] theorem C9g (b o : Nat) (K : Value → WP) : A0 PR (Instr.fieldAt 231 (.pointer (some ⟨b, o, none⟩)) 0) K = K (.pointer (some ⟨b, o, none⟩)) := B3 (i := 0) C4Q rfl ⟨_, _, _, _, B13⟩ b o
@[simp] theorem C9Y (b o : Nat) (K : Value → WP) : A0 PR (Instr.fieldAt 270 (.pointer (some ⟨b, o, none⟩)) 0) K = K (.pointer (some ⟨b, o, none⟩)) := B3 (i := 0) A7E rfl ⟨_, _, _, _, H6⟩ b o
@[simp] theorem C71 (b o : Nat) (K : Value → WP) : A0 PR (Instr.fieldAt 284 (.pointer (some ⟨b, o, none⟩)) 0) K = K (.pointer (some ⟨b, o, none⟩)) := B3 (i := 0) A68 rfl ⟨_, _, _, _, A9S⟩ b o
@[simp] theorem C8d (b o : Nat) (K : Value → WP) : A0 PR (Instr.fieldAt 284 (.pointer (some ⟨b, o, none⟩)) 1) K = K (.pointer (some ⟨b, o + 1, none⟩)) := B3 (i := 1) A68 rfl ⟨_, _, _, _, H6⟩ b o
@[simp] theorem C9P (b o : Nat) (K : Value → WP) : A0 PR (Instr.fieldAt 290 (.pointer (some ⟨b, o, none⟩)) 0) K = K (.pointer (some ⟨b, o, none⟩)) := B3 (i := 0) B5T rfl ⟨_, _, _, _, A9S⟩ b o
@[simp] theorem C8x (b o : Nat) (K : Value → WP) : A0 PR (Instr.fieldAt 290 (.pointer (some ⟨b, o, none⟩)) 1) K = K (.pointer (some ⟨b, o + 1, none⟩)) := B3 (i := 1) B5T rfl ⟨_, _, _, _, H6⟩ b o
@[simp] theorem C8s (b o : Nat) (K : Value → WP) : A0 PR (Instr.fieldAt 303 (.pointer (some ⟨b, o, none⟩)) 0) K = K (.pointer (some ⟨b, o, none⟩)) := B3 (i := 0) B0B rfl ⟨_, _, _, _, B5S⟩ b o
@[simp] theorem C8u (b o : Nat) (K : Value → WP) : A0 PR (Instr.fieldAt 303 (.pointer (some ⟨b, o, none⟩)) 1) K = K (.pointer (some ⟨b, o + 1, none⟩)) := B3 (i := 1) B0B rfl ⟨_, _, _, _, A25⟩ b o
@[simp] theorem C7y (b o : Nat) (K : Value → WP) : A0 PR (Instr.fieldAt 305 (.pointer (some ⟨b, o, none⟩)) 0) K = K (.pointer (some ⟨b, o, none⟩)) := B3 (i := 0) C4c rfl ⟨_, _, _, _, B0B⟩ b o
theorem C7A : TI PR 24 Tryz.t24.desc 1 8 .nilFunc := ⟨Tryz.underlying24, Tryz.t24, by kernel_rfl, rfl, rfl, rfl⟩
@[simp] theorem C8H (b o : Nat) (K : Value → WP) : A0 PR (Instr.fieldAt 330 (.pointer (some ⟨b, o, none⟩)) 0) K = K (.pointer (some ⟨b, o, none⟩)) := B3 (i := 0) A99 rfl ⟨_, _, _, _, C7A⟩ b o
@[simp] theorem C7s (b o : Nat) (K : Value → WP) : A0 PR (Instr.fieldAt 330 (.pointer (some ⟨b, o, none⟩)) 1) K = K (.pointer (some ⟨b, o + 1, none⟩)) := B3 (i := 1) A99 rfl ⟨_, _, _, _, B95⟩ b o
@[simp] theorem D0s (b o : Nat) (K : Value → WP) : A0 PR (Instr.fieldAt 39 (.pointer (some ⟨b, o, none⟩)) 0) K = K (.pointer (some ⟨b, o, none⟩)) := B3 (i := 0) A9C rfl ⟨_, _, _, _, A30⟩ b o
@[simp] theorem D0S (b o : Nat) (K : Value → WP) : A0 PR (Instr.fieldAt 39 (.pointer (some ⟨b, o, none⟩)) 1) K = K (.pointer (some ⟨b, o + 5, none⟩)) := B3 (i := 1) A9C rfl ⟨_, _, _, _, C2E⟩ b o
@[simp] theorem C90 (b o : Nat) (K : Value → WP) : A0 PR (Instr.fieldAt 39 (.pointer (some ⟨b, o, none⟩)) 2) K = K (.pointer (some ⟨b, o + 6, none⟩)) := B3 (i := 2) A9C rfl ⟨_, _, _, _, C3V⟩ b o
@[simp] theorem D0F (b o : Nat) (K : Value → WP) : A0 PR (Instr.fieldAt 39 (.pointer (some ⟨b, o, none⟩)) 3) K = K (.pointer (some ⟨b, o + 7, none⟩)) := B3 (i := 3) A9C rfl ⟨_, _, _, _, C2M⟩ b o
@[simp] theorem D03 (b o : Nat) (K : Value → WP) : A0 PR (Instr.fieldAt 39 (.pointer (some ⟨b, o, none⟩)) 4) K = K (.pointer (some ⟨b, o + 8, none⟩)) := B3 (i := 4) A9C rfl ⟨_, _, _, _, B31⟩ b o
@[simp] theorem D0x (b o : Nat) (K : Value → WP) : A0 PR (Instr.fieldAt 39 (.pointer (some ⟨b, o, none⟩)) 5) K = K (.pointer (some ⟨b, o + 9, none⟩)) := B3 (i := 5) A9C rfl ⟨_, _, _, _, A6x⟩ b o
@[simp] theorem D0w (b o : Nat) (K : Value → WP) : A0 PR (Instr.fieldAt 39 (.pointer (some ⟨b, o, none⟩)) 6) K = K (.pointer (some ⟨b, o + 10, none⟩)) := B3 (i := 6) A9C rfl ⟨_, _, _, _, H6⟩ b o
@[simp] theorem D0G (b o : Nat) (K : Value → WP) : A0 PR (Instr.fieldAt 45 (.pointer (some ⟨b, o, none⟩)) 0) K = K (.pointer (some ⟨b, o, none⟩)) := B3 (i := 0) A3S rfl ⟨_, _, _, _, H6⟩ b o
@[simp] theorem C9w (b o : Nat) (K : Value → WP) : A0 PR (Instr.fieldAt 45 (.pointer (some ⟨b, o, none⟩)) 1) K = K (.pointer (some ⟨b, o + 1, none⟩)) := B3 (i := 1) A3S rfl ⟨_, _, _, _, ty9⟩ b o
@[simp] theorem D0u (b o : Nat) (K : Value → WP) : A0 PR (Instr.fieldAt 45 (.pointer (some ⟨b, o, none⟩)) 2) K = K (.pointer (some ⟨b, o + 2, none⟩)) := B3 (i := 2) A3S rfl ⟨_, _, _, _, ty9⟩ b o
@[simp] theorem D0V (b o : Nat) (K : Value → WP) : A0 PR (Instr.fieldAt 45 (.pointer (some ⟨b, o, none⟩)) 3) K = K (.pointer (some ⟨b, o + 3, none⟩)) := B3 (i := 3) A3S rfl ⟨_, _, _, _, H6⟩ b o
@[simp] theorem D1T (b o : Nat) (K : Value → WP) : A0 PR (Instr.fieldAt 45 (.pointer (some ⟨b, o, none⟩)) 4) K = K (.pointer (some ⟨b, o + 4, none⟩)) := B3 (i := 4) A3S rfl ⟨_, _, _, _, H6⟩ b o
@[simp] theorem D04 (b o : Nat) (K : Value → WP) : A0 PR (Instr.fieldAt 45 (.pointer (some ⟨b, o, none⟩)) 5) K = K (.pointer (some ⟨b, o + 5, none⟩)) := B3 (i := 5) A3S rfl ⟨_, _, _, _, H6⟩ b o
@[simp] theorem D0j (b o : Nat) (K : Value → WP) : A0 PR (Instr.fieldAt 47 (.pointer (some ⟨b, o, none⟩)) 0) K = K (.pointer (some ⟨b, o, none⟩)) := B3 (i := 0) B33 rfl ⟨_, _, _, _, A3S⟩ b o
@[simp] theorem D1F (b o : Nat) (K : Value → WP) : A0 PR (Instr.fieldAt 47 (.pointer (some ⟨b, o, none⟩)) 1) K = K (.pointer (some ⟨b, o + 6, none⟩)) := B3 (i := 1) B33 rfl ⟨_, _, _, _, H6⟩ b o
@[simp] theorem D1G (b o : Nat) (K : Value → WP) : A0 PR (Instr.fieldAt 79 (.pointer (some ⟨b, o, none⟩)) 0) K = K (.pointer (some ⟨b, o, none⟩)) := B3 (i := 0) B34 rfl ⟨_, _, _, _, H6⟩ b o
@[simp] theorem D1N (b o : Nat) (K : Value → WP) : A0 PR (Instr.fieldAt 79 (.pointer (some ⟨b, o, none⟩)) 1) K = K (.pointer (some ⟨b, o + 1, none⟩)) := B3 (i := 1) B34 rfl ⟨_, _, _, _, H6⟩ b o
@[simp] theorem D0m (b o : Nat) (K : Value → WP) : A0 PR (Instr.fieldAt 79 (.pointer (some ⟨b, o, none⟩)) 2) K = K (.pointer (some ⟨b, o + 2, none⟩)) := B3 (i := 2) B34 rfl ⟨_, _, _, _, B3r⟩ b o
theorem Z1 {k1 : IntKind} {i : Int} {s : ByteArray} {b : UInt8} (h0 : 0 ≤ i) (h1 : s[i.toNat]? = some b) (K : Value → WP) : A0 PR (Instr.index 9 (.string s) (.int k1 i)) K = K (.int .u8 b.toNat) := C3d ty9 h0 h1
@[simp] theorem D1g {k : IntKind} {i : Int} {len cap : Nat} (h0 : 0 ≤ i) (h1 : i < len) (b o : Nat) (K : Value → WP) : A0 PR (Instr.indexAt 103 (.slice (some ⟨b, o, none⟩) len cap) (.int k i)) K = K (.pointer (some ⟨b, o + i.toNat * 2, none⟩)) := (M2 (K := K) B2G A7E h0 h1 b o)
theorem C4P : TI PR 143 Tryz.t143.desc 1 8 .nilFunc := ⟨Tryz.underlying143, Tryz.t143, by kernel_rfl, rfl, rfl, rfl⟩
@[simp] theorem D11 {k : IntKind} {i : Int} (h0 : 0 ≤ i) (h1 : i < (10 : Nat)) (b o : Nat) (K : Value → WP) : A0 PR (Instr.indexAt 144 (.pointer (some ⟨b, o, none⟩)) (.int k i)) K = K (.pointer (some ⟨b, o + i.toNat, none⟩)) := (by simpa using B1p (K := K) C39 C4P h0 h1 b o)
@[simp] theorem D10 {k : IntKind} {i : Int} (h0 : 0 ≤ i) (h1 : i < (2 : Nat)) (b o : Nat) (K : Value → WP) : A0 PR (Instr.indexAt 158 (.pointer (some ⟨b, o, none⟩)) (.int k i)) K = K (.pointer (some ⟨b, o + i.toNat, none⟩)) := (by simpa using B1p (K := K) B19 H6 h0 h1 b o)
@[simp] theorem D1Y {k : IntKind} {i : Int} {len cap : Nat} (h0 : 0 ≤ i) (h1 : i < len) (b o : Nat) (K : Value → WP) : A0 PR (Instr.indexAt 228 (.slice (some ⟨b, o, none⟩) len cap) (.int k i)) K = K (.pointer (some ⟨b, o + i.toNat, none⟩)) := (by simpa using M2 (K := K) B8w B98 h0 h1 b o)
theorem B8g : TI PR 266 Tryz.t265.desc 1 16 .nilIface := ⟨Tryz.underlying266, Tryz.t266, by kernel_rfl, rfl, rfl, rfl⟩
@[simp] theorem D1b {k : IntKind} {i : Int} {len cap : Nat} (h0 : 0 ≤ i) (h1 : i < len) (b o : Nat) (K : Value → WP) : A0 PR (Instr.indexAt 229 (.slice (some ⟨b, o, none⟩) len cap) (.int k i)) K = K (.pointer (some ⟨b, o + i.toNat, none⟩)) := (by simpa using M2 (K := K) B13 B8g h0 h1 b o)
@[simp] theorem D1d {k : IntKind} {i : Int} {len cap : Nat} (h0 : 0 ≤ i) (h1 : i < len) (b o : Nat) (K : Value → WP) : A0 PR (Instr.indexAt 259 (.slice (some ⟨b, o, none⟩) len cap) (.int k i)) K = K (.pointer (some ⟨b, o + i.toNat * 2, none⟩)) := (M2 (K := K) B9Y B19 h0 h1 b o)
theorem B97 : TI PR 279 Tryz.t193.desc 1 24 (.slice none 0 0) := ⟨Tryz.underlying279, Tryz.t279, by kernel_rfl, rfl, rfl, rfl⟩
@[simp] theorem D2C {k : IntKind} {i : Int} {len cap : Nat} (h0 : 0 ≤ i) (h1 : i < len) (b o : Nat) (K : Value → WP) : A0 PR (Instr.indexAt 279 (.slice (some ⟨b, o, none⟩) len cap) (.int k i)) K = K (.pointer (some ⟨b, o + i.toNat * 2, none⟩)) := (M2 (K := K) B97 B5T h0 h1 b o)
@[simp] theorem D1u {k : IntKind} {i : Int} {len cap : Nat} (h0 : 0 ≤ i) (h1 : i < len) (b o : Nat) (K : Value → WP) : A0 PR (Instr.indexAt 281 (.slice (some ⟨b, o, none⟩) len cap) (.int k i)) K = K (.pointer (some ⟨b, o + i.toNat * 2, none⟩)) := (M2 (K := K) B5W A68 h0 h1 b o)
@[simp] theorem D2D {k : IntKind} {i : Int} {len cap : Nat} (h0 : 0 ≤ i) (h1 : i < len) (b o : Nat) (K : Value → WP) : A0 PR (Instr.indexAt 301 (.slice (some ⟨b, o, none⟩) len cap) (.int k i)) K = K (.pointer (some ⟨b, o + i.toNat, none⟩)) := (by simpa using M2 (K := K) A25 ty5 h0 h1 b o)
@[simp] theorem D13 {k : IntKind} {i : Int} {len cap : Nat} (h0 : 0 ≤ i) (h1 : i < len) (b o : Nat) (K : Value → WP) : A0 PR (Instr.indexAt 324 (.slice (some ⟨b, o, none⟩) len cap) (.int k i)) K = K (.pointer (some ⟨b, o + i.toNat * 4, none⟩)) := (M2 (K := K) B91 A13 h0 h1 b o)
@[simp] theorem D2c {k : IntKind} {i : Int} {len cap : Nat} (h0 : 0 ≤ i) (h1 : i < len) (b o : Nat) (K : Value → WP) : A0 PR (Instr.indexAt 36 (.slice (some ⟨b, o, none⟩) len cap) (.int k i)) K = K (.pointer (some ⟨b, o + i.toNat, none⟩)) := (by simpa using M2 (K := K) B31 A8a h0 h1 b o)
@[simp] theorem D2l {k : IntKind} {i : Int} {len cap : Nat} (h0 : 0 ≤ i) (h1 : i < len) (b o : Nat) (K : Value → WP) : A0 PR (Instr.indexAt 37 (.slice (some ⟨b, o, none⟩) len cap) (.int k i)) K = K (.pointer (some ⟨b, o + i.toNat, none⟩)) := (by simpa using M2 (K := K) A6x H6 h0 h1 b o)
@[simp] theorem D1n {k : IntKind} {i : Int} {len cap : Nat} (h0 : 0 ≤ i) (h1 : i < len) (b o : Nat) (K : Value → WP) : A0 PR (Instr.indexAt 375 (.slice (some ⟨b, o, none⟩) len cap) (.int k i)) K = K (.pointer (some ⟨b, o + i.toNat * 2, none⟩)) := (M2 (K := K) B9l A99 h0 h1 b o)
@[simp] theorem D2j {k : IntKind} {i : Int} {len cap : Nat} (h0 : 0 ≤ i) (h1 : i < len) (b o : Nat) (K : Value → WP) : A0 PR (Instr.indexAt 51 (.slice (some ⟨b, o, none⟩) len cap) (.int k i)) K = K (.pointer (some ⟨b, o + i.toNat, none⟩)) := (by simpa using M2 (K := K) C3s ty9 h0 h1 b o)
@[simp] theorem D2W {k : IntKind} {i : Int} {len cap : Nat} (h0 : 0 ≤ i) (h1 : i < len) (b o : Nat) (K : Value → WP) : A0 PR (Instr.indexAt 58 (.slice (some ⟨b, o, none⟩) len cap) (.int k i)) K = K (.pointer (some ⟨b, o + i.toNat * 2, none⟩)) := (M2 (K := K) B3r A98 h0 h1 b o)
theorem C7M : TI PR 71 Tryz.t71.desc 1 24 (.slice none 0 0) := ⟨Tryz.underlying71, Tryz.t71, by kernel_rfl, rfl, rfl, rfl⟩
@[simp] theorem D2e {k : IntKind} {i : Int} {len cap : Nat} (h0 : 0 ≤ i) (h1 : i < len) (b o : Nat) (K : Value → WP) : A0 PR (Instr.indexAt 71 (.slice (some ⟨b, o, none⟩) len cap) (.int k i)) K = K (.pointer (some ⟨b, o + i.toNat * 3, none⟩)) := (M2 (K := K) C7M B34 h0 h1 b o)
@[simp] theorem D2g {k : IntKind} {i : Int} {len cap : Nat} (h0 : 0 ≤ i) (h1 : i < len) (b o : Nat) (K : Value → WP) : A0 PR (Instr.indexAt 84 (.slice (some ⟨b, o, none⟩) len cap) (.int k i)) K = K (.pointer (some ⟨b, o + i.toNat * 4, none⟩)) := (M2 (K := K) A8a A13 h0 h1 b o)
@[simp] theorem D0H (a : Option Addr) (n c : Nat) (K : Value → WP) : A0 PR (A8 .len #[103] 0 [.slice a n c]) K = K (.int .i64 n) := d8 B2G a n c
@[simp] theorem D0f (a : Option Addr) (n c : Nat) (K : Value → WP) : A0 PR (A8 .len #[192] 0 [.slice a n c]) K = K (.int .i64 n) := d8 B9f a n c
@[simp] theorem D0D (a : Option Addr) (n c : Nat) (K : Value → WP) : A0 PR (A8 .len #[228] 0 [.slice a n c]) K = K (.int .i64 n) := d8 B8w a n c
@[simp] theorem D0y (a : Option Addr) (n c : Nat) (K : Value → WP) : A0 PR (A8 .len #[229] 0 [.slice a n c]) K = K (.int .i64 n) := d8 B13 a n c
@[simp] theorem D0K (a : Option Addr) (n c : Nat) (K : Value → WP) : A0 PR (A8 .len #[259] 0 [.slice a n c]) K = K (.int .i64 n) := d8 B9Y a n c
@[simp] theorem D01 (a : Option Addr) (n c : Nat) (K : Value → WP) : A0 PR (A8 .len #[279] 0 [.slice a n c]) K = K (.int .i64 n) := d8 B97 a n c
@[simp] theorem D0A (a : Option Addr) (n c : Nat) (K : Value → WP) : A0 PR (A8 .len #[281] 0 [.slice a n c]) K = K (.int .i64 n) := d8 B5W a n c
@[simp] theorem D0d (a : Option Addr) (n c : Nat) (K : Value → WP) : A0 PR (A8 .len #[301] 0 [.slice a n c]) K = K (.int .i64 n) := d8 A25 a n c
@[simp] theorem D0v (a : Option Addr) (n c : Nat) (K : Value → WP) : A0 PR (A8 .len #[324] 0 [.slice a n c]) K = K (.int .i64 n) := d8 B91 a n c
@[simp] theorem D2P (a : Option Addr) (n c : Nat) (K : Value → WP) : A0 PR (A8 .len #[36] 0 [.slice a n c]) K = K (.int .i64 n) := d8 B31 a n c
@[simp] theorem D1x (a : Option Addr) (n c : Nat) (K : Value → WP) : A0 PR (A8 .len #[37] 0 [.slice a n c]) K = K (.int .i64 n) := d8 A6x a n c
@[simp] theorem D0e (a : Option Addr) (n c : Nat) (K : Value → WP) : A0 PR (A8 .len #[375] 0 [.slice a n c]) K = K (.int .i64 n) := d8 B9l a n c
@[simp] theorem D2T (a : Option Addr) (n c : Nat) (K : Value → WP) : A0 PR (A8 .len #[51] 0 [.slice a n c]) K = K (.int .i64 n) := d8 C3s a n c
@[simp] theorem D1s (a : Option Addr) (n c : Nat) (K : Value → WP) : A0 PR (A8 .len #[58] 0 [.slice a n c]) K = K (.int .i64 n) := d8 B3r a n c
@[simp] theorem D16 (a : Option Addr) (n c : Nat) (K : Value → WP) : A0 PR (A8 .len #[71] 0 [.slice a n c]) K = K (.int .i64 n) := d8 C7M a n c
@[simp] theorem D1z (a : Option Addr) (n c : Nat) (K : Value → WP) : A0 PR (A8 .len #[84] 0 [.slice a n c]) K = K (.int .i64 n) := d8 A8a a n c
@[simp] theorem D2a (s : ByteArray) (K : Value → WP) : A0 PR (A8 .len #[9] 0 [.string s]) K = K (.int .i64 s.size) := C6r ty9 s
@[simp] theorem D2v (a : Addr) (K : Value → WP) (w : World) : A6 PR (Instr.loadAt 3 (.pointer (some a))) K w = rdc (w.cell? a) K (far PR 3 a K) w := B6P H6 rfl a
@[simp] theorem D2Y (a : Addr) (K : Value → WP) (w : World) : A6 PR (Instr.loadAt 89 (.pointer (some a))) K w = rdc (w.cell? a) K (far PR 89 a K) w := B6P A9S rfl a
@[simp] theorem D2J (v : Value) (K : Value → WP) : A0 PR (Instr.makeInterface 195 v) K = K (.iface 195 v) := A4l A4Z (by intro ms h; cases h) v
@[simp] theorem D1U (v : Value) (K : Value → WP) : A0 PR (Instr.makeInterface 263 v) K = K (.iface 263 v) := A4l A91 (by intro ms h; cases h) v
@[simp] theorem D2M (v : Value) (K : Value → WP) : A0 PR (Instr.makeInterface 333 v) K = K (.iface 333 v) := A4l C4V (by intro ms h; cases h) v
@[simp] theorem D1V (v : Value) (K : Value → WP) : A0 PR (Instr.makeInterface 334 v) K = K (.iface 334 v) := A4l C4F (by intro ms h; cases h) v
@[simp] theorem C9D (b o : Nat) (K : Value → WP) : A0 PR (Instr.sliceAt 355 (.pointer (some ⟨b, o, none⟩)) none none none) K = K (.slice (some ⟨b, o, none⟩) 38 38) := C1T B9D ty5 b o
@[simp] theorem D2p {k1 : IntKind} {hi : Int} {s : ByteArray} (h0 : 0 ≤ hi) (h1 : hi ≤ s.size) (K : Value → WP) : A0 PR (Instr.sliceAt 9 (.string s) none (some (.int k1 hi)) none) K = K (.string (s.extract 0 hi.toNat)) := C09 ty9 h0 h1
@[simp] theorem D2b {k1 : IntKind} {lo : Int} {s : ByteArray} (h0 : 0 ≤ lo) (h1 : lo ≤ s.size) (K : Value → WP) : A0 PR (Instr.sliceAt 9 (.string s) (some (.int k1 lo)) none none) K = K (.string (s.extract lo.toNat s.size)) := C1G ty9 h0 h1
@[simp] theorem D2r {k1 k2 : IntKind} {lo hi : Int} {s : ByteArray} (h0 : 0 ≤ lo) (h1 : lo ≤ hi) (h2 : hi ≤ s.size) (K : Value → WP) : A0 PR (Instr.sliceAt 9 (.string s) (some (.int k1 lo)) (some (.int k2 hi)) none) K = K (.string (s.extract lo.toNat hi.toNat)) := C26 ty9 h0 h1 h2
theorem C4M : TI PR 156 Tryz.t156.desc 1 8 (.map none) := ⟨Tryz.underlying156, Tryz.t156, by kernel_rfl, rfl, rfl, rfl⟩
theorem B5P : TI PR 250 Tryz.t249.desc 1 16 .nilIface := ⟨Tryz.underlying250, Tryz.t250, by kernel_rfl, rfl, rfl, rfl⟩
theorem B5U : TI PR 251 Tryz.t251.desc 1 8 (.map none) := ⟨Tryz.underlying251, Tryz.t251, by kernel_rfl, rfl, rfl, rfl⟩
end Go.Proofs.YtjobgnabneddjaaGreat
namespace Go.Proofs.YtjobgnabneddjaaGreat
open Go
@[simp] theorem C0y (a b : ByteArray) : (a == b) = decide (a = b) := by
 obtain ⟨x⟩ := a; obtain ⟨y⟩ := b
 have h : ((⟨x⟩ : ByteArray) == ⟨y⟩) = (x == y) := rfl
 rw [h]
 by_cases e : x = y
 ·subst e; simp
 ·simp [e]
@[simp] theorem C7v (a : Array UInt8) : (ByteArray.mk a).size = a.size := rfl
theorem B5Y (ns : List Int) : (A3C ns).data.toList = ns.map fun n => UInt8.ofNat n.toNat := by
 have : ∀ (l : List Int) (r : ByteArray), (l.foldl (fun r n => r.push (UInt8.ofNat n.toNat)) r).data.toList = r.data.toList ++ l.map fun n => UInt8.ofNat n.toNat := by
  intro l
  induction l with
  | nil => intro r; simp
  | cons x l ih => intro r; rw [List.foldl_cons, ih]; simp [ByteArray.push]
 have h := this ns ByteArray.empty
 rw [show ByteArray.empty.data.toList = [] from rfl, List.nil_append] at h
 exact h
@[simp] theorem C54 (ns : List Int) : (A3C ns).size = ns.length := by
 have := congrArg List.length (B5Y ns)
 rw [List.length_map] at this
 exact this
class TS (t : TypeId) (z : outParam Value) : Prop where
 ti : ∃ d m, TI PR t d 1 m z ∧ N6 d = false
class TG (t : TypeId) (n : outParam Nat) (z : outParam Value) : Prop where
 ti : ∃ d m, TI PR t d n m z ∧ N6 d = true
class TA (t : TypeId) (n : outParam Nat) (z : outParam Value) : Prop where
 ti : ∃ d m, TI PR t d n m z
class SL (t : TypeId) (e : outParam TypeId) (k by' : outParam Nat) (z : outParam Value) : Prop where
 ti : (∃ n m z', TI PR t (.slice e) n m z') ∧ (∃ d, TI PR e d k by' z) ∧ z.cells.size = k
instance TS.ta {t : TypeId} {z : Value} [h : TS t z] : TA t 1 z := ⟨let ⟨d, m, h, _⟩ := h.ti; ⟨d, m, h⟩⟩
instance TG.ta {t : TypeId} {n : Nat} {z : Value} [h : TG t n z] : TA t n z := ⟨let ⟨d, m, h, _⟩ := h.ti; ⟨d, m, h⟩⟩
def rdq (x : Option (List Value)) (G : List Value → WP) (F : WP) : WP := match x with | some l => G l | none => F
@[simp] theorem B53 (l : List Value) (G : List Value → WP) (F : WP) : rdq (some l) G F = G l := id rfl
@[congr] theorem D1B {x x' : Option (List Value)} {G : List Value → WP} {F : WP} (h : x = x') {q : Nat} (hq : V8 = q) : rdq x G F = rdq x' G F := by rw [h]
@[simp] theorem D1p (xs : List Value) : V7 xs 0 0 = some [] := by simp [V7]
@[simp] theorem C7u (x : Value) (xs : List Value) (n : Nat) : V7 (x :: xs) 0 (n + 1) = (V7 xs 0 n).map (x :: ·) := by
 simp only [V7, Nat.zero_add, List.length_cons, List.drop_zero, List.take_succ_cons]
 by_cases h : n ≤ xs.length
 ·rw [if_pos h, if_pos (by omega)]; rfl
 ·rw [if_neg h, if_neg (by omega)]; rfl
theorem C18 {α : Type} {l : List α} {f : α → List Value} {k i : Nat} {x : α} (hk : ∀ x, (f x).length = k) (hx : l[i]? = some x) : V7 (l.flatMap f) (i * k) k = some (f x) := by
 obtain ⟨hlt, hx'⟩ := List.getElem?_eq_some_iff.1 hx
 have h1 : (i + 1) * k ≤ l.length * k := Nat.mul_le_mul_right k hlt
 rw [Nat.add_mul] at h1
 rw [V7, if_pos (by rw [N5 hk]; omega), A9f hk, List.drop_eq_getElem_cons hlt, List.flatMap_cons, hx']
 rw [List.take_left' (hk x)]
inductive Sel (r : Res) : List Res → List Res → Prop where
 | here {H : List Res} : Sel r (r :: H) H
 | there {x : Res} {H H' : List Res} : Sel r H H' → Sel r (x :: H) (x :: H')
theorem Sel.perm {r : Res} {H Hr : List Res} (h : Sel r H Hr) : H.Perm (r :: Hr) := by
 induction h with
 | here => exact .refl _
 | there _ ih => exact (ih.cons _).trans (.swap ..)
theorem Sel.sub {r : Res} {H Hr : List Res} (h : Sel r H Hr) : Hr.Sublist H := by
 induction h with
 | here => exact List.sublist_cons_self ..
 | there _ ih => exact ih.cons_cons _
theorem A1 {r : Res} {H : List Res} : r ∈ r :: H := List.mem_cons_self ..
theorem uH {r r' : Res} {H : List Res} : Up r r' (r :: H) (r' :: H) := Up.here
theorem uT {r r' x : Res} {H H' : List Res} (h : Up r r' H H') : Up r r' (x :: H) (x :: H') := Up.there h
theorem A2 {r x : Res} {H : List Res} (h : r ∈ H) : r ∈ x :: H := List.mem_cons_of_mem _ h
inductive Sels : List Res → List Res → Prop where
 | nil {H : List Res} : Sels [] H
 | cons {r : Res} {rs H Hr : List Res} : Sel r H Hr → Sels rs Hr → Sels (r :: rs) H
theorem Sels.sub {rs H : List Res} (h : Sels rs H) : ∃ H', H.Perm H' ∧ rs.Sublist H' := by
 induction h with
 | nil => exact ⟨_, .refl _, List.nil_sublist _⟩
 | cons h1 _ ih => obtain ⟨H', h2, h3⟩ := ih; exact ⟨_ :: H', h1.perm.trans (h2.cons _), h3.cons_cons _⟩
theorem Sels.lw {κ : Bool} {S : List Nat} {w0 w : World} {rs H : List Res} (h : Sels rs H) (hw : LW κ S w0 H w) : LW κ S w0 rs w := let ⟨_, h1, h2⟩ := h.sub; (hw.perm h1).sub h2
theorem Sels.tw {κ : Bool} {S : List Nat} {w0 : World} {rs H : List Res} {K : WP} (h : Sels rs H) (hk : TW κ S w0 rs K) : TW κ S w0 H K := fun w hw => hk w (h.lw hw)
inductive Part : List Res → List Res → List Res → Prop where
 | nil {H : List Res} : Part [] H H
 | cons {r : Res} {rs H H1 Hk : List Res} : Sel r H H1 → Part rs H1 Hk → Part (r :: rs) H Hk
theorem Part.perm {Hc H Hk : List Res} (h : Part Hc H Hk) : H.Perm (Hc ++ Hk) := by
 induction h with
 | nil => exact .refl _
 | cons h1 _ ih => exact h1.perm.trans (ih.cons _)
theorem C7 {κ : Bool} {X : Nat → Prop} {S : List Nat} {w0 : World} {H Hk Hc : List Res} {K : Value → WP} {f : FuncId} {args : List Value} {α : Type} {φ : α → Value → Prop} {Hn : α → List Res} (he : A9 PR f)
  (hf : ∀ w, LW κ S w0 (Hc ++ Hk) w → LW false (B6 Hc) w Hc w → Fn PR B8 f args.toArray w (Rn (B6 Hc) w φ Hn)) (hp : Part Hc H Hk) (hK : ∀ a v, φ a v → TW κ S w0 (Hn a ++ Hk) (K v)) : TW κ S w0 H (B4 PR X f args K) :=
 B2q he hp.perm (fun w hw => let h := hw.perm hp.perm; hf w h (h.sub (List.sublist_append_left _ _)).self) hK
theorem B1 {κ : Bool} {S : List Nat} {w0 : World} {H : List Res} {α : Type} {φ : α → Value → Prop} {Hn : α → List Res} {v : Value} (a : α) (h : φ a v) (hs : Sels (Hn a) H) : TW κ S w0 H (Rn S w0 φ Hn v) := fun w hw => ⟨a, h, hs.lw hw.low⟩
theorem C4Y {κ : Bool} {S : List Nat} {w0 : World} {H : List Res} {F : Value → WP} {A : (Value → WP) → WP} {α : Type} (φ : α → Prop) (Hh : α → List Res) (v1 : α → Value) (hF : ∀ x, φ x → TW κ S w0 (Hh x) (F (v1 x)))
  (hA : ∀ J : Value → WP, (∀ x, φ x → TW κ S w0 (Hh x) (J (v1 x))) → TW κ S w0 H (A J)) : TW κ S w0 H (kt (n := 1) F A) := hA F hF
theorem C8B {κ : Bool} {S : List Nat} {w0 : World} {H : List Res} {F : Value → Value → WP} {A : (Value → Value → WP) → WP} {α : Type} (φ : α → Prop) (Hh : α → List Res) (v1 v2 : α → Value) (hF : ∀ x, φ x → TW κ S w0 (Hh x) (F (v1 x) (v2 x)))
  (hA : ∀ J : Value → Value → WP, (∀ x, φ x → TW κ S w0 (Hh x) (J (v1 x) (v2 x))) → TW κ S w0 H (A J)) : TW κ S w0 H (kt (n := 2) F A) := hA F hF
theorem G1.form {w : World} {v : Value} {n : Nat} {xs : List Value} (h : G1 w v n xs) : ∃ a c, v = .slice a n c ∧ (0 < n → ∃ b o, a = some ⟨b, o, none⟩ ∧ L9 w b o xs) := by
 rcases h with ⟨rfl, rfl, a, c, rfl⟩ | ⟨b, o, c, rfl, hr⟩
 ·exact ⟨a, c, rfl, fun h => absurd h (by omega)⟩
 ·exact ⟨_, c, rfl, fun _ => ⟨b, o, rfl, hr⟩⟩
theorem L9.at {w : World} {b o k : Nat} {α : Type} {l : List α} {f : α → List Value} (h : L9 w b o (l.flatMap f)) (hk : ∀ x, (f x).length = k) {i : Nat} {x : α} (hx : l[i]? = some x) : g4 w b (o + i * k) k = some (f x) := by
 have h1 : L9 w b (o + i * k) (f x) := fun j hj => by
  rw [hk] at hj
  have h2 := d5 hk l i j hj
  rw [hx] at h2
  have h3 : (l.flatMap f)[i * k + j]? = some ((f x)[j]'(by rw [hk]; exact hj)) := by rw [h2]; simp [List.getElem?_eq_getElem, hk, hj]
  rw [Nat.add_assoc, h.get h3]; simp [List.getElem?_eq_getElem, hk, hj]
 have := A3J h1
 rwa [hk] at this
theorem L9.cellAt {w : World} {b o k : Nat} {α : Type} {l : List α} {f : α → List Value} (h : L9 w b o (l.flatMap f)) (hk : ∀ x, (f x).length = k) {i j : Nat} {x : α} {u : Value} (hx : l[i]? = some x) (hu : (f x)[j]? = some u) : w.cell? ⟨b, o + i * k + j, none⟩ = some u := by
 have hj : j < k := by rw [← hk x]; exact (List.getElem?_eq_some_iff.1 hu).1
 have h2 := d5 hk l i j hj
 rw [hx] at h2
 rw [Nat.add_assoc]
 exact h.get (by rw [h2]; exact hu)
theorem L9.one {w : World} {b o : Nat} {α : Type} {l : List α} {f : α → Value} (h : L9 w b o (l.map f)) {i : Nat} {x : α} (hx : l[i]? = some x) : w.cell? ⟨b, o + i, none⟩ = some (f x) := h.get (by simp [hx])
section
variable {κ : Bool} {X : Nat → Prop} {S : List Nat} {w0 : World} {H H' Hr : List Res} {K : Value → WP} {K0 : WP} {t e : TypeId} {n k by' : Nat} {z : Value}
theorem C8e {s : Sem Value} {v : Value} (h : ∀ w, LW κ S w0 H w → A6 PR s K w = K v w) : TW κ S w0 H (A6 PR s K) = TW κ S w0 H (K v) := TW.congr h
theorem C0b {s : Sem Value} {v : Value} (hK : TW κ S w0 H (K v)) (h : ∀ w, LW κ S w0 H w → A6 PR s K w = K v w) : TW κ S w0 H (A6 PR s K) := fun w hw => by rw [h w hw]; exact hK w hw
theorem y9 {v : Value} {q : Nat} {xs : List Value} (hm : Res.own e k v q xs ∈ H) (hq : 0 < q) (h : ∀ g c, v = .slice (some ⟨g, 0, none⟩) q c → TW κ S w0 H K0) : TW κ S w0 H K0 := fun w hw => by
 rcases (hw.hold _ hm).2 with ⟨_, rfl⟩ | ⟨g, c, _, rfl, _⟩
 ·omega
 ·exact h g c rfl w hw
@[simp] theorem D2q [h : TS t z] {b o : Nat} {c : Array Value} {T : TypeId} {f : Nat × Nat} (hm : Res.pt b (.cells c T f) ∈ H) :
  TW κ S w0 H (A6 PR (Instr.loadAt t (.pointer (some ⟨b, o, none⟩))) K) = TW κ S w0 H (rdc c[o]? K (far PR t ⟨b, o, none⟩ K)) := let ⟨_, _, h, hd⟩ := h.ti; C4q h hd hm
@[simp] theorem D2B [h : TS t z] {g o : Nat} {k q c : Nat} {xs : List Value} (hm : Res.own e k (.slice (some ⟨g, 0, none⟩) q c) q xs ∈ H) :
  TW κ S w0 H (A6 PR (Instr.loadAt t (.pointer (some ⟨g, o, none⟩))) K) = TW κ S w0 H (rdc xs[o]? K (A6 PR (Instr.loadAt t (.pointer (some ⟨g, o, none⟩))) K)) := by
 cases hv : xs[o]? with
 | none => rfl
 | some v => exact let ⟨_, _, h, hd⟩ := h.ti; C2n h hd hm hv
@[simp] theorem D14 [h : TS t z] {b o : Nat} {v : Value} (hc : w0.cell? ⟨b, o, none⟩ = some v) (hS : b ∉ S) :
  TW κ S w0 H (A6 PR (Instr.loadAt t (.pointer (some ⟨b, o, none⟩))) K) = TW κ S w0 H (K v) := let ⟨_, _, h, hd⟩ := h.ti; C3v h hd hc hS
@[simp] theorem D2K [h : TG t n z] {b o : Nat} {c : Array Value} {T : TypeId} {f : Nat × Nat} (hm : Res.pt b (.cells c T f) ∈ H) :
  TW κ S w0 H (A6 PR (Instr.loadAt t (.pointer (some ⟨b, o, none⟩))) K) = TW κ S w0 H (rdq (V7 c.toList o n) (fun l => K (.agg l.toArray)) (A6 PR (Instr.loadAt t (.pointer (some ⟨b, o, none⟩))) K)) := by
 cases hl : V7 c.toList o n with
 | none => rfl
 | some l => exact let ⟨_, _, h, hd⟩ := h.ti; C27 h hd hm hl
@[simp] theorem C99 [h : TG t n z] {g o : Nat} {k q c : Nat} {xs : List Value} (hm : Res.own e k (.slice (some ⟨g, 0, none⟩) q c) q xs ∈ H) :
  TW κ S w0 H (A6 PR (Instr.loadAt t (.pointer (some ⟨g, o, none⟩))) K) = TW κ S w0 H (rdq (V7 xs o n) (fun l => K (.agg l.toArray)) (A6 PR (Instr.loadAt t (.pointer (some ⟨g, o, none⟩))) K)) := by
 cases hl : V7 xs o n with
 | none => rfl
 | some l => exact let ⟨_, _, h, hd⟩ := h.ti; C0u h hd hm hl
@[simp] theorem D0J [h : TG t n z] {b o : Nat} {l : List Value} (hc : g4 w0 b o n = some l) (hS : b ∉ S) :
  TW κ S w0 H (A6 PR (Instr.loadAt t (.pointer (some ⟨b, o, none⟩))) K) = TW κ S w0 H (K (.agg l.toArray)) := let ⟨_, _, h, hd⟩ := h.ti; C03 h hd hc hS
@[simp] theorem C6w [h : TS t z] {b o : Nat} {c : Array Value} {T : TypeId} {f : Nat × Nat} (hm : Res.pt b (.cells c T f) ∈ H) {v : Value} (hv : c[o]? = some v) :
  TW κ S w0 H (A6 PR (F6 [.c t (.pointer (some ⟨b, o, none⟩))]) K) = TW κ S w0 H (K v) := let ⟨_, _, h, hd⟩ := h.ti; C6u h hd hm hv
@[simp] theorem D23 [h : TG t n z] {b o : Nat} {c : Array Value} {T : TypeId} {f : Nat × Nat} (hm : Res.pt b (.cells c T f) ∈ H) :
  TW κ S w0 H (A6 PR (F6 [.c t (.pointer (some ⟨b, o, none⟩))]) K) = TW κ S w0 H (rdq (V7 c.toList o n) (fun l => K (.agg l.toArray)) (A6 PR (F6 [.c t (.pointer (some ⟨b, o, none⟩))]) K)) := by
 cases hl : V7 c.toList o n with
 | none => rfl
 | some l => exact let ⟨_, _, h, hd⟩ := h.ti; C61 h hd hm hl
@[simp] theorem D2f [h : TG t n z] {b o : Nat} {c : Array Value} {T : TypeId} {f : Nat × Nat} {x : Value} (hm : Res.pt b (.cells c T f) ∈ H) :
  TW κ S w0 H (A6 PR (F6 [.c t (.pointer (some ⟨b, o, none⟩)), .v x]) K) = TW κ S w0 H (rdq (V7 c.toList o n) (fun l => K (.tuple #[.agg l.toArray, x])) (A6 PR (F6 [.c t (.pointer (some ⟨b, o, none⟩)), .v x]) K)) := by
 cases hl : V7 c.toList o n with
 | none => rfl
 | some l =>
   obtain ⟨_, _, h, hd⟩ := h.ti
   refine TW.congr fun w hw => ?_
   rw [B53]
   have hr := A1d hl (L9.bl (hw.pt hm)); have h2 := A1u hr
   refine S7 ?_ K
   have := A41 h hd h2.1 h2.2
   simp only [Instr.loadAt, Instr.sureAddr, Sem.run_bind, Sem.run_pure, Result.andThen_ok] at this
   simp [F6, A3U, RV.sem, asAddr, this, one]
@[simp] theorem D2V [h : TG t n z] {b o : Nat} {c : Array Value} {T : TypeId} {f : Nat × Nat} {x y : Value} (hm : Res.pt b (.cells c T f) ∈ H) :
  TW κ S w0 H (A6 PR (F6 [.c t (.pointer (some ⟨b, o, none⟩)), .v x, .v y]) K) = TW κ S w0 H (rdq (V7 c.toList o n) (fun l => K (.tuple #[.agg l.toArray, x, y])) (A6 PR (F6 [.c t (.pointer (some ⟨b, o, none⟩)), .v x, .v y]) K)) := by
 cases hl : V7 c.toList o n with
 | none => rfl
 | some l =>
   obtain ⟨_, _, h, hd⟩ := h.ti
   refine TW.congr fun w hw => ?_
   rw [B53]
   have hr := A1d hl (L9.bl (hw.pt hm)); have h2 := A1u hr
   refine S7 ?_ K
   have := A41 h hd h2.1 h2.2
   simp only [Instr.loadAt, Instr.sureAddr, Sem.run_bind, Sem.run_pure, Result.andThen_ok] at this
   simp [F6, A3U, RV.sem, asAddr, this, one]
@[simp] theorem C8v [h : TS t z] {b o : Nat} {c : Array Value} {T : TypeId} {f : Nat × Nat} {v : Value} {l : List Rd} (hm : Res.pt b (.cells c T f) ∈ H) (hv : c[o]? = some v) :
  TW κ S w0 H (watch PR ((none, Instr.loadAt t (.pointer (some ⟨b, o, none⟩)), v) :: l) K0) = TW κ S w0 H (watch PR l K0) := let ⟨_, _, h, hd⟩ := h.ti; B3D fun w hw => A0a h hd (by rw [E1 (hw.pt hm)]; exact hv)
@[simp] theorem C7Y [h : TS t z] {b o : Nat} {v : Value} {l : List Rd} (hc : w0.cell? ⟨b, o, none⟩ = some v) (hS : b ∉ S) :
  TW κ S w0 H (watch PR ((none, Instr.loadAt t (.pointer (some ⟨b, o, none⟩)), v) :: l) K0) = TW κ S w0 H (watch PR l K0) := let ⟨_, _, h, hd⟩ := h.ti; B3D fun w hw => A0a h hd (hw.ks.cell hS hc)
@[simp] theorem D1m [h : TA t n z] {v : Value} {b o : Nat} {c : Array Value} {T : TypeId} (hv : v.cells.size = n)
  (hu : Up (.pt b (.cells c T (0, 0))) (.pt b (.cells (E5 c o v.cells.toList) T (0, 0))) H H') (hs : o + n ≤ c.size) (hp : v.cells.toList.all plain = true) :
  TW κ S w0 H (C1 PR X (Instr.storeAt t (.pointer (some ⟨b, o, none⟩)) v) K0) = TW κ S w0 H' K0 := let ⟨_, _, h⟩ := h.ti; D2F h hv hu hs hp
theorem T5 [h : TA t n z] {v : Value} {g o q c : Nat} {xs : List Value} (hu : Up (.own e k (.slice (some ⟨g, 0, none⟩) q c) q xs) (.own e k (.slice (some ⟨g, 0, none⟩) q c) q (W6 xs o v.cells.toList)) H H')
  (hv : v.cells.size = n) (hs : o + n ≤ xs.length) (hp : v.cells.toList.all plain = true) (hK : TW κ S w0 H' K0) :
  TW κ S w0 H (C1 PR X (Instr.storeAt t (.pointer (some ⟨g, o, none⟩)) v) K0) := let ⟨_, _, h⟩ := h.ti; C2q h hv hu hs hp hK
theorem A4 [h : TA t n z] (hK : ∀ b, TW κ S w0 (.pt b (.cells z.cells t) :: H) (K (.pointer (some ⟨b, 0, none⟩)))) : TW κ S w0 H (B2 PR X (Instr.alloc t true (.tuple #[])) K) := let ⟨_, _, h⟩ := h.ti; D1W h hK
theorem v7 {k1 k2 : IntKind} {l : Int} [h : SL t e k by' z] (h0 : 0 ≤ l) (hb : l * by' ≤ 140737488355328) (hc : l ≤ 9223372036854775807) (hk : 0 < k)
  (hK : ∀ b, TW κ S w0 (.own e k (.slice (some ⟨b, 0, none⟩) l.toNat l.toNat) l.toNat (Builtin.zeroCells z.cells l.toNat).toList :: H) (K (.slice (some ⟨b, 0, none⟩) l.toNat l.toNat))) :
  TW κ S w0 H (B2 PR X (Instr.makeSlice t (.int k1 l) (.int k2 l)) K) := let ⟨⟨_, _, _, h1⟩, ⟨_, h2⟩, h3⟩ := h.ti; D1a h1 h2 h3 hk h0 rfl hb hc hK
theorem D7 [h : SL t e k by' z] (hK : ∀ b, TW κ S w0 (.own e k (.slice (some ⟨b, 0, none⟩) 0 0) 0 [] :: H) (K (.slice (some ⟨b, 0, none⟩) 0 0))) : TW κ S w0 H (B2 PR X (Instr.buildSlice t 0 #[]) K) :=
 let ⟨⟨_, _, _, h1⟩, ⟨_, h2⟩, h3⟩ := h.ti; C8E h1 h2 hK
theorem C30 {m n q : Nat} (hq : 0 < n) : ∀ (vs : List Value) (i : Nat) (cs : Array Value), (∀ v ∈ vs, v.cells.size = n) → (i + vs.length) * n ≤ cs.size →
  Instr.fill (fun i => some (i * n, n)) cs ((List.range' i vs.length).zip vs) = some (E5 cs (i * n) (vs.flatMap fun v => v.cells.toList)) := by
 intro vs
 induction vs with
 | nil => intro i cs _ _; simp [Instr.fill]
 | cons v vs ih =>
  intro i cs hv hs
  simp only [List.length_cons] at hs
  have hv0 : v.cells.size = n := hv v (by simp)
  have e1 : (i + (vs.length + 1)) * n = i * n + n + vs.length * n := by rw [Nat.add_mul, Nat.add_mul]; omega
  simp only [List.length_cons, List.range'_succ, List.zip_cons_cons]
  rw [B7 rfl hv0 (by omega), ih (i + 1) _ (fun u hu => hv u (by simp [hu])) (by rw [C0]; (have : (i + 1 + vs.length) * n = i * n + n + vs.length * n := by (rw [Nat.add_mul, Nat.add_mul]; omega)); omega)]
  have spl_spl : ∀ (l l' : List Value) (c : Array Value) (o : Nat), E5 (E5 c o l) (o + l.length) l' = E5 c o (l ++ l') := by
   intro l
   induction l with
   | nil => intro l' c o; simp
   | cons u l ih => intro l' c o; simp only [B5s, List.cons_append, List.length_cons]; rw [← ih]; congr 1; omega
  rw [List.flatMap_cons, ← spl_spl]
  congr 2
  have : v.cells.toList.length = n := by simp [hv0]
  rw [this, Nat.add_mul]; omega
theorem B68 {len : Nat} {parts : Array (Nat × Value)} (vs : List Value) [h : SL t e k by' z] (hk : 0 < k) (h0 : 0 < len) (hb : len * k ≤ 2 ^ 24) (hp : parts.toList = (List.range' 0 len).zip vs) (hl : vs.length = len) (hv : ∀ v ∈ vs, v.cells.size = k)
  (hK : ∀ b, TW κ S w0 (.own e k (.slice (some ⟨b, 0, none⟩) len len) len (vs.flatMap fun v => v.cells.toList) :: H) (K (.slice (some ⟨b, 0, none⟩) len len))) :
  TW κ S w0 H (B2 PR X (Instr.buildSlice t len parts) K) := by
 obtain ⟨⟨_, _, _, h1⟩, ⟨_, h2⟩, h3⟩ := h.ti
 have hlen : (vs.flatMap fun v => v.cells.toList).length = len * k := by
  rw [← hl]; clear hp hl hK hb h0
  induction vs with
  | nil => simp
  | cons v vs ih =>
   have := hv v (by simp)
   rw [List.flatMap_cons, List.length_append, ih fun u hu => hv u (by simp [hu])]
   simp only [Array.length_toList, List.length_cons, this]; rw [Nat.add_mul]; omega
 have hf := C30 (m := 0) (q := 0) hk vs 0 ((Array.range (len * k)).map (z.cells[· % z.cells.size]!)) hv (by simp [hl])
 rw [hl, ← hp] at hf
 have hz : E5 ((Array.range (len * k)).map (z.cells[· % z.cells.size]!)) (0 * k) (vs.flatMap fun v => v.cells.toList) = (vs.flatMap fun v => v.cells.toList).toArray := by
  apply Array.toList_inj.1
  rw [A01 _ _ _ (by simp [-List.length_flatMap, hlen])]
  simp only [Nat.zero_mul, List.take_zero, List.nil_append, hlen, Nat.zero_add]
  rw [List.drop_eq_nil_of_le (by simp)]; simp
 refine D1l h1 h2 hb (by have : 0 < len * k := Nat.mul_pos h0 hk; omega) (hf.trans (by rw [hz])) (by simp [-List.length_flatMap, hlen]) ?_
 simpa using hK
theorem D5 {v0 : Value} [h : SL t e k by' z] (hk : 0 < k := by decide) (hb : 1 * k ≤ 2 ^ 24 := by decide) (h0 : v0.cells.size = k := by simp) (hK : ∀ b, TW κ S w0 (.own e k (.slice (some ⟨b, 0, none⟩) 1 1) 1 (v0.cells.toList) :: H) (K (.slice (some ⟨b, 0, none⟩) 1 1))) :
  TW κ S w0 H (B2 PR X (Instr.buildSlice t 1 #[(0, v0)]) K) := B68 [v0] hk (by omega) hb rfl rfl (by intro v hv; simp only [List.mem_cons, List.not_mem_nil, or_false] at hv; subst hv; assumption) (by simpa using hK)
theorem D3 {v0 v1 : Value} [h : SL t e k by' z] (hk : 0 < k := by decide) (hb : 2 * k ≤ 2 ^ 24 := by decide) (h0 : v0.cells.size = k := by simp) (h1 : v1.cells.size = k := by simp) (hK : ∀ b, TW κ S w0 (.own e k (.slice (some ⟨b, 0, none⟩) 2 2) 2 (v0.cells.toList ++ v1.cells.toList) :: H) (K (.slice (some ⟨b, 0, none⟩) 2 2))) :
  TW κ S w0 H (B2 PR X (Instr.buildSlice t 2 #[(0, v0), (1, v1)]) K) := B68 [v0, v1] hk (by omega) hb rfl rfl (by intro v hv; simp only [List.mem_cons, List.not_mem_nil, or_false] at hv; rcases hv with rfl | rfl <;> assumption) (by simpa using hK)
theorem D8 {v0 v1 v2 : Value} [h : SL t e k by' z] (hk : 0 < k := by decide) (hb : 3 * k ≤ 2 ^ 24 := by decide) (h0 : v0.cells.size = k := by simp) (h1 : v1.cells.size = k := by simp) (h2 : v2.cells.size = k := by simp) (hK : ∀ b, TW κ S w0 (.own e k (.slice (some ⟨b, 0, none⟩) 3 3) 3 (v0.cells.toList ++ v1.cells.toList ++ v2.cells.toList) :: H) (K (.slice (some ⟨b, 0, none⟩) 3 3))) :
  TW κ S w0 H (B2 PR X (Instr.buildSlice t 3 #[(0, v0), (1, v1), (2, v2)]) K) := B68 [v0, v1, v2] hk (by omega) hb rfl rfl (by intro v hv; simp only [List.mem_cons, List.not_mem_nil, or_false] at hv; rcases hv with rfl | rfl | rfl <;> assumption) (by simpa using hK)
theorem D4 {v0 v1 v2 v3 v4 : Value} [h : SL t e k by' z] (hk : 0 < k := by decide) (hb : 5 * k ≤ 2 ^ 24 := by decide) (h0 : v0.cells.size = k := by simp) (h1 : v1.cells.size = k := by simp) (h2 : v2.cells.size = k := by simp) (h3 : v3.cells.size = k := by simp) (h4 : v4.cells.size = k := by simp) (hK : ∀ b, TW κ S w0 (.own e k (.slice (some ⟨b, 0, none⟩) 5 5) 5 (v0.cells.toList ++ v1.cells.toList ++ v2.cells.toList ++ v3.cells.toList ++ v4.cells.toList) :: H) (K (.slice (some ⟨b, 0, none⟩) 5 5))) :
  TW κ S w0 H (B2 PR X (Instr.buildSlice t 5 #[(0, v0), (1, v1), (2, v2), (3, v3), (4, v4)]) K) := B68 [v0, v1, v2, v3, v4] hk (by omega) hb rfl rfl (by intro v hv; simp only [List.mem_cons, List.not_mem_nil, or_false] at hv; rcases hv with rfl | rfl | rfl | rfl | rfl <;> assumption) (by simpa using hK)
theorem D6 {v0 v1 v2 v3 v4 v5 : Value} [h : SL t e k by' z] (hk : 0 < k := by decide) (hb : 6 * k ≤ 2 ^ 24 := by decide) (h0 : v0.cells.size = k := by simp) (h1 : v1.cells.size = k := by simp) (h2 : v2.cells.size = k := by simp) (h3 : v3.cells.size = k := by simp) (h4 : v4.cells.size = k := by simp) (h5 : v5.cells.size = k := by simp) (hK : ∀ b, TW κ S w0 (.own e k (.slice (some ⟨b, 0, none⟩) 6 6) 6 (v0.cells.toList ++ v1.cells.toList ++ v2.cells.toList ++ v3.cells.toList ++ v4.cells.toList ++ v5.cells.toList) :: H) (K (.slice (some ⟨b, 0, none⟩) 6 6))) :
  TW κ S w0 H (B2 PR X (Instr.buildSlice t 6 #[(0, v0), (1, v1), (2, v2), (3, v3), (4, v4), (5, v5)]) K) := B68 [v0, v1, v2, v3, v4, v5] hk (by omega) hb rfl rfl (by intro v hv; simp only [List.mem_cons, List.not_mem_nil, or_false] at hv; rcases hv with rfl | rfl | rfl | rfl | rfl | rfl <;> assumption) (by simpa using hK)
theorem N2.form {w : World} {e : TypeId} {k n : Nat} {v : Value} {xs : List Value} (h : N2 w e k v n xs) : ∃ a c, v = .slice a n c := by
 rcases h.2 with ⟨rfl, rfl⟩ | ⟨g, cap, cur, rfl, _⟩
 ·exact ⟨_, _, rfl⟩
 ·exact ⟨_, _, rfl⟩
theorem C1F {q : Nat} {xs : List Value} {A : Value → WP} (h : ∀ a c, TW κ S w0 (.own e k (.slice a q c) q xs :: H) (A (.slice a q c))) (v : Value) : TW κ S w0 (.own e k v q xs :: H) (A v) := fun w hw => by
 obtain ⟨a, c, rfl⟩ := N2.form (hw.hold _ A1)
 exact h a c w hw
theorem y7 {ty : TypeId} {v x : Value} {q r : Nat} {xs news : List Value} [h : SL t e k by' z] (hs : Sel (.own e k v q xs) H Hr) (hx : P7 κ S w0 H x r news) (hk : 0 < k) (hl : news.length = r * k) (hp : news.all plain = true)
  (h63 : q + r ≤ maxLen) (hby : (q + r) * by' ≤ 140737488355328) (hK : ∀ a c, TW κ S w0 (.own e k (.slice a (q + r) c) (q + r) (xs ++ news) :: Hr) (K (.slice a (q + r) c))) : TW κ S w0 H (B2 PR X (A8 .append #[t, t] ty [v, x]) K) := by
 obtain ⟨⟨_, _, _, h1⟩, ⟨_, h2⟩, h3⟩ := h.ti
 refine TW.perm ?_ hs.perm
 exact C9E (H'' := fun v' => .own e k v' (q + r) (xs ++ news) :: Hr) h1 h2 h3 hk (fun v' => .here) (fun w hw => hx w (hw.perm hs.perm.symm)) hl hp h63 hby (C1F hK)
end
end Go.Proofs.YtjobgnabneddjaaGreat
namespace Go.Proofs.YtjobgnabneddjaaGreat
open Go
instance : TS 3 (.int .i64 0) := ⟨_, _, H6, rfl⟩
instance : TS 4 (.bool false) := ⟨_, _, ty4, rfl⟩
instance : TS 5 (.int .u8 0) := ⟨_, _, ty5, rfl⟩
instance : TS 9 (.string (ByteArray.mk #[])) := ⟨_, _, ty9, rfl⟩
instance : TG 23 5 (.agg #[(.int .i64 0), (.int .i64 0), (.int .i64 0), (.int .i64 0), (.int .i64 0)]) := ⟨_, _, A30, rfl⟩
instance : TS 24 .nilFunc := ⟨_, _, C7A, rfl⟩
instance : TS 26 (.pointer none) := ⟨_, _, C2z, rfl⟩
instance : TS 27 (.int .i64 0) := ⟨_, _, B95, rfl⟩
instance : TS 30 (.pointer none) := ⟨_, _, C7G, rfl⟩
instance : TS 33 (.pointer none) := ⟨_, _, C2E, rfl⟩
instance : TS 34 (.pointer none) := ⟨_, _, C3V, rfl⟩
instance : TS 35 (.pointer none) := ⟨_, _, C2M, rfl⟩
instance : TS 36 (.slice none 0 0) := ⟨_, _, B31, rfl⟩
instance : SL 36 84 1 24 (.slice none 0 0) := ⟨⟨_, _, _, B31⟩, ⟨_, A8a⟩, rfl⟩
instance : TS 37 (.slice none 0 0) := ⟨_, _, A6x, rfl⟩
instance : SL 37 3 1 8 (.int .i64 0) := ⟨⟨_, _, _, A6x⟩, ⟨_, H6⟩, rfl⟩
instance : TG 42 3 (.agg #[(.bool false), (.bool false), (.bool false)]) := ⟨_, _, B1P, rfl⟩
instance : TG 45 6 (.agg #[(.int .i64 0), (.string (ByteArray.mk #[])), (.string (ByteArray.mk #[])), (.int .i64 0), (.int .i64 0), (.int .i64 0)]) := ⟨_, _, A3S, rfl⟩
instance : TG 47 7 (.agg #[(.int .i64 0), (.string (ByteArray.mk #[])), (.string (ByteArray.mk #[])), (.int .i64 0), (.int .i64 0), (.int .i64 0), (.int .i64 0)]) := ⟨_, _, B33, rfl⟩
instance : SL 51 9 1 16 (.string (ByteArray.mk #[])) := ⟨⟨_, _, _, C3s⟩, ⟨_, ty9⟩, rfl⟩
instance : TG 55 4 (.agg #[(.int .i64 0), (.int .i64 0), (.bool false), (.int .i64 0)]) := ⟨_, _, B3x, rfl⟩
instance : TS 58 (.slice none 0 0) := ⟨_, _, B3r, rfl⟩
instance : SL 58 155 2 16 (.agg #[(.int .i64 0), (.int .i64 0)]) := ⟨⟨_, _, _, B3r⟩, ⟨_, A98⟩, rfl⟩
instance : TG 79 3 (.agg #[(.int .i64 0), (.int .i64 0), (.slice none 0 0)]) := ⟨_, _, B34, rfl⟩
instance : TS 84 (.slice none 0 0) := ⟨_, _, A8a, rfl⟩
instance : SL 84 218 4 40 (.agg #[(.int .i64 0), (.string (ByteArray.mk #[])), (.int .i64 0), (.int .i64 0)]) := ⟨⟨_, _, _, A8a⟩, ⟨_, A13⟩, rfl⟩
instance : TS 89 (.int .u64 0) := ⟨_, _, A9S, rfl⟩
instance : TS 103 (.slice none 0 0) := ⟨_, _, B2G, rfl⟩
instance : SL 103 270 2 32 (.agg #[(.int .i64 0), (.slice none 0 0)]) := ⟨⟨_, _, _, B2G⟩, ⟨_, A7E⟩, rfl⟩
instance : TS 104 (.slice none 0 0) := ⟨_, _, B9v, rfl⟩
instance : SL 104 277 2 16 (.agg #[(.int .i64 0), (.int .i64 0)]) := ⟨⟨_, _, _, B9v⟩, ⟨_, C8f⟩, rfl⟩
instance : TS 124 .nilFunc := ⟨_, _, B98, rfl⟩
instance : TS 143 .nilFunc := ⟨_, _, C4P, rfl⟩
instance : TG 144 10 (.agg #[.nilFunc, .nilFunc, .nilFunc, .nilFunc, .nilFunc, .nilFunc, .nilFunc, .nilFunc, .nilFunc, .nilFunc]) := ⟨_, _, C39, rfl⟩
instance : TG 148 3 (.agg #[(.int .i64 0), (.int .i64 0), (.int .i64 0)]) := ⟨_, _, A6b, rfl⟩
instance : TG 155 2 (.agg #[(.int .i64 0), (.int .i64 0)]) := ⟨_, _, A98, rfl⟩
instance : TG 158 2 (.agg #[(.int .i64 0), (.int .i64 0)]) := ⟨_, _, B19, rfl⟩
instance : TS 180 .nilFunc := ⟨_, _, C8y, rfl⟩
instance : TS 192 (.slice none 0 0) := ⟨_, _, B9f, rfl⟩
instance : TS 193 (.slice none 0 0) := ⟨_, _, B8j, rfl⟩
instance : SL 193 290 2 16 (.agg #[(.int .u64 0), (.int .i64 0)]) := ⟨⟨_, _, _, B8j⟩, ⟨_, B5T⟩, rfl⟩
instance : TG 195 2 (.agg #[(.slice none 0 0), (.slice none 0 0)]) := ⟨_, _, A4Z, rfl⟩
instance : TG 218 4 (.agg #[(.int .i64 0), (.string (ByteArray.mk #[])), (.int .i64 0), (.int .i64 0)]) := ⟨_, _, A13, rfl⟩
instance : TG 224 3 (.agg #[(.string (ByteArray.mk #[])), (.string (ByteArray.mk #[])), (.int .i64 0)]) := ⟨_, _, B0H, rfl⟩
instance : TG 226 3 (.agg #[(.string (ByteArray.mk #[])), (.string (ByteArray.mk #[])), (.int .i64 0)]) := ⟨_, _, A96, rfl⟩
instance : SL 228 124 1 8 .nilFunc := ⟨⟨_, _, _, B8w⟩, ⟨_, B98⟩, rfl⟩
instance : TS 229 (.slice none 0 0) := ⟨_, _, B13, rfl⟩
instance : SL 229 266 1 16 .nilIface := ⟨⟨_, _, _, B13⟩, ⟨_, B8g⟩, rfl⟩
instance : SL 259 158 2 16 (.agg #[(.int .i64 0), (.int .i64 0)]) := ⟨⟨_, _, _, B9Y⟩, ⟨_, B19⟩, rfl⟩
instance : TG 263 0 (.agg #[]) := ⟨_, _, A91, rfl⟩
instance : TS 266 .nilIface := ⟨_, _, B8g, rfl⟩
instance : TG 270 2 (.agg #[(.int .i64 0), (.slice none 0 0)]) := ⟨_, _, A7E, rfl⟩
instance : TS 279 (.slice none 0 0) := ⟨_, _, B97, rfl⟩
instance : TS 281 (.slice none 0 0) := ⟨_, _, B5W, rfl⟩
instance : SL 281 284 2 16 (.agg #[(.int .u64 0), (.int .i64 0)]) := ⟨⟨_, _, _, B5W⟩, ⟨_, A68⟩, rfl⟩
instance : TG 284 2 (.agg #[(.int .u64 0), (.int .i64 0)]) := ⟨_, _, A68, rfl⟩
instance : TS 300 (.pointer none) := ⟨_, _, B5S, rfl⟩
instance : TS 301 (.slice none 0 0) := ⟨_, _, A25, rfl⟩
instance : SL 301 5 1 1 (.int .u8 0) := ⟨⟨_, _, _, A25⟩, ⟨_, ty5⟩, rfl⟩
instance : TG 305 2 (.agg #[(.pointer none), (.slice none 0 0)]) := ⟨_, _, C4c, rfl⟩
instance : TS 324 (.slice none 0 0) := ⟨_, _, B91, rfl⟩
instance : TG 330 2 (.agg #[.nilFunc, (.int .i64 0)]) := ⟨_, _, A99, rfl⟩
instance : TG 355 38 (.agg #[(.int .u8 0), (.int .u8 0), (.int .u8 0), (.int .u8 0), (.int .u8 0), (.int .u8 0), (.int .u8 0), (.int .u8 0), (.int .u8 0), (.int .u8 0), (.int .u8 0), (.int .u8 0), (.int .u8 0), (.int .u8 0), (.int .u8 0), (.int .u8 0), (.int .u8 0), (.int .u8 0), (.int .u8 0), (.int .u8 0), (.int .u8 0), (.int .u8 0), (.int .u8 0), (.int .u8 0), (.int .u8 0), (.int .u8 0), (.int .u8 0), (.int .u8 0), (.int .u8 0), (.int .u8 0), (.int .u8 0), (.int .u8 0), (.int .u8 0), (.int .u8 0), (.int .u8 0), (.int .u8 0), (.int .u8 0), (.int .u8 0)]) := ⟨_, _, B9D, rfl⟩
instance : TS 368 .nilFunc := ⟨_, _, C9b, rfl⟩
instance : TS 370 (.int .u64 0) := ⟨_, _, C4e, rfl⟩
instance : SL 375 330 2 16 (.agg #[.nilFunc, (.int .i64 0)]) := ⟨⟨_, _, _, B9l⟩, ⟨_, A99⟩, rfl⟩
@[simp] theorem C8a (a : Option Addr) (x y : Operand) (K : Value → WP) : A6 PR (G9 .eql 131 x y (.pointer a) (.pointer none)) K = K (.bool a.isNone) := funext fun w => B9E a x y K w
@[simp] theorem C93 (a : Option Addr) (x y : Operand) (K : Value → WP) : A6 PR (G9 .eql 26 x y (.pointer a) (.pointer none)) K = K (.bool a.isNone) := funext fun w => C13 a x y K w
@[simp] theorem D0l (a : Option Addr) (x y : Operand) (K : Value → WP) : A6 PR (G9 .eql 30 x y (.pointer a) (.pointer none)) K = K (.bool a.isNone) := funext fun w => C0T a x y K w
@[simp] theorem C9l (a : Option Addr) (x y : Operand) (K : Value → WP) : A6 PR (G9 .eql 300 x y (.pointer a) (.pointer none)) K = K (.bool a.isNone) := funext fun w => B89 a x y K w
@[simp] theorem D2E (a0 b0 : Bool) (a1 b1 : Bool) (a2 b2 : Bool) (x y : Operand) (K : Value → WP) : A6 PR (G9 .eql 42 x y (.agg #[.bool a0, .bool a1, .bool a2]) (.agg #[.bool b0, .bool b1, .bool b2])) K = K (.bool ((a0 == b0) && ((a1 == b1) && ((a2 == b2) && true)))) := funext fun w => C3L a0 b0 a1 b1 a2 b2 x y K w
@[simp] theorem D1w (a0 b0 : Int) (a1 b1 : Int) (a2 b2 : Bool) (a3 b3 : Int) (x y : Operand) (K : Value → WP) : A6 PR (G9 .eql 55 x y (.agg #[.int .i64 a0, .int .i64 a1, .bool a2, .int .i64 a3]) (.agg #[.int .i64 b0, .int .i64 b1, .bool b2, .int .i64 b3])) K = K (.bool (decide (a0 = b0) && (decide (a1 = b1) && ((a2 == b2) && (decide (a3 = b3) && true))))) := funext fun w => C20 a0 b0 a1 b1 a2 b2 a3 b3 x y K w
@[simp] theorem C7e (a : Option Addr) (x y : Operand) (K : Value → WP) : A6 PR (G9 .neq 131 x y (.pointer a) (.pointer none)) K = K (.bool (!a.isNone)) := funext fun w => B88 a x y K w
@[simp] theorem D08 (a : Option Addr) (x y : Operand) (K : Value → WP) : A6 PR (G9 .neq 26 x y (.pointer a) (.pointer none)) K = K (.bool (!a.isNone)) := funext fun w => C0p a x y K w
@[simp] theorem D0c (a : Option Addr) (x y : Operand) (K : Value → WP) : A6 PR (G9 .neq 33 x y (.pointer a) (.pointer none)) K = K (.bool (!a.isNone)) := funext fun w => C0P a x y K w
@[simp] theorem C9z (a : Option Addr) (x y : Operand) (K : Value → WP) : A6 PR (G9 .neq 34 x y (.pointer a) (.pointer none)) K = K (.bool (!a.isNone)) := funext fun w => C0a a x y K w
@[simp] theorem D00 (a : Option Addr) (x y : Operand) (K : Value → WP) : A6 PR (G9 .neq 35 x y (.pointer a) (.pointer none)) K = K (.bool (!a.isNone)) := funext fun w => C0r a x y K w
end Go.Proofs.YtjobgnabneddjaaGreat
namespace Go.Proofs.YtjobgnabneddjaaGreat
open Go
def B3n (n i : Nat) : List Value := [.int .i64 (i : Int), .int .u64 (8 * ((n : Int) - 1 - i))]
abbrev C06 (b : Nat) : Value := .func (.func 243) #[] #[.pointer (some ⟨b, 0, none⟩)]
theorem B66 (w : World) (n : Int) : Fn PR B8 199 #[.int .i64 n] w (Rn [] w (fun b v => v = C06 b) fun b => [.pt b (.cells #[.int .i64 n] 3)]) := by
 refine B3M (TW.go (κ := false) (S := []) ?_)
 unfold A6W
 (have zz:=trivial;repeat((first|clear zz|with_reducible first|refine A3 ?_|refine A5 fun _=>?_|refine A4 fun _=>?_);try simp(disch:=first|omega|assumption|((repeat(first|exact A1|exact uH|apply A2|apply uT));first|done|fail)|(simp;first|done|omega|fail))[]))
 rename_i b
 exact e9 b rfl (by simp)
theorem B5Z (b : Nat) {n : Nat} (hn : n ≤ 8) : A6z (C06 b) [.pt b (.cells #[.int .i64 (n : Int)] 3)] (fun _ _ => True) ((List.range n).map (B3n n)) := by
 refine ⟨_, _, _, rfl, fun l J E hJ hE stJ stE hy w0 h0 => ?_⟩
 refine B0S (B0L (TW.at (κ := true) ?_ (hJ _ _ _ h0).1))
 unfold A2z
 (have zz:=trivial;repeat((first|clear zz|with_reducible first|refine A3 ?_|refine A5 fun _=>?_|refine A4 fun _=>?_);try simp(disch:=first|omega|assumption|((repeat(first|exact A1|exact uH|apply A2|apply uT));first|done|fail)|(simp;first|done|omega|fail))[]))
 refine A6N n (fun i => i) (fun _ => _) hJ stJ h0 fun i a hi hJi _ L hL => ?_
 by_cases hlt : i < n
 ·(have zz:=trivial;repeat((first|clear zz|with_reducible first|refine A3 ?_|refine A5 fun _=>?_|refine A4 fun _=>?_);try simp(disch:=first|omega|assumption|((repeat(first|exact A1|exact uH|apply A2|apply uT));first|done|fail)|(simp;first|done|omega|fail))[hlt]))
  refine A97 hJ hE stJ hy hJi (by simpa using hlt) (by simp [B3n]) (fun w3 h => ?_) (fun w3 h => ?_)
  ·(have zz:=trivial;repeat((first|clear zz|with_reducible first|refine A3 ?_|refine A5 fun _=>?_|refine A4 fun _=>?_);try simp(disch:=first|omega|assumption|((repeat(first|exact A1|exact uH|apply A2|apply uT));first|done|fail)|(simp;first|done|omega|fail))[]))
   exact fun w' hw' => hL hlt w' (stJ _ _ _ _ _ h hw')
  ·(have zz:=trivial;repeat((first|clear zz|with_reducible first|refine A3 ?_|refine A5 fun _=>?_|refine A4 fun _=>?_);try simp(disch:=first|omega|assumption|((repeat(first|exact A1|exact uH|apply A2|apply uT));first|done|fail)|(simp;first|done|omega|fail))[]))
   exact A5c stE h
 ·obtain rfl : i = n := by omega
  (have zz:=trivial;repeat((first|clear zz|with_reducible first|refine A3 ?_|refine A5 fun _=>?_|refine A4 fun _=>?_);try simp(disch:=first|omega|assumption|((repeat(first|exact A1|exact uH|apply A2|apply uT));first|done|fail)|(simp;first|done|omega|fail))[]))
  exact A6J stJ (by simpa using hJi)
def F3 (s : ByteArray) (i : Nat) : Nat := (s.data.getD i 0).toNat
def p8 (s : ByteArray) (a : Nat) : Nat → Nat
 | 0 => 0
 | i + 1 => p8 s a i * 256 + F3 s (a + i)
theorem A0e (s : ByteArray) (i : Nat) : F3 s i < 256 := (s.data.getD i 0).toNat_lt
theorem A8c (s : ByteArray) (a i : Nat) : p8 s a i < 256 ^ i := by
 induction i with
 | zero => simp [p8]
 | succ i ih =>
  have := A0e s (a + i)
  simp only [p8, Nat.pow_succ]
  omega
theorem z7 {s : ByteArray} {i : Nat} (h : i < s.size) : ∃ b : UInt8, s[i]? = some b ∧ b.toNat = F3 s i := by
 refine ⟨s[i], by simp [h], ?_⟩
 have h' : i < s.data.size := h
 have e : s.data.getD i 0 = s[i] := by rw [Array.getD_eq_getD_getElem?, Array.getElem?_eq_getElem h']; rfl
 rw [F3, e]
def A12 (s : ByteArray) (a n : Int) : Bool := decide (1 ≤ n ∧ n ≤ 8 ∧ 0 ≤ a ∧ a ≤ s.size - n)
def A48 (s : ByteArray) (a n : Int) : Int := if A12 s a n = true then (p8 s a.toNat n.toNat : Nat) else 0
theorem A2f (w : World) (s : ByteArray) (hs : s.size < 2 ^ 63) (a n : Int) :
  Fn PR B8 145 #[.string s, .int .i64 a, .int .i64 n] w (fun v w' => v = .tuple #[.int .u64 (A48 s a n), .bool (A12 s a n)] ∧ C9 [] w w') := by
 refine Fn.pure (B6Y (TW.go (κ := false) (S := []) ?_))
 unfold A8u
 by_cases hok : A12 s a n = true
 case neg =>
  have hv : A48 s a n = 0 := if_neg hok
  have hok' : A12 s a n = false := by simpa using hok
  rw [hv, hok']
  have hc : n < 1 ∨ 8 < n ∨ a < 0 ∨ (s.size : Int) - n < a := by
   simp only [A12, decide_eq_true_eq] at hok; omega
  by_cases h1 : n < 1
  ·(have zz:=trivial;repeat((first|clear zz|with_reducible first|refine A3 ?_|refine A5 fun _=>?_|refine A4 fun _=>?_);try simp(disch:=first|omega|assumption|((repeat(first|exact A1|exact uH|apply A2|apply uT));first|done|fail)|(simp;first|done|omega|fail))[h1])); exact B0 rfl
  by_cases h2 : 8 < n
  ·(have zz:=trivial;repeat((first|clear zz|with_reducible first|refine A3 ?_|refine A5 fun _=>?_|refine A4 fun _=>?_);try simp(disch:=first|omega|assumption|((repeat(first|exact A1|exact uH|apply A2|apply uT));first|done|fail)|(simp;first|done|omega|fail))[h1, h2])); exact B0 rfl
  by_cases h3 : a < 0
  ·(have zz:=trivial;repeat((first|clear zz|with_reducible first|refine A3 ?_|refine A5 fun _=>?_|refine A4 fun _=>?_);try simp(disch:=first|omega|assumption|((repeat(first|exact A1|exact uH|apply A2|apply uT));first|done|fail)|(simp;first|done|omega|fail))[h1, h2, h3])); exact B0 rfl
  have h4 : (s.size : Int) - n < a := by omega
  (have zz:=trivial;repeat((first|clear zz|with_reducible first|refine A3 ?_|refine A5 fun _=>?_|refine A4 fun _=>?_);try simp(disch:=first|omega|assumption|((repeat(first|exact A1|exact uH|apply A2|apply uT));first|done|fail)|(simp;first|done|omega|fail))[h1, h2, h3, h4])); exact B0 rfl
 have hv : A48 s a n = (p8 s a.toNat n.toNat : Nat) := if_pos hok
 rw [hv, hok]
 simp only [A12, decide_eq_true_eq] at hok
 obtain ⟨m, rfl⟩ : ∃ m : Nat, n = m := ⟨n.toNat, by omega⟩
 obtain ⟨k, rfl⟩ : ∃ k : Nat, a = k := ⟨a.toNat, by omega⟩
 have h1 : ¬ (m : Int) < 1 := by omega
 have h2 : ¬ 8 < (m : Int) := by omega
 have h4 : ¬ (s.size : Int) - m < k := by omega
 have h5 : ¬ (k : Int) < 0 := by omega
 (have zz:=trivial;repeat((first|clear zz|with_reducible first|refine A3 ?_|refine A5 fun _=>?_|refine A4 fun _=>?_);try simp(disch:=first|omega|assumption|((repeat(first|exact A1|exact uH|apply A2|apply uT));first|done|fail)|(simp;first|done|omega|fail))[h1, h2, h4, h5]))
 rename_i bs ba bv
 refine H3 A4d (fun w' _ => B66 w' m) ?_
 rintro b v rfl
 refine A4P (B5Z b (n := m) (by omega)) (by simp [B3n]) (fun _ (_ : Unit) => True) (fun i _ => [.pt bv (.cells #[.int .u64 ((p8 s k i * 256 ^ (m - i) : Nat) : Int)] 89), .pt ba (.cells #[.int .i64 (k : Int)] 3), .pt bs (.cells #[.string s] 9)])
  (fun _ (_ : Unit) => False) (fun _ => []) () trivial ?_ ?_ ?_ ?_ (by simp [p8])
 ·intros; trivial
 ·rintro i hi _ F _ K' hK _
  have hi' : i < m := by simpa using hi
  obtain ⟨by0, hb0, hb1⟩ := z7 (s := s) (i := k + i) (by omega)
  have hidx : ((k : Int) + i).toNat = k + i := by omega
  have hbl := A0e s (k + i)
  rw [← hidx] at hb0
  have hsh : (0 : Int) ≤ 8 * ((m : Int) - 1 - i) := by omega
  simp only [List.getElem_map, List.getElem_range, B3n, VF.app]
  (have zz:=trivial;repeat((first|clear zz|with_reducible first|refine A3 ?_|refine A5 fun _=>?_|refine A4 fun _=>?_);try simp(disch:=first|omega|assumption|((repeat(first|exact A1|exact uH|apply A2|apply uT));first|done|fail)|(simp;first|done|omega|fail))[Z1]))
  refine TW.eqH ?_ (hK () trivial)
  have hlt : (p8 s k i * 256 + F3 s (k + i)) * 256 ^ (m - 1 - i) < 2 ^ 64 := by
   have hA : p8 s k (i + 1) < 256 ^ (i + 1) := A8c s k (i + 1)
   have h8 : 256 ^ (i + 1) * 256 ^ (m - 1 - i) ≤ 2 ^ 64 := by
    rw [← Nat.pow_add, show (2 : Nat) ^ 64 = 256 ^ 8 from rfl]
    exact Nat.pow_le_pow_right (by omega) (by omega)
   exact Nat.lt_of_lt_of_le (Nat.mul_lt_mul_of_pos_right hA (Nat.pow_pos (by omega))) h8
  have hval := C5T hbl hlt (by omega)
  rw [show m - (i + 1) = m - 1 - i from by omega]
  simp [p8, ← hval]
  rw [hb1, show (8 * ((m : Int) - 1 - i)).toNat = 8 * (m - 1 - i) from by omega, show m - i = m - 1 - i + 1 from by omega]
 ·rintro _ _
  (have zz:=trivial;repeat((first|clear zz|with_reducible first|refine A3 ?_|refine A5 fun _=>?_|refine A4 fun _=>?_);try simp(disch:=first|omega|assumption|((repeat(first|exact A1|exact uH|apply A2|apply uT));first|done|fail)|(simp;first|done|omega|fail))[]))
  exact B0 (by simp)
 ·rintro _ _ h; exact h.elim
def B5J (v : Int) (n i : Nat) : Int := IntKind.u8.wrap (v.fdiv (2 ^ min (8 * ((n : Int) - 1 - i)).toNat IntKind.u64.bits))
def A0B (v : Int) (n i : Nat) : List Int := (List.range n).map fun j => if j < i then B5J v n j else 0
def E9 (v n : Int) : ByteArray := if 1 ≤ n ∧ n ≤ 8 then A3C (A0B v n.toNat n.toNat) else ByteArray.mk #[]
theorem C3J (v : Int) {n i : Nat} (h : i < n) : (A0B v n i).set i (B5J v n i) = A0B v n (i + 1) := by
 apply List.ext_getElem (by simp [A0B])
 intro j h1 h2
 simp only [A0B, List.length_set, List.length_map, List.length_range] at h1
 rw [List.getElem_set]
 simp only [A0B, List.getElem_map, List.getElem_range]
 by_cases hij : i = j
 ·subst hij; simp
 ·by_cases hj : j < i
  ·simp [hij, hj, Nat.lt_succ_of_lt hj]
  ·have : ¬ j < i + 1 := by omega
   simp [hij, hj, this]
def A44 (v : Int) (n i : Nat) : Array Value := ((A0B v n i).map (Value.int .u8)).toArray
theorem C2B (v : Int) {m : Nat} (h : m ≤ 8) : Builtin.zeroCells (Value.int .u8 0).cells m = A44 v m 0 := by
 have : m = 0 ∨ m = 1 ∨ m = 2 ∨ m = 3 ∨ m = 4 ∨ m = 5 ∨ m = 6 ∨ m = 7 ∨ m = 8 := by omega
 rcases this with rfl | rfl | rfl | rfl | rfl | rfl | rfl | rfl | rfl <;>
  (apply Array.ext'; simp [Builtin.zeroCells, A44, A0B, List.range, List.range.loop])
@[simp] theorem C1r {v n : Int} (h1 : 1 ≤ n) (h2 : n ≤ 8) : (E9 v n).size = n.toNat := by simp [E9, h1, h2, A0B]
theorem V3 (w : World) (v n : Int) :
  Fn PR B8 176 #[.int .u64 v, .int .i64 n] w (fun u w' => u = .string (E9 v n) ∧ C9 [] w w') := by
 refine Fn.pure (B6m (TW.go (κ := false) (S := []) ?_))
 unfold A9n
 by_cases hok : 1 ≤ n ∧ n ≤ 8
 case neg =>
  have hv : E9 v n = ByteArray.mk #[] := if_neg hok
  rw [hv]
  by_cases h1 : n < 1
  ·(have zz:=trivial;repeat((first|clear zz|with_reducible first|refine A3 ?_|refine A5 fun _=>?_|refine A4 fun _=>?_);try simp(disch:=first|omega|assumption|((repeat(first|exact A1|exact uH|apply A2|apply uT));first|done|fail)|(simp;first|done|omega|fail))[h1])); exact B0 rfl
  ·have h2 : 8 < n := by omega
   (have zz:=trivial;repeat((first|clear zz|with_reducible first|refine A3 ?_|refine A5 fun _=>?_|refine A4 fun _=>?_);try simp(disch:=first|omega|assumption|((repeat(first|exact A1|exact uH|apply A2|apply uT));first|done|fail)|(simp;first|done|omega|fail))[h1, h2])); exact B0 rfl
 have hv : E9 v n = A3C (A0B v n.toNat n.toNat) := if_pos hok
 rw [hv]
 obtain ⟨m, rfl⟩ : ∃ m : Nat, n = m := ⟨n.toNat, by omega⟩
 have h1 : ¬ (m : Int) < 1 := by omega
 have h2 : ¬ 8 < (m : Int) := by omega
 (have zz:=trivial;repeat((first|clear zz|with_reducible first|refine A3 ?_|refine A5 fun _=>?_|refine A4 fun _=>?_);try simp(disch:=first|omega|assumption|((repeat(first|exact A1|exact uH|apply A2|apply uT));first|done|fail)|(simp;first|done|omega|fail))[h1, h2]))
 refine v7 (by omega) (by omega) (by omega) (by omega) fun bs => ?_
 rw [Int.toNat_natCast, C2B v (by omega)]
 (have zz:=trivial;repeat((first|clear zz|with_reducible first|refine A3 ?_|refine A5 fun _=>?_|refine A4 fun _=>?_);try simp(disch:=first|omega|assumption|((repeat(first|exact A1|exact uH|apply A2|apply uT));first|done|fail)|(simp;first|done|omega|fail))[h1, h2]))
 rename_i bv bb
 refine H3 A4d (fun w' _ => B66 w' m) ?_
 rintro b v rfl
 refine A4P (B5Z b (n := m) (by omega)) (by simp [B3n]) (fun _ (_ : Unit) => True) (fun i _ => [.pt bb (.cells #[.slice (some ⟨bs, 0, none⟩) m m] 301),
   .own 5 1 (.slice (some ⟨bs, 0, none⟩) m m) m (A44 v m i).toList, .pt bv (.cells #[.int .u64 v] 89)])
  (fun _ (_ : Unit) => False) (fun _ => []) () trivial ?_ ?_ ?_ ?_ (by simp)
 ·intros; trivial
 ·rintro i hi _ F _ K' hK _
  have hi' : i < m := by simpa using hi
  have hsh : (0 : Int) ≤ 8 * ((m : Int) - 1 - i) := by omega
  simp only [List.getElem_map, List.getElem_range, B3n, VF.app]
  (have zz:=trivial;repeat((first|clear zz|with_reducible first|refine A3 ?_|refine A5 fun _=>?_|refine A4 fun _=>?_);try simp(disch:=first|omega|assumption|((repeat(first|exact A1|exact uH|apply A2|apply uT));first|done|fail)|(simp;first|done|omega|fail))[]))
  refine T5 (by (repeat constructor)) (by simp) (by simp [A44, A0B]; omega) (by simp) ?_
  refine TW.eqH ?_ (hK () trivial)
  have e : W6 (A44 v m i).toList i [.int .u8 (B5J v m i)] = (A44 v m (i + 1)).toList := by
   rw [B59 (by simp [A44, A0B]; omega)]; simp [A44, ← C3J v hi', List.map_set]
  rw [← e]; simp [B5J]
 ·rintro _ _
  (have zz:=trivial;repeat((first|clear zz|with_reducible first|refine A3 ?_|refine A5 fun _=>?_|refine A4 fun _=>?_);try simp(disch:=first|omega|assumption|((repeat(first|exact A1|exact uH|apply A2|apply uT));first|done|fail)|(simp;first|done|omega|fail))[]))
  have hlen : (A0B v m m).length = m := by simp [A0B]
  have := fun w' K (hr : L9 w' bs 0 ((A0B v m m).map (Value.int .u8))) => @B7s K w' bs 0 m _ hr
  rw [hlen] at this
  rw [C8e fun w' hw' => this w' _ (by simpa [A44] using hw'.ownr (e := 5) (k := 1) (q := m) (c := m) (xs := (A44 v m m).toList) (by (repeat constructor)))]
  simp only [C9J]
  exact B0 rfl
 ·rintro _ _ h; exact h.elim
end Go.Proofs.YtjobgnabneddjaaGreat
