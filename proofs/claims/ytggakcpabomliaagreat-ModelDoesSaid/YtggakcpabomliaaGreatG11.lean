/- The proof of a given statement, a part of it (ShStd ShOctet Ins Tc Tn Oct). No condition but what each lemma says. -/
import Derived.Test.YtggakcpabomliaaGreatG10
set_option linter.unusedVariables false
set_option linter.unusedSimpArgs false
namespace Go.Proofs.YtggakcpabomliaaGreat
open Go
def T5 (X : Nat → Prop) (t0 : Value) (R : Value → WP) : WP :=
 jn (n := 1) (fun t2 =>
 B1 PR X (Instr.buildSlice 32 0 #[]) fun t5 =>
 B1 PR X (A7 .append #[32, 32] 32 [t5, t0]) fun t7 =>
 R t7) fun J1 =>
 A6 PR (N2 .eql 32 (.tmp 3) (.const (.slice none 0 0)) t0 (.slice none 0 0)) fun t4 =>
 B6 t4 (
 R (.slice none 0 0)) (
 J1 (.slice none 0 0))
theorem T1 : B0 PR 70 := A8 Tryz.func70 (by kernel_rfl) rfl
theorem m8 {X : Nat → Prop} {t0 : Value} {R : Value → WP} {w : World} (h : T5 X t0 R w) : Fn PR X 70 #[t0] w R := C7 (args := [t0]) mixed Tryz.func70 (by kernel_rfl) h
def V0 (X : Nat → Prop) (t0 : Value) (R : Value → WP) : WP :=
 jn (n := 1) (fun t2 =>
 B1 PR X (Instr.buildSlice 50 0 #[]) fun t5 =>
 B1 PR X (A7 .append #[50, 50] 50 [t5, t0]) fun t7 =>
 R t7) fun J1 =>
 A6 PR (N2 .eql 50 (.tmp 3) (.const (.slice none 0 0)) t0 (.slice none 0 0)) fun t4 =>
 B6 t4 (
 R (.slice none 0 0)) (
 J1 (.slice none 0 0))
theorem P2 : B0 PR 71 := A8 Tryz.func71 (by kernel_rfl) rfl
theorem u5 {X : Nat → Prop} {t0 : Value} {R : Value → WP} {w : World} (h : V0 X t0 R w) : Fn PR X 71 #[t0] w R := C7 (args := [t0]) mixed Tryz.func71 (by kernel_rfl) h
def Q9 (X : Nat → Prop) (t0 t1 : Value) (R : Value → WP) : WP :=
 jn (n := 2) (fun t4 t8 =>
 R (.int .i64 (-1))) fun J1 =>
 A2 PR (A7 .len #[32] 0 [t0]) fun t7 =>
 lp (n := 2) (fun L2 t4_1 t8_1 =>
 A2 PR (binOp .lss 3 t8_1 t7) fun t9 =>
 jn (n := 0) (
 jn (n := 1) (fun t4_2 =>
 A2 PR (binOp .add 3 t8_1 (.int .i64 1)) fun t18 =>
 L2 t4_2 t18) fun J3 =>
 A2 PR (Instr.indexAt 32 t0 t8_1) fun t14 =>
 A6 PR (Instr.loadAt 103 t14) fun t15 =>
 L5 PR X t1 [t15] fun t16 =>
 B6 t16 (
 R t8_1) (
 J3 t4_1)) fun J4 =>
 B6 t9 (
 J4) (
 J1 t4_1 t8_1)) (.int .i64 0) (.int .i64 0)
theorem d6 : B0 PR 86 := A8 Tryz.func86 (by kernel_rfl) rfl
theorem g4 {X : Nat → Prop} {t0 t1 : Value} {R : Value → WP} {w : World} (h : Q9 X t0 t1 R w) : Fn PR X 86 #[t0, t1] w R := C7 (args := [t0, t1]) mixed Tryz.func86 (by kernel_rfl) h
def A2e (X : Nat → Prop) (t0 t1 : Value) (R : Value → WP) : WP :=
 B2 PR X 141 [t0] fun t8 =>
 B2 PR X 141 [t1] fun t10 =>
 jn (n := 1) (fun t4 =>
 jn (n := 1) (fun t4_1 =>
 jn (n := 1) (fun t4_2 =>
 jn (n := 1) (fun t4_3 =>
 R (.int .i64 0)) fun J1 =>
 A2 PR (binOp .gtr 3 t0 t1) fun t19 =>
 B6 t19 (
 R (.int .i64 1)) (
 J1 t4_2)) fun J2 =>
 A2 PR (binOp .lss 3 t0 t1) fun t16 =>
 B6 t16 (
 R (.int .i64 (-1))) (
 J2 t4_1)) fun J3 =>
 B6 t10 (
 R (.int .i64 1)) (
 J3 t4)) fun J4 =>
 B6 t8 (
 jn (n := 1) (fun t4_4 =>
 R (.int .i64 (-1))) fun J5 =>
 B6 t10 (
 R (.int .i64 0)) (
 J5 (.int .i64 0))) (
 J4 (.int .i64 0))
theorem A8J : B0 PR 96 := A8 Tryz.func96 (by kernel_rfl) rfl
theorem A85 {X : Nat → Prop} {t0 t1 : Value} {R : Value → WP} {w : World} (h : A2e X t0 t1 R w) : Fn PR X 96 #[t0, t1] w R := C7 (args := [t0, t1]) mixed Tryz.func96 (by kernel_rfl) h
theorem A9x {X : Nat → Prop} {t0 t1 : Value} {K : Value → WP} {w : World} (h : Fn PR X 96 #[t0, t1] w K) : B2 PR X 96 [t0, t1] K w := Or.inl ⟨A8J, h⟩
def W8 (X : Nat → Prop) (t0 t1 : Value) (R : Value → WP) : WP :=
 B2 PR X 169 [t0, t1] fun t7 =>
 A2 PR (binOp .geq 3 t7 (.int .i64 0)) fun t8 =>
 R t8
theorem s8 : B0 PR 129 := A8 Tryz.func129 (by kernel_rfl) rfl
theorem A0H {X : Nat → Prop} {t0 t1 : Value} {R : Value → WP} {w : World} (h : W8 X t0 t1 R w) : Fn PR X 129 #[t0, t1] w R := C7 (args := [t0, t1]) mixed Tryz.func129 (by kernel_rfl) h
def Y7 (X : Nat → Prop) (t0 t1 : Value) (R : Value → WP) : WP :=
 B2 PR X 172 [t0] fun t7 =>
 B2 PR X 173 [t7, t1] fun t10 =>
 R t7
theorem A0E : B0 PR 135 := A8 Tryz.func135 (by kernel_rfl) rfl
theorem A0k {X : Nat → Prop} {t0 t1 : Value} {R : Value → WP} {w : World} (h : Y7 X t0 t1 R w) : Fn PR X 135 #[t0, t1] w R := C7 (args := [t0, t1]) mixed Tryz.func135 (by kernel_rfl) h
def A32 (X : Nat → Prop) (t0 : Value) (R : Value → WP) : WP :=
 A2 PR (binOp .neq 3 t0 t0) fun t5 =>
 R t5
theorem A9p : B0 PR 141 := A8 Tryz.func141 (by kernel_rfl) rfl
theorem B0c {X : Nat → Prop} {t0 : Value} {R : Value → WP} {w : World} (h : A32 X t0 R w) : Fn PR X 141 #[t0] w R := C7 (args := [t0]) mixed Tryz.func141 (by kernel_rfl) h
theorem A5C {X : Nat → Prop} {t0 : Value} {K : Value → WP} {w : World} (h : Fn PR X 141 #[t0] w K) : B2 PR X 141 [t0] K w := Or.inl ⟨A9p, h⟩
def Z7 (X : Nat → Prop) (t0 t1 : Value) (R : Value → WP) : WP :=
 B2 PR X 183 [t0] fun t7 =>
 A2 PR (P8 t0) fun t10 =>
 A2 PR (Instr.fieldAt 220 t10 1) fun t11 =>
 A6 PR (Instr.loadAt 218 t11) fun t12 =>
 B1 PR X (A7 .append #[218, 9] 218 [t12, t1]) fun t14 =>
 A2 PR (P8 t0) fun t15 =>
 A2 PR (Instr.fieldAt 220 t15 1) fun t16 =>
 B4 PR X (Instr.storeAt 218 t16 t14) <|
 A2 PR (A7 .len #[9] 0 [t1]) fun t18 =>
 R (.tuple #[t18, .nilIface])
theorem M7 : B0 PR 148 := A8 Tryz.func148 (by kernel_rfl) rfl
theorem A1m {X : Nat → Prop} {t0 t1 : Value} {R : Value → WP} {w : World} (h : Z7 X t0 t1 R w) : Fn PR X 148 #[t0, t1] w R := C7 (args := [t0, t1]) mixed Tryz.func148 (by kernel_rfl) h
def p7 (X : Nat → Prop) (t0 : Value) (R : Value → WP) : WP :=
 drw <|
 A2 PR (P8 t0) fun t4 =>
 A2 PR (Instr.fieldAt 220 t4 1) fun t5 =>
 A6 PR (Instr.loadAt 218 t5) fun t6 =>
 A2 PR (P8 t0) fun t9 =>
 A2 PR (Instr.fieldAt 220 t9 1) fun t10 =>
 A6 PR (Instr.loadAt 218 t10) fun t11 =>
 A2 PR (A7 .len #[218] 0 [t11]) fun t12 =>
 B1 PR X (A7 .unsafeSliceData #[218] 266 [t6]) fun t7 =>
 watch PR [(none, (Instr.loadAt 218 t10), t11)] <|
 B1 PR X (A7 .unsafeString #[266, 3] 9 [t7, t12]) fun t13 =>
 R t13
theorem A2r : B0 PR 149 := A8 Tryz.func149 (by kernel_rfl) rfl
theorem A3C {X : Nat → Prop} {t0 : Value} {R : Value → WP} {w : World} (h : p7 X t0 R w) : Fn PR X 149 #[t0] w R := C7 (args := [t0]) mixed Tryz.func149 (by kernel_rfl) h
def Z4 (X : Nat → Prop) (t0 t1 : Value) (R : Value → WP) : WP :=
 jn (n := 2) (fun t4 t8 =>
 R (.int .i64 (-1))) fun J1 =>
 A2 PR (A7 .len #[185] 0 [t0]) fun t7 =>
 lp (n := 2) (fun L2 t4_1 t8_1 =>
 A2 PR (binOp .lss 3 t8_1 t7) fun t9 =>
 jn (n := 0) (
 jn (n := 1) (fun t4_2 =>
 A2 PR (binOp .add 3 t8_1 (.int .i64 1)) fun t18 =>
 L2 t4_2 t18) fun J3 =>
 A2 PR (Instr.indexAt 185 t0 t8_1) fun t14 =>
 A6 PR (Instr.loadAt 140 t14) fun t15 =>
 L5 PR X t1 [t15] fun t16 =>
 B6 t16 (
 R t8_1) (
 J3 t4_1)) fun J4 =>
 B6 t9 (
 J4) (
 J1 t4_1 t8_1)) (.int .i64 0) (.int .i64 0)
theorem A0y : B0 PR 169 := A8 Tryz.func169 (by kernel_rfl) rfl
theorem A1M {X : Nat → Prop} {t0 t1 : Value} {R : Value → WP} {w : World} (h : Z4 X t0 t1 R w) : Fn PR X 169 #[t0, t1] w R := C7 (args := [t0, t1]) mixed Tryz.func169 (by kernel_rfl) h
def A63 (X : Nat → Prop) (t0 t1 : Value) (R : Value → WP) : WP :=
 jn (n := 2) (fun t5 t6 =>
 R t5) fun J1 =>
 lp (n := 2) (fun L2 t5_1 t6_1 =>
 jn (n := 0) (
 A2 PR (binOp .add 3 t5_1 t6_1) fun t14 =>
 A2 PR (convert 3 133 t14) fun t15 =>
 A2 PR (binOp .shr 133 t15 (.int .u64 1)) fun t16 =>
 A2 PR (convert 133 3 t16) fun t17 =>
 L5 PR X t1 [t17] fun t20 =>
 A2 PR (Op.unary .not t20) fun t21 =>
 B6 t21 (
 A2 PR (binOp .add 3 t17 (.int .i64 1)) fun t23 =>
 L2 t23 t6_1) (
 L2 t5_1 t17)) fun J3 =>
 A2 PR (binOp .lss 3 t5_1 t6_1) fun t11 =>
 B6 t11 (
 J3) (
 J1 t5_1 t6_1)) (.int .i64 0) t0
theorem B11 : B0 PR 170 := A8 Tryz.func170 (by kernel_rfl) rfl
theorem B2H {X : Nat → Prop} {t0 t1 : Value} {R : Value → WP} {w : World} (h : A63 X t0 t1 R w) : Fn PR X 170 #[t0, t1] w R := C7 (args := [t0, t1]) mixed Tryz.func170 (by kernel_rfl) h
def a7 (X : Nat → Prop) (t0 : Value) (R : Value → WP) : WP :=
 B2 PR X 197 [(.slice none 0 0), t0] fun t4 =>
 R t4
theorem A1L : B0 PR 172 := A8 Tryz.func172 (by kernel_rfl) rfl
theorem A1W {X : Nat → Prop} {t0 : Value} {R : Value → WP} {w : World} (h : a7 X t0 R w) : Fn PR X 172 #[t0] w R := C7 (args := [t0]) mixed Tryz.func172 (by kernel_rfl) h
theorem Z8 : B0 PR 173 := A8 Tryz.func173 (by kernel_rfl) rfl
def A74 (X : Nat → Prop) (t0 : Value) (R : Value → WP) : WP :=
 jn (n := 2) (fun t2 t8 =>
 R (.int .i64 0)) fun J1 =>
 A2 PR (A7 .len #[34] 0 [t0]) fun t7 =>
 lp (n := 2) (fun L2 t2_1 t8_1 =>
 A2 PR (binOp .lss 3 t8_1 t7) fun t9 =>
 jn (n := 0) (
 jn (n := 1) (fun t2_2 =>
 A2 PR (binOp .add 3 t8_1 (.int .i64 1)) fun t16 =>
 L2 t2_2 t16) fun J3 =>
 A2 PR (Instr.indexAt 34 t0 t8_1) fun t10 =>
 A6 PR (Instr.loadAt 3 t10) fun t11 =>
 A2 PR (binOp .neq 3 t11 (.int .i64 0)) fun t14 =>
 B6 t14 (
 R t11) (
 J3 t2_1)) fun J4 =>
 B6 t9 (
 J4) (
 J1 t2_1 t8_1)) (.int .i64 0) (.int .i64 0)
theorem B2Y : B0 PR 176 := A8 Tryz.func176 (by kernel_rfl) rfl
theorem B33 {X : Nat → Prop} {t0 : Value} {R : Value → WP} {w : World} (h : A74 X t0 R w) : Fn PR X 176 #[t0] w R := C7 (args := [t0]) mixed Tryz.func176 (by kernel_rfl) h
theorem B4x {X : Nat → Prop} {t0 : Value} {K : Value → WP} {w : World} (h : Fn PR X 176 #[t0] w K) : B2 PR X 176 [t0] K w := Or.inl ⟨B2Y, h⟩
def A1G (X : Nat → Prop) (t0 t1 : Value) (R : Value → WP) : WP :=
 B2 PR X 200 [t0] fun t8 =>
 B2 PR X 200 [t1] fun t10 =>
 jn (n := 1) (fun t4 =>
 jn (n := 1) (fun t4_1 =>
 jn (n := 1) (fun t4_2 =>
 jn (n := 1) (fun t4_3 =>
 R (.int .i64 0)) fun J1 =>
 A2 PR (binOp .gtr 68 t0 t1) fun t19 =>
 B6 t19 (
 R (.int .i64 1)) (
 J1 t4_2)) fun J2 =>
 A2 PR (binOp .lss 68 t0 t1) fun t16 =>
 B6 t16 (
 R (.int .i64 (-1))) (
 J2 t4_1)) fun J3 =>
 B6 t10 (
 R (.int .i64 1)) (
 J3 t4)) fun J4 =>
 B6 t8 (
 jn (n := 1) (fun t4_4 =>
 R (.int .i64 (-1))) fun J5 =>
 B6 t10 (
 R (.int .i64 0)) (
 J5 (.int .i64 0))) (
 J4 (.int .i64 0))
theorem A5g : B0 PR 177 := A8 Tryz.func177 (by kernel_rfl) rfl
theorem A6L {X : Nat → Prop} {t0 t1 : Value} {R : Value → WP} {w : World} (h : A1G X t0 t1 R w) : Fn PR X 177 #[t0, t1] w R := C7 (args := [t0, t1]) mixed Tryz.func177 (by kernel_rfl) h
theorem A7b {X : Nat → Prop} {t0 t1 : Value} {K : Value → WP} {w : World} (h : Fn PR X 177 #[t0, t1] w K) : B2 PR X 177 [t0, t1] K w := Or.inl ⟨A5g, h⟩
def j3 (X : Nat → Prop) (t0 : Value) (R : Value → WP) : WP :=
 A2 PR (P8 t0) fun t3 =>
 A2 PR (Instr.fieldAt 220 t3 0) fun t4 =>
 A6 PR (Instr.loadAt 217 t4) fun t5 =>
 A6 PR (N2 .eql 217 (.tmp 5) (.const (.pointer none)) t5 (.pointer none)) fun t6 =>
 B6 t6 (
 A6 PR (convert 217 291 t0) fun t9 =>
 B2 PR X 202 [t9] fun t10 =>
 A6 PR (convert 291 217 t10) fun t11 =>
 A2 PR (P8 t0) fun t12 =>
 A2 PR (Instr.fieldAt 220 t12 0) fun t13 =>
 B4 PR X (Instr.storeAt 217 t13 t11) <|
 R (.tuple #[])) (
 A2 PR (P8 t0) fun t15 =>
 A2 PR (Instr.fieldAt 220 t15 0) fun t16 =>
 A6 PR (Instr.loadAt 217 t16) fun t17 =>
 A6 PR (N2 .neq 217 (.tmp 17) (.tmp 18) t17 t0) fun t19 =>
 B6 t19 (
 G4) (
 R (.tuple #[])))
theorem A1v : B0 PR 183 := A8 Tryz.func183 (by kernel_rfl) rfl
theorem A17 {X : Nat → Prop} {t0 : Value} {R : Value → WP} {w : World} (h : j3 X t0 R w) : Fn PR X 183 #[t0] w R := C7 (args := [t0]) mixed Tryz.func183 (by kernel_rfl) h
def Q3 (X : Nat → Prop) (t0 t1 : Value) (R : Value → WP) : WP :=
 B1 PR X (Instr.box 190 t0) fun t2 =>
 jn (n := 0) (
 A6 PR (Instr.loadAt 190 t2) fun t12 =>
 j9 (R t12)) fun J1 =>
 rng (N := 1) PR X (fun t7 K2 =>
 B1 PR (fun _ => False) (Instr.alloc 193 true (.tuple #[])) fun t5 =>
 B4 PR (fun _ => False) (Instr.storeAt 193 t5 t7) <|
 bgn <|
 A6 PR (Instr.loadAt 190 t2) fun t8 =>
 A6 PR (Instr.loadAt 193 t5) fun t9 =>
 B1 PR (fun _ => False) (Instr.buildSlice 190 1 #[(0, t9)]) fun t10 =>
 B1 PR (fun _ => False) (A7 .append #[190, 190] 190 [t8, t10]) fun t11 =>
 B4 PR (fun _ => False) (Instr.storeAt 190 t2 t11) <|
 K2 none) t1 (fun j => match j with | none => (J1) | some (.exit i) => (match Nat.beq i 0 with | true => (J1) | false => (G4)) | some .ret => (j9 (R (.slice none 0 0))) | some _ => G4)
theorem Z5 : B0 PR 197 := A8 Tryz.func197 (by kernel_rfl) rfl
theorem b9 {X : Nat → Prop} {t0 t1 : Value} {R : Value → WP} {w : World} (h : Q3 X t0 t1 R w) : Fn PR X 197 #[t0, t1] w R := C7 (args := [t0, t1]) mixed Tryz.func197 (by kernel_rfl) h
def A1y (X : Nat → Prop) (t0 : Value) (R : Value → WP) : WP :=
 A2 PR (binOp .neq 68 t0 t0) fun t5 =>
 R t5
theorem A7c : B0 PR 200 := A8 Tryz.func200 (by kernel_rfl) rfl
theorem A8G {X : Nat → Prop} {t0 : Value} {R : Value → WP} {w : World} (h : A1y X t0 R w) : Fn PR X 200 #[t0] w R := C7 (args := [t0]) mixed Tryz.func200 (by kernel_rfl) h
theorem A2V {X : Nat → Prop} {t0 : Value} {K : Value → WP} {w : World} (h : Fn PR X 200 #[t0] w K) : B2 PR X 200 [t0] K w := Or.inl ⟨A7c, h⟩
theorem A2l : B0 PR 255 := A8 Tryz.func255 (by kernel_rfl) rfl
end Go.Proofs.YtggakcpabomliaaGreat
namespace Go.Proofs.YtggakcpabomliaaGreat
open Go
def A80 (X : Nat → Prop) (t0 t1 : Value) (R : Value → WP) : WP :=
 B1 PR X (Instr.box 68 t0) fun t2 =>
 jn (n := 1) (fun t4 =>
 B1 PR X (Instr.makeSlice 218 t1 t1) fun t15 =>
 B1 PR X (Instr.alloc 218 true (.tuple #[])) fun t5 =>
 B4 PR X (Instr.storeAt 218 t5 t15) <|
 jn (n := 0) (
 A6 PR (Instr.loadAt 218 t5) fun t27 =>
 A6 PR (convert 218 9 t27) fun t28 =>
 j9 (R t28)) fun J1 =>
 B2 PR X 184 [t1] fun t17 =>
 rng (N := 2) PR X (fun t18 t19 K2 =>
 bgn <|
 A6 PR (Instr.loadAt 218 t5) fun t20 =>
 A6 PR (Instr.loadAt 68 t2) fun t22 =>
 A2 PR (binOp .shr 68 t22 t19) fun t24 =>
 A2 PR (convert 68 5 t24) fun t25 =>
 A2 PR (Instr.indexAt 218 t20 t18) fun t26 =>
 B4 PR (fun _ => False) (Instr.storeAt 5 t26 t25) <|
 K2 none) t17 (fun j => match j with | none => (J1) | some (.exit i) => (match Nat.beq i 0 with | true => (J1) | false => (G4)) | some .ret => (j9 (R t4)) | some _ => G4)) fun J3 =>
 A2 PR (binOp .lss 3 t1 (.int .i64 1)) fun t9 =>
 gj t9 false (fun J => J t1) fun t11 =>
 gj t9 false (fun J => A2 PR (binOp .gtr 3 t11 (.int .i64 8)) J) fun t12 =>
 A2 PR (do pure (if ← asBool t9 then (.bool true) else t12)) fun t13 =>
 B6 t13 (
 j9 (R (.string (ByteArray.mk #[])))) (
 J3 (.string (ByteArray.mk #[])))
theorem G8 : B0 PR 151 := A8 Tryz.func151 (by kernel_rfl) rfl
theorem B5C {X : Nat → Prop} {t0 t1 : Value} {R : Value → WP} {w : World} (h : A80 X t0 t1 R w) : Fn PR X 151 #[t0, t1] w R := C7 (args := [t0, t1]) mixed Tryz.func151 (by kernel_rfl) h
def A6v (X : Nat → Prop) (t0 : Value) (R : Value → WP) : WP :=
 B1 PR X (Instr.box 3 t0) fun t1 =>
 A2 PR (Instr.makeFunc (.func 203) #[] #[t1]) fun t3 =>
 R t3
theorem A47 : B0 PR 184 := A8 Tryz.func184 (by kernel_rfl) rfl
theorem B2S {X : Nat → Prop} {t0 : Value} {R : Value → WP} {w : World} (h : A6v X t0 R w) : Fn PR X 184 #[t0] w R := C7 (args := [t0]) mixed Tryz.func184 (by kernel_rfl) h
def A8f (X : Nat → Prop) (t0 t1 t2 : Value) (R : Value → WP) : WP :=
 B1 PR X (Instr.box 9 t0) fun t3 =>
 B1 PR X (Instr.box 3 t1) fun t4 =>
 jn (n := 2) (fun t6 t7 =>
 B1 PR X (Instr.alloc 68 true (.tuple #[])) fun t8 =>
 jn (n := 0) (
 A6 PR (Instr.loadAt 68 t8) fun t43 =>
 j9 (R (.tuple #[t43, (.bool true)]))) fun J1 =>
 B2 PR X 184 [t2] fun t30 =>
 rng (N := 2) PR X (fun t31 t32 K2 =>
 bgn <|
 drw <|
 A6 PR (Instr.loadAt 68 t8) fun t33 =>
 A6 PR (Instr.loadAt 9 t3) fun t34 =>
 A6 PR (Instr.loadAt 3 t4) fun t35 =>
 A2 PR (binOp .add 3 t35 t31) fun t37 =>
 A2 PR (Instr.index 9 t34 t37) fun t38 =>
 A2 PR (convert 5 68 t38) fun t39 =>
 A2 PR (binOp .shl 68 t39 t32) fun t41 =>
 A2 PR (binOp .or 68 t33 t41) fun t42 =>
 B4 PR (fun _ => False) (Instr.storeAt 68 t8 t42) <|
 K2 none) t30 (fun j => match j with | none => (J1) | some (.exit i) => (match Nat.beq i 0 with | true => (J1) | false => (G4)) | some .ret => (j9 (R (.tuple #[t6, t7]))) | some _ => G4)) fun J3 =>
 A2 PR (binOp .lss 3 t2 (.int .i64 1)) fun t12 =>
 gj t12 false (fun J => J t2) fun t14 =>
 gj t12 false (fun J => A2 PR (binOp .gtr 3 t14 (.int .i64 8)) J) fun t15 =>
 A2 PR (do pure (if ← asBool t12 then (.bool true) else t15)) fun t16 =>
 gj t16 false (fun J => A6 PR (Instr.loadAt 3 t4) J) fun t18 =>
 gj t16 false (fun J => A2 PR (binOp .lss 3 t18 (.int .i64 0)) J) fun t19 =>
 A2 PR (do pure (if ← asBool t16 then (.bool true) else t19)) fun t20 =>
 gj t20 false (fun J => A6 PR (Instr.loadAt 3 t4) J) fun t22 =>
 gj t20 false (fun J => A6 PR (Instr.loadAt 9 t3) J) fun t23 =>
 gj t20 false (fun J => A2 PR (A7 .len #[9] 0 [t23]) J) fun t24 =>
 gj t20 false (fun J => J t2) fun t25 =>
 gj t20 false (fun J => A2 PR (binOp .sub 3 t24 t25) J) fun t26 =>
 gj t20 false (fun J => A2 PR (binOp .gtr 3 t22 t26) J) fun t27 =>
 A2 PR (do pure (if ← asBool t20 then (.bool true) else t27)) fun t28 =>
 B6 t28 (
 j9 (R (.tuple #[(.int .u64 0), (.bool false)]))) (
 J3 (.int .u64 0) (.bool false))
theorem T6 : B0 PR 192 := A8 Tryz.func192 (by kernel_rfl) rfl
theorem B5v {X : Nat → Prop} {t0 t1 t2 : Value} {R : Value → WP} {w : World} (h : A8f X t0 t1 t2 R w) : Fn PR X 192 #[t0, t1, t2] w R := C7 (args := [t0, t1, t2]) mixed Tryz.func192 (by kernel_rfl) h
def A2x (X : Nat → Prop) (t0 t1 : Value) (R : Value → WP) : WP :=
 A6 PR (Instr.loadAt 3 t1) fun t4 =>
 lp (n := 1) (fun L1 t5 =>
 A2 PR (binOp .lss 3 t5 t4) fun t6 =>
 jn (n := 0) (
 jn (n := 0) (
 A2 PR (binOp .add 3 t5 (.int .i64 1)) fun t18 =>
 L1 t18) fun J2 =>
 A6 PR (Instr.loadAt 3 t1) fun t10 =>
 A2 PR (binOp .sub 3 t10 (.int .i64 1)) fun t11 =>
 A2 PR (binOp .sub 3 t11 t5) fun t13 =>
 A2 PR (binOp .mul 3 (.int .i64 8) t13) fun t14 =>
 A2 PR (convert 3 133 t14) fun t15 =>
 L5 PR X t0 [t5, t15] fun t16 =>
 A2 PR (Op.unary .not t16) fun t17 =>
 B6 t17 (
 R (.tuple #[])) (
 J2)) fun J3 =>
 B6 t6 (
 J3) (
 R (.tuple #[]))) (.int .i64 0)
theorem A8w : B0 PR 203 := A8 Tryz.func203 (by kernel_rfl) rfl
theorem A9j {X : Nat → Prop} {t0 t1 : Value} {R : Value → WP} {w : World} (h : A2x X t0 t1 R w) : Fn PR X 203 #[t0, t1] w R := C7 (args := [t0, t1]) mixed Tryz.func203 (by kernel_rfl) h
theorem A9q {X : Nat → Prop} {t0 t1 : Value} {K : Value → WP} {w : World} (h : Fn PR X 203 #[t0, t1] w K) : A1a PR X 203 [t0, t1] K w := ⟨A8w, h⟩
end Go.Proofs.YtggakcpabomliaaGreat
namespace Go.Proofs.YtggakcpabomliaaGreat
open Go
theorem A9b : TI PR 101 Tryz.t100.desc 7 72 (.agg #[(.int .i64 0), (.string (ByteArray.mk #[])), (.string (ByteArray.mk #[])), (.int .i64 0), (.int .i64 0), (.int .i64 0), (.int .i64 0)]) := ⟨Tryz.underlying101, Tryz.t101, by kernel_rfl, rfl, rfl, rfl⟩
theorem A4k : TI PR 103 Tryz.t102.desc 2 16 (.agg #[(.int .i64 0), (.int .i64 0)]) := ⟨Tryz.underlying103, Tryz.t103, by kernel_rfl, rfl, rfl, rfl⟩
theorem B8q : TI PR 117 Tryz.t117.desc 4 32 (.agg #[.nilFunc, .nilFunc, .nilFunc, .nilFunc]) := ⟨Tryz.underlying117, Tryz.t117, by kernel_rfl, rfl, rfl, rfl⟩
theorem A7g : TI PR 119 Tryz.t118.desc 4 40 (.agg #[(.string (ByteArray.mk #[])), (.int .i64 0), (.bool false), (.int .i64 0)]) := ⟨Tryz.underlying119, Tryz.t119, by kernel_rfl, rfl, rfl, rfl⟩
theorem B8V : TI PR 136 Tryz.t50.desc 1 24 (.slice none 0 0) := ⟨Tryz.underlying136, Tryz.t136, by kernel_rfl, rfl, rfl, rfl⟩
theorem C6x : TI PR 152 Tryz.t152.desc 1 8 .nilFunc := ⟨Tryz.underlying152, Tryz.t152, by kernel_rfl, rfl, rfl, rfl⟩
theorem A67 : TI PR 161 Tryz.t160.desc 3 24 (.agg #[(.int .i64 0), (.int .i64 0), (.int .i64 0)]) := ⟨Tryz.underlying161, Tryz.t161, by kernel_rfl, rfl, rfl, rfl⟩
theorem A9L : TI PR 164 Tryz.t163.desc 3 40 (.agg #[(.string (ByteArray.mk #[])), (.string (ByteArray.mk #[])), (.int .i64 0)]) := ⟨Tryz.underlying164, Tryz.t164, by kernel_rfl, rfl, rfl, rfl⟩
theorem A9V : TI PR 166 Tryz.t163.desc 3 40 (.agg #[(.string (ByteArray.mk #[])), (.string (ByteArray.mk #[])), (.int .i64 0)]) := ⟨Tryz.underlying166, Tryz.t166, by kernel_rfl, rfl, rfl, rfl⟩
theorem C60 : TI PR 178 Tryz.t178.desc 1 8 .nilFunc := ⟨Tryz.underlying178, Tryz.t178, by kernel_rfl, rfl, rfl, rfl⟩
theorem A69 : TI PR 193 Tryz.t192.desc 2 16 (.agg #[(.int .u64 0), (.int .i64 0)]) := ⟨Tryz.underlying193, Tryz.t193, by kernel_rfl, rfl, rfl, rfl⟩
theorem C7D : TI PR 200 Tryz.t200.desc 1 8 .nilFunc := ⟨Tryz.underlying200, Tryz.t200, by kernel_rfl, rfl, rfl, rfl⟩
theorem C29 : TI PR 202 Tryz.t68.desc 1 8 (.int .u64 0) := ⟨Tryz.underlying202, Tryz.t202, by kernel_rfl, rfl, rfl, rfl⟩
theorem A3B : TI PR 218 Tryz.t218.desc 1 24 (.slice none 0 0) := ⟨Tryz.underlying218, Tryz.t218, by kernel_rfl, rfl, rfl, rfl⟩
theorem A9M : TI PR 220 Tryz.t219.desc 2 32 (.agg #[(.pointer none), (.slice none 0 0)]) := ⟨Tryz.underlying220, Tryz.t220, by kernel_rfl, rfl, rfl, rfl⟩
theorem C3D : TI PR 222 Tryz.t221.desc 2 32 (.agg #[(.pointer none), (.slice none 0 0)]) := ⟨Tryz.underlying222, Tryz.t222, by kernel_rfl, rfl, rfl, rfl⟩
theorem A2m : TI PR 23 Tryz.t22.desc 5 40 (.agg #[(.int .i64 0), (.int .i64 0), (.int .i64 0), (.int .i64 0), (.int .i64 0)]) := ⟨Tryz.underlying23, Tryz.t23, by kernel_rfl, rfl, rfl, rfl⟩
theorem B8Z : TI PR 237 Tryz.t237.desc 38 38 (.agg #[(.int .u8 0), (.int .u8 0), (.int .u8 0), (.int .u8 0), (.int .u8 0), (.int .u8 0), (.int .u8 0), (.int .u8 0), (.int .u8 0), (.int .u8 0), (.int .u8 0), (.int .u8 0), (.int .u8 0), (.int .u8 0), (.int .u8 0), (.int .u8 0), (.int .u8 0), (.int .u8 0), (.int .u8 0), (.int .u8 0), (.int .u8 0), (.int .u8 0), (.int .u8 0), (.int .u8 0), (.int .u8 0), (.int .u8 0), (.int .u8 0), (.int .u8 0), (.int .u8 0), (.int .u8 0), (.int .u8 0), (.int .u8 0), (.int .u8 0), (.int .u8 0), (.int .u8 0), (.int .u8 0), (.int .u8 0), (.int .u8 0)]) := ⟨Tryz.underlying237, Tryz.t237, by kernel_rfl, rfl, rfl, rfl⟩
theorem A5D : TI PR 240 Tryz.t239.desc 5 64 (.agg #[(.string (ByteArray.mk #[])), (.string (ByteArray.mk #[])), (.string (ByteArray.mk #[])), (.int .i64 0), (.int .i64 0)]) := ⟨Tryz.underlying240, Tryz.t240, by kernel_rfl, rfl, rfl, rfl⟩
theorem A9c : TI PR 242 Tryz.t160.desc 3 24 (.agg #[(.int .i64 0), (.int .i64 0), (.int .i64 0)]) := ⟨Tryz.underlying242, Tryz.t242, by kernel_rfl, rfl, rfl, rfl⟩
theorem A7L : TI PR 28 Tryz.t3.desc 1 8 (.int .i64 0) := ⟨Tryz.underlying28, Tryz.t28, by kernel_rfl, rfl, rfl, rfl⟩
theorem A9S : TI PR 280 Tryz.t163.desc 3 40 (.agg #[(.string (ByteArray.mk #[])), (.string (ByteArray.mk #[])), (.int .i64 0)]) := ⟨Tryz.underlying280, Tryz.t280, by kernel_rfl, rfl, rfl, rfl⟩
theorem A9T : TI PR 283 Tryz.t163.desc 3 40 (.agg #[(.string (ByteArray.mk #[])), (.string (ByteArray.mk #[])), (.int .i64 0)]) := ⟨Tryz.underlying283, Tryz.t283, by kernel_rfl, rfl, rfl, rfl⟩
theorem G3 : TI PR 3 Tryz.t3.desc 1 8 (.int .i64 0) := ⟨Tryz.underlying3, Tryz.t3, by kernel_rfl, rfl, rfl, rfl⟩
theorem A9P : TI PR 300 Tryz.t299.desc 2 16 (.agg #[.nilFunc, (.int .i64 0)]) := ⟨Tryz.underlying300, Tryz.t300, by kernel_rfl, rfl, rfl, rfl⟩
theorem B3D : TI PR 36 Tryz.t35.desc 8 112 (.agg #[(.int .i64 0), (.int .i64 0), (.int .i64 0), (.int .i64 0), (.int .i64 0), (.slice none 0 0), (.slice none 0 0), (.slice none 0 0)]) := ⟨Tryz.underlying36, Tryz.t36, by kernel_rfl, rfl, rfl, rfl⟩
theorem A59 : TI PR 39 Tryz.t38.desc 4 32 (.agg #[(.int .i64 0), (.int .i64 0), (.bool false), (.int .i64 0)]) := ⟨Tryz.underlying39, Tryz.t39, by kernel_rfl, rfl, rfl, rfl⟩
theorem ty4 : TI PR 4 Tryz.t4.desc 1 1 (.bool false) := ⟨Tryz.underlying4, Tryz.t4, by kernel_rfl, rfl, rfl, rfl⟩
theorem A8W : TI PR 50 Tryz.t50.desc 1 24 (.slice none 0 0) := ⟨Tryz.underlying50, Tryz.t50, by kernel_rfl, rfl, rfl, rfl⟩
theorem C2f : TI PR 57 Tryz.t57.desc 1 24 (.slice none 0 0) := ⟨Tryz.underlying57, Tryz.t57, by kernel_rfl, rfl, rfl, rfl⟩
theorem A84 : TI PR 68 Tryz.t68.desc 1 8 (.int .u64 0) := ⟨Tryz.underlying68, Tryz.t68, by kernel_rfl, rfl, rfl, rfl⟩
theorem A2q : TI PR 71 Tryz.t70.desc 4 40 (.agg #[(.int .i64 0), (.string (ByteArray.mk #[])), (.int .i64 0), (.int .i64 0)]) := ⟨Tryz.underlying71, Tryz.t71, by kernel_rfl, rfl, rfl, rfl⟩
theorem A3w : TI PR 99 Tryz.t98.desc 6 64 (.agg #[(.int .i64 0), (.string (ByteArray.mk #[])), (.string (ByteArray.mk #[])), (.int .i64 0), (.int .i64 0), (.int .i64 0)]) := ⟨Tryz.underlying99, Tryz.t99, by kernel_rfl, rfl, rfl, rfl⟩
theorem B8J : TI PR 104 Tryz.t104.desc 1 24 (.slice none 0 0) := ⟨Tryz.underlying104, Tryz.t104, by kernel_rfl, rfl, rfl, rfl⟩
theorem A2B : TI PR 42 Tryz.t41.desc 4 56 (.agg #[(.int .i64 0), (.string (ByteArray.mk #[])), (.slice none 0 0), (.int .i64 0)]) := ⟨Tryz.underlying42, Tryz.t42, by kernel_rfl, rfl, rfl, rfl⟩
theorem B2E : TI PR 107 Tryz.t107.desc 1 24 (.slice none 0 0) := ⟨Tryz.underlying107, Tryz.t107, by kernel_rfl, rfl, rfl, rfl⟩
theorem B4e : TI PR 113 Tryz.t112.desc 2 32 (.agg #[(.slice none 0 0), (.int .i64 0)]) := ⟨Tryz.underlying113, Tryz.t113, by kernel_rfl, rfl, rfl, rfl⟩
theorem B1q : TI PR 146 Tryz.t146.desc 1 24 (.slice none 0 0) := ⟨Tryz.underlying146, Tryz.t146, by kernel_rfl, rfl, rfl, rfl⟩
theorem A29 : TI PR 199 Tryz.t192.desc 2 16 (.agg #[(.int .u64 0), (.int .i64 0)]) := ⟨Tryz.underlying199, Tryz.t199, by kernel_rfl, rfl, rfl, rfl⟩
theorem B4d : TI PR 190 Tryz.t190.desc 1 24 (.slice none 0 0) := ⟨Tryz.underlying190, Tryz.t190, by kernel_rfl, rfl, rfl, rfl⟩
theorem A8M : TI PR 32 Tryz.t32.desc 1 24 (.slice none 0 0) := ⟨Tryz.underlying32, Tryz.t32, by kernel_rfl, rfl, rfl, rfl⟩
theorem B51 : TI PR 33 Tryz.t33.desc 1 24 (.slice none 0 0) := ⟨Tryz.underlying33, Tryz.t33, by kernel_rfl, rfl, rfl, rfl⟩
theorem B2U : TI PR 34 Tryz.t34.desc 1 24 (.slice none 0 0) := ⟨Tryz.underlying34, Tryz.t34, by kernel_rfl, rfl, rfl, rfl⟩
theorem a6 : TI PR 9 Tryz.t9.desc 1 16 (.string (ByteArray.mk #[])) := ⟨Tryz.underlying9, Tryz.t9, by kernel_rfl, rfl, rfl, rfl⟩
@[simp] theorem C7w  (K : Value → WP) : A2 PR (Instr.build 101 #[]) K = K (.agg #[(.int .i64 0), (.string (ByteArray.mk #[])), (.string (ByteArray.mk #[])), (.int .i64 0), (.int .i64 0), (.int .i64 0), (.int .i64 0)]) := F1 (pl := #[(0, 6), (6, 1)]) A9b (fun w => by kernel_rfl) rfl
@[simp] theorem C5j {v0 v1 : Value} (h0 : v0.cells.size = 6) (h1 : v1.cells.size = 1) (K : Value → WP) : A2 PR (Instr.build 101 #[(0, v0), (1, v1)]) K = K (.agg (E7 (E7 #[(.int .i64 0), (.string (ByteArray.mk #[])), (.string (ByteArray.mk #[])), (.int .i64 0), (.int .i64 0), (.int .i64 0), (.int .i64 0)] 0 v0.cells.toList) 6 v1.cells.toList)) := F1 (pl := #[(0, 6), (6, 1)]) A9b (fun w => by kernel_rfl) (by rw [B3 rfl h0 (by simp [B9]), B3 rfl h1 (by simp [B9])]; rfl)
@[simp] theorem C57 {v0 : Value} (h0 : v0.cells.size = 6) (K : Value → WP) : A2 PR (Instr.build 101 #[(0, v0)]) K = K (.agg (E7 #[(.int .i64 0), (.string (ByteArray.mk #[])), (.string (ByteArray.mk #[])), (.int .i64 0), (.int .i64 0), (.int .i64 0), (.int .i64 0)] 0 v0.cells.toList)) := F1 (pl := #[(0, 6), (6, 1)]) A9b (fun w => by kernel_rfl) (by rw [B3 rfl h0 (by simp [B9])]; rfl)
@[simp] theorem C48 {v0 v1 : Value} (h0 : v0.cells.size = 1) (h1 : v1.cells.size = 1) (K : Value → WP) : A2 PR (Instr.build 103 #[(0, v0), (1, v1)]) K = K (.agg (E7 (E7 #[(.int .i64 0), (.int .i64 0)] 0 v0.cells.toList) 1 v1.cells.toList)) := F1 (pl := #[(0, 1), (1, 1)]) A4k (fun w => by kernel_rfl) (by rw [B3 rfl h0 (by simp [B9]), B3 rfl h1 (by simp [B9])]; rfl)
theorem B4b : TI PR 109 Tryz.t108.desc 7 88 (.agg #[(.int .i64 0), (.int .i64 0), (.int .i64 0), (.int .i64 0), (.int .i64 0), (.slice none 0 0), (.slice none 0 0)]) := ⟨Tryz.underlying109, Tryz.t109, by kernel_rfl, rfl, rfl, rfl⟩
@[simp] theorem C4v {v0 v1 : Value} (h0 : v0.cells.size = 5) (h1 : v1.cells.size = 1) (K : Value → WP) : A2 PR (Instr.build 109 #[(0, v0), (2, v1)]) K = K (.agg (E7 (E7 #[(.int .i64 0), (.int .i64 0), (.int .i64 0), (.int .i64 0), (.int .i64 0), (.slice none 0 0), (.slice none 0 0)] 0 v0.cells.toList) 6 v1.cells.toList)) := F1 (pl := #[(0, 5), (5, 1), (6, 1)]) B4b (fun w => by kernel_rfl) (by rw [B3 rfl h0 (by simp [B9]), B3 rfl h1 (by simp [B9])]; rfl)
@[simp] theorem C4A {v0 v1 v2 : Value} (h0 : v0.cells.size = 1) (h1 : v1.cells.size = 1) (h2 : v2.cells.size = 1) (K : Value → WP) : A2 PR (Instr.build 119 #[(0, v0), (1, v1), (2, v2)]) K = K (.agg (E7 (E7 (E7 #[(.string (ByteArray.mk #[])), (.int .i64 0), (.bool false), (.int .i64 0)] 0 v0.cells.toList) 1 v1.cells.toList) 2 v2.cells.toList)) := F1 (pl := #[(0, 1), (1, 1), (2, 1), (3, 1)]) A7g (fun w => by kernel_rfl) (by rw [B3 rfl h0 (by simp [B9]), B3 rfl h1 (by simp [B9]), B3 rfl h2 (by simp [B9])]; rfl)
@[simp] theorem C6M {v0 : Value} (h0 : v0.cells.size = 1) (K : Value → WP) : A2 PR (Instr.build 119 #[(3, v0)]) K = K (.agg (E7 #[(.string (ByteArray.mk #[])), (.int .i64 0), (.bool false), (.int .i64 0)] 3 v0.cells.toList)) := F1 (pl := #[(0, 1), (1, 1), (2, 1), (3, 1)]) A7g (fun w => by kernel_rfl) (by rw [B3 rfl h0 (by simp [B9])]; rfl)
theorem B1E : TI PR 140 Tryz.t140.desc 2 16 (.agg #[(.int .i64 0), (.int .i64 0)]) := ⟨Tryz.underlying140, Tryz.t140, by kernel_rfl, rfl, rfl, rfl⟩
@[simp] theorem C9U  (K : Value → WP) : A2 PR (Instr.build 161 #[]) K = K (.agg #[(.int .i64 0), (.int .i64 0), (.int .i64 0)]) := F1 (pl := #[(0, 1), (1, 1), (2, 1)]) A67 (fun w => by kernel_rfl) rfl
@[simp] theorem C5P {v0 v1 : Value} (h0 : v0.cells.size = 1) (h1 : v1.cells.size = 1) (K : Value → WP) : A2 PR (Instr.build 161 #[(0, v0), (1, v1)]) K = K (.agg (E7 (E7 #[(.int .i64 0), (.int .i64 0), (.int .i64 0)] 0 v0.cells.toList) 1 v1.cells.toList)) := F1 (pl := #[(0, 1), (1, 1), (2, 1)]) A67 (fun w => by kernel_rfl) (by rw [B3 rfl h0 (by simp [B9]), B3 rfl h1 (by simp [B9])]; rfl)
@[simp] theorem C4D {v0 v1 v2 : Value} (h0 : v0.cells.size = 1) (h1 : v1.cells.size = 1) (h2 : v2.cells.size = 1) (K : Value → WP) : A2 PR (Instr.build 161 #[(0, v0), (1, v1), (2, v2)]) K = K (.agg (E7 (E7 (E7 #[(.int .i64 0), (.int .i64 0), (.int .i64 0)] 0 v0.cells.toList) 1 v1.cells.toList) 2 v2.cells.toList)) := F1 (pl := #[(0, 1), (1, 1), (2, 1)]) A67 (fun w => by kernel_rfl) (by rw [B3 rfl h0 (by simp [B9]), B3 rfl h1 (by simp [B9]), B3 rfl h2 (by simp [B9])]; rfl)
@[simp] theorem C9S  (K : Value → WP) : A2 PR (Instr.build 164 #[]) K = K (.agg #[(.string (ByteArray.mk #[])), (.string (ByteArray.mk #[])), (.int .i64 0)]) := F1 (pl := #[(0, 1), (1, 1), (2, 1)]) A9L (fun w => by kernel_rfl) rfl
@[simp] theorem C3u {v0 v1 v2 : Value} (h0 : v0.cells.size = 1) (h1 : v1.cells.size = 1) (h2 : v2.cells.size = 1) (K : Value → WP) : A2 PR (Instr.build 164 #[(0, v0), (1, v1), (2, v2)]) K = K (.agg (E7 (E7 (E7 #[(.string (ByteArray.mk #[])), (.string (ByteArray.mk #[])), (.int .i64 0)] 0 v0.cells.toList) 1 v1.cells.toList) 2 v2.cells.toList)) := F1 (pl := #[(0, 1), (1, 1), (2, 1)]) A9L (fun w => by kernel_rfl) (by rw [B3 rfl h0 (by simp [B9]), B3 rfl h1 (by simp [B9]), B3 rfl h2 (by simp [B9])]; rfl)
@[simp] theorem C80  (K : Value → WP) : A2 PR (Instr.build 166 #[]) K = K (.agg #[(.string (ByteArray.mk #[])), (.string (ByteArray.mk #[])), (.int .i64 0)]) := F1 (pl := #[(0, 1), (1, 1), (2, 1)]) A9V (fun w => by kernel_rfl) rfl
@[simp] theorem C4U {v0 v1 v2 : Value} (h0 : v0.cells.size = 1) (h1 : v1.cells.size = 1) (h2 : v2.cells.size = 1) (K : Value → WP) : A2 PR (Instr.build 166 #[(0, v0), (1, v1), (2, v2)]) K = K (.agg (E7 (E7 (E7 #[(.string (ByteArray.mk #[])), (.string (ByteArray.mk #[])), (.int .i64 0)] 0 v0.cells.toList) 1 v1.cells.toList) 2 v2.cells.toList)) := F1 (pl := #[(0, 1), (1, 1), (2, 1)]) A9V (fun w => by kernel_rfl) (by rw [B3 rfl h0 (by simp [B9]), B3 rfl h1 (by simp [B9]), B3 rfl h2 (by simp [B9])]; rfl)
@[simp] theorem C5V {v0 v1 : Value} (h0 : v0.cells.size = 1) (h1 : v1.cells.size = 1) (K : Value → WP) : A2 PR (Instr.build 193 #[(0, v0), (1, v1)]) K = K (.agg (E7 (E7 #[(.int .u64 0), (.int .i64 0)] 0 v0.cells.toList) 1 v1.cells.toList)) := F1 (pl := #[(0, 1), (1, 1)]) A69 (fun w => by kernel_rfl) (by rw [B3 rfl h0 (by simp [B9]), B3 rfl h1 (by simp [B9])]; rfl)
@[simp] theorem C4x {v0 v1 : Value} (h0 : v0.cells.size = 1) (h1 : v1.cells.size = 1) (K : Value → WP) : A2 PR (Instr.build 199 #[(0, v0), (1, v1)]) K = K (.agg (E7 (E7 #[(.int .u64 0), (.int .i64 0)] 0 v0.cells.toList) 1 v1.cells.toList)) := F1 (pl := #[(0, 1), (1, 1)]) A29 (fun w => by kernel_rfl) (by rw [B3 rfl h0 (by simp [B9]), B3 rfl h1 (by simp [B9])]; rfl)
@[simp] theorem C91  (K : Value → WP) : A2 PR (Instr.build 23 #[]) K = K (.agg #[(.int .i64 0), (.int .i64 0), (.int .i64 0), (.int .i64 0), (.int .i64 0)]) := F1 (pl := #[(0, 1), (1, 1), (2, 1), (3, 1), (4, 1)]) A2m (fun w => by kernel_rfl) rfl
@[simp] theorem C1K {v0 v1 v2 v3 v4 : Value} (h0 : v0.cells.size = 1) (h1 : v1.cells.size = 1) (h2 : v2.cells.size = 1) (h3 : v3.cells.size = 1) (h4 : v4.cells.size = 1) (K : Value → WP) : A2 PR (Instr.build 23 #[(0, v0), (1, v1), (2, v2), (3, v3), (4, v4)]) K = K (.agg (E7 (E7 (E7 (E7 (E7 #[(.int .i64 0), (.int .i64 0), (.int .i64 0), (.int .i64 0), (.int .i64 0)] 0 v0.cells.toList) 1 v1.cells.toList) 2 v2.cells.toList) 3 v3.cells.toList) 4 v4.cells.toList)) := F1 (pl := #[(0, 1), (1, 1), (2, 1), (3, 1), (4, 1)]) A2m (fun w => by kernel_rfl) (by rw [B3 rfl h0 (by simp [B9]), B3 rfl h1 (by simp [B9]), B3 rfl h2 (by simp [B9]), B3 rfl h3 (by simp [B9]), B3 rfl h4 (by simp [B9])]; rfl)
@[simp] theorem B9J {v0 v1 v2 v3 v4 : Value} (h0 : v0.cells.size = 1) (h1 : v1.cells.size = 1) (h2 : v2.cells.size = 1) (h3 : v3.cells.size = 1) (h4 : v4.cells.size = 1) (K : Value → WP) : A2 PR (Instr.build 240 #[(0, v0), (1, v1), (2, v2), (3, v3), (4, v4)]) K = K (.agg (E7 (E7 (E7 (E7 (E7 #[(.string (ByteArray.mk #[])), (.string (ByteArray.mk #[])), (.string (ByteArray.mk #[])), (.int .i64 0), (.int .i64 0)] 0 v0.cells.toList) 1 v1.cells.toList) 2 v2.cells.toList) 3 v3.cells.toList) 4 v4.cells.toList)) := F1 (pl := #[(0, 1), (1, 1), (2, 1), (3, 1), (4, 1)]) A5D (fun w => by kernel_rfl) (by rw [B3 rfl h0 (by simp [B9]), B3 rfl h1 (by simp [B9]), B3 rfl h2 (by simp [B9]), B3 rfl h3 (by simp [B9]), B3 rfl h4 (by simp [B9])]; rfl)
@[simp] theorem C66 {v0 : Value} (h0 : v0.cells.size = 1) (K : Value → WP) : A2 PR (Instr.build 240 #[(4, v0)]) K = K (.agg (E7 #[(.string (ByteArray.mk #[])), (.string (ByteArray.mk #[])), (.string (ByteArray.mk #[])), (.int .i64 0), (.int .i64 0)] 4 v0.cells.toList)) := F1 (pl := #[(0, 1), (1, 1), (2, 1), (3, 1), (4, 1)]) A5D (fun w => by kernel_rfl) (by rw [B3 rfl h0 (by simp [B9])]; rfl)
@[simp] theorem C8V  (K : Value → WP) : A2 PR (Instr.build 242 #[]) K = K (.agg #[(.int .i64 0), (.int .i64 0), (.int .i64 0)]) := F1 (pl := #[(0, 1), (1, 1), (2, 1)]) A9c (fun w => by kernel_rfl) rfl
@[simp] theorem C47 {v0 v1 : Value} (h0 : v0.cells.size = 1) (h1 : v1.cells.size = 1) (K : Value → WP) : A2 PR (Instr.build 242 #[(0, v0), (1, v1)]) K = K (.agg (E7 (E7 #[(.int .i64 0), (.int .i64 0), (.int .i64 0)] 0 v0.cells.toList) 1 v1.cells.toList)) := F1 (pl := #[(0, 1), (1, 1), (2, 1)]) A9c (fun w => by kernel_rfl) (by rw [B3 rfl h0 (by simp [B9]), B3 rfl h1 (by simp [B9])]; rfl)
theorem C3E : TI PR 263 Tryz.t262.desc 0 0 (.agg #[]) := ⟨Tryz.underlying263, Tryz.t263, by kernel_rfl, rfl, rfl, rfl⟩
@[simp] theorem C8S  (K : Value → WP) : A2 PR (Instr.build 263 #[]) K = K (.agg #[]) := F1 (pl := #[]) C3E (fun w => by kernel_rfl) rfl
theorem C3Q : TI PR 264 Tryz.t262.desc 0 0 (.agg #[]) := ⟨Tryz.underlying264, Tryz.t264, by kernel_rfl, rfl, rfl, rfl⟩
@[simp] theorem C85  (K : Value → WP) : A2 PR (Instr.build 264 #[]) K = K (.agg #[]) := F1 (pl := #[]) C3Q (fun w => by kernel_rfl) rfl
@[simp] theorem C77  (K : Value → WP) : A2 PR (Instr.build 280 #[]) K = K (.agg #[(.string (ByteArray.mk #[])), (.string (ByteArray.mk #[])), (.int .i64 0)]) := F1 (pl := #[(0, 1), (1, 1), (2, 1)]) A9S (fun w => by kernel_rfl) rfl
@[simp] theorem C35 {v0 v1 v2 : Value} (h0 : v0.cells.size = 1) (h1 : v1.cells.size = 1) (h2 : v2.cells.size = 1) (K : Value → WP) : A2 PR (Instr.build 280 #[(0, v0), (1, v1), (2, v2)]) K = K (.agg (E7 (E7 (E7 #[(.string (ByteArray.mk #[])), (.string (ByteArray.mk #[])), (.int .i64 0)] 0 v0.cells.toList) 1 v1.cells.toList) 2 v2.cells.toList)) := F1 (pl := #[(0, 1), (1, 1), (2, 1)]) A9S (fun w => by kernel_rfl) (by rw [B3 rfl h0 (by simp [B9]), B3 rfl h1 (by simp [B9]), B3 rfl h2 (by simp [B9])]; rfl)
@[simp] theorem C8F  (K : Value → WP) : A2 PR (Instr.build 283 #[]) K = K (.agg #[(.string (ByteArray.mk #[])), (.string (ByteArray.mk #[])), (.int .i64 0)]) := F1 (pl := #[(0, 1), (1, 1), (2, 1)]) A9T (fun w => by kernel_rfl) rfl
@[simp] theorem C33 {v0 v1 v2 : Value} (h0 : v0.cells.size = 1) (h1 : v1.cells.size = 1) (h2 : v2.cells.size = 1) (K : Value → WP) : A2 PR (Instr.build 283 #[(0, v0), (1, v1), (2, v2)]) K = K (.agg (E7 (E7 (E7 #[(.string (ByteArray.mk #[])), (.string (ByteArray.mk #[])), (.int .i64 0)] 0 v0.cells.toList) 1 v1.cells.toList) 2 v2.cells.toList)) := F1 (pl := #[(0, 1), (1, 1), (2, 1)]) A9T (fun w => by kernel_rfl) (by rw [B3 rfl h0 (by simp [B9]), B3 rfl h1 (by simp [B9]), B3 rfl h2 (by simp [B9])]; rfl)
@[simp] theorem C5c {v0 v1 : Value} (h0 : v0.cells.size = 1) (h1 : v1.cells.size = 1) (K : Value → WP) : A2 PR (Instr.build 300 #[(0, v0), (1, v1)]) K = K (.agg (E7 (E7 #[.nilFunc, (.int .i64 0)] 0 v0.cells.toList) 1 v1.cells.toList)) := F1 (pl := #[(0, 1), (1, 1)]) A9P (fun w => by kernel_rfl) (by rw [B3 rfl h0 (by simp [B9]), B3 rfl h1 (by simp [B9])]; rfl)
@[simp] theorem C5z {v0 v1 : Value} (h0 : v0.cells.size = 5) (h1 : v1.cells.size = 1) (K : Value → WP) : A2 PR (Instr.build 36 #[(0, v0), (3, v1)]) K = K (.agg (E7 (E7 #[(.int .i64 0), (.int .i64 0), (.int .i64 0), (.int .i64 0), (.int .i64 0), (.slice none 0 0), (.slice none 0 0), (.slice none 0 0)] 0 v0.cells.toList) 7 v1.cells.toList)) := F1 (pl := #[(0, 5), (5, 1), (6, 1), (7, 1)]) B3D (fun w => by kernel_rfl) (by rw [B3 rfl h0 (by simp [B9]), B3 rfl h1 (by simp [B9])]; rfl)
@[simp] theorem C9v  (K : Value → WP) : A2 PR (Instr.build 39 #[]) K = K (.agg #[(.int .i64 0), (.int .i64 0), (.bool false), (.int .i64 0)]) := F1 (pl := #[(0, 1), (1, 1), (2, 1), (3, 1)]) A59 (fun w => by kernel_rfl) rfl
@[simp] theorem C86 {v0 : Value} (h0 : v0.cells.size = 1) (K : Value → WP) : A2 PR (Instr.build 39 #[(0, v0)]) K = K (.agg (E7 #[(.int .i64 0), (.int .i64 0), (.bool false), (.int .i64 0)] 0 v0.cells.toList)) := F1 (pl := #[(0, 1), (1, 1), (2, 1), (3, 1)]) A59 (fun w => by kernel_rfl) (by rw [B3 rfl h0 (by simp [B9])]; rfl)
@[simp] theorem C51 {v0 v1 : Value} (h0 : v0.cells.size = 1) (h1 : v1.cells.size = 1) (K : Value → WP) : A2 PR (Instr.build 39 #[(1, v0), (2, v1)]) K = K (.agg (E7 (E7 #[(.int .i64 0), (.int .i64 0), (.bool false), (.int .i64 0)] 1 v0.cells.toList) 2 v1.cells.toList)) := F1 (pl := #[(0, 1), (1, 1), (2, 1), (3, 1)]) A59 (fun w => by kernel_rfl) (by rw [B3 rfl h0 (by simp [B9]), B3 rfl h1 (by simp [B9])]; rfl)
@[simp] theorem C8k {v0 : Value} (h0 : v0.cells.size = 1) (K : Value → WP) : A2 PR (Instr.build 39 #[(1, v0)]) K = K (.agg (E7 #[(.int .i64 0), (.int .i64 0), (.bool false), (.int .i64 0)] 1 v0.cells.toList)) := F1 (pl := #[(0, 1), (1, 1), (2, 1), (3, 1)]) A59 (fun w => by kernel_rfl) (by rw [B3 rfl h0 (by simp [B9])]; rfl)
@[simp] theorem C8e {v0 : Value} (h0 : v0.cells.size = 1) (K : Value → WP) : A2 PR (Instr.build 39 #[(3, v0)]) K = K (.agg (E7 #[(.int .i64 0), (.int .i64 0), (.bool false), (.int .i64 0)] 3 v0.cells.toList)) := F1 (pl := #[(0, 1), (1, 1), (2, 1), (3, 1)]) A59 (fun w => by kernel_rfl) (by rw [B3 rfl h0 (by simp [B9])]; rfl)
@[simp] theorem C97  (K : Value → WP) : A2 PR (Instr.build 42 #[]) K = K (.agg #[(.int .i64 0), (.string (ByteArray.mk #[])), (.slice none 0 0), (.int .i64 0)]) := F1 (pl := #[(0, 1), (1, 1), (2, 1), (3, 1)]) A2B (fun w => by kernel_rfl) rfl
@[simp] theorem C5x {v0 v1 : Value} (h0 : v0.cells.size = 1) (h1 : v1.cells.size = 1) (K : Value → WP) : A2 PR (Instr.build 42 #[(0, v0), (2, v1)]) K = K (.agg (E7 (E7 #[(.int .i64 0), (.string (ByteArray.mk #[])), (.slice none 0 0), (.int .i64 0)] 0 v0.cells.toList) 2 v1.cells.toList)) := F1 (pl := #[(0, 1), (1, 1), (2, 1), (3, 1)]) A2B (fun w => by kernel_rfl) (by rw [B3 rfl h0 (by simp [B9]), B3 rfl h1 (by simp [B9])]; rfl)
@[simp] theorem C9W {v0 : Value} (h0 : v0.cells.size = 1) (K : Value → WP) : A2 PR (Instr.build 42 #[(0, v0)]) K = K (.agg (E7 #[(.int .i64 0), (.string (ByteArray.mk #[])), (.slice none 0 0), (.int .i64 0)] 0 v0.cells.toList)) := F1 (pl := #[(0, 1), (1, 1), (2, 1), (3, 1)]) A2B (fun w => by kernel_rfl) (by rw [B3 rfl h0 (by simp [B9])]; rfl)
@[simp] theorem C87 {v0 : Value} (h0 : v0.cells.size = 1) (K : Value → WP) : A2 PR (Instr.build 42 #[(1, v0)]) K = K (.agg (E7 #[(.int .i64 0), (.string (ByteArray.mk #[])), (.slice none 0 0), (.int .i64 0)] 1 v0.cells.toList)) := F1 (pl := #[(0, 1), (1, 1), (2, 1), (3, 1)]) A2B (fun w => by kernel_rfl) (by rw [B3 rfl h0 (by simp [B9])]; rfl)
@[simp] theorem C3L {v0 v1 v2 v3 : Value} (h0 : v0.cells.size = 1) (h1 : v1.cells.size = 1) (h2 : v2.cells.size = 1) (h3 : v3.cells.size = 1) (K : Value → WP) : A2 PR (Instr.build 71 #[(0, v0), (1, v1), (2, v2), (3, v3)]) K = K (.agg (E7 (E7 (E7 (E7 #[(.int .i64 0), (.string (ByteArray.mk #[])), (.int .i64 0), (.int .i64 0)] 0 v0.cells.toList) 1 v1.cells.toList) 2 v2.cells.toList) 3 v3.cells.toList)) := F1 (pl := #[(0, 1), (1, 1), (2, 1), (3, 1)]) A2q (fun w => by kernel_rfl) (by rw [B3 rfl h0 (by simp [B9]), B3 rfl h1 (by simp [B9]), B3 rfl h2 (by simp [B9]), B3 rfl h3 (by simp [B9])]; rfl)
@[simp] theorem C82 {v0 : Value} (h0 : v0.cells.size = 1) (K : Value → WP) : A2 PR (Instr.build 71 #[(0, v0)]) K = K (.agg (E7 #[(.int .i64 0), (.string (ByteArray.mk #[])), (.int .i64 0), (.int .i64 0)] 0 v0.cells.toList)) := F1 (pl := #[(0, 1), (1, 1), (2, 1), (3, 1)]) A2q (fun w => by kernel_rfl) (by rw [B3 rfl h0 (by simp [B9])]; rfl)
@[simp] theorem C9w  (K : Value → WP) : A2 PR (Instr.build 99 #[]) K = K (.agg #[(.int .i64 0), (.string (ByteArray.mk #[])), (.string (ByteArray.mk #[])), (.int .i64 0), (.int .i64 0), (.int .i64 0)]) := F1 (pl := #[(0, 1), (1, 1), (2, 1), (3, 1), (4, 1), (5, 1)]) A3w (fun w => by kernel_rfl) rfl
@[simp] theorem B89 {v0 v1 v2 v3 v4 v5 : Value} (h0 : v0.cells.size = 1) (h1 : v1.cells.size = 1) (h2 : v2.cells.size = 1) (h3 : v3.cells.size = 1) (h4 : v4.cells.size = 1) (h5 : v5.cells.size = 1) (K : Value → WP) : A2 PR (Instr.build 99 #[(0, v0), (1, v1), (2, v2), (3, v3), (4, v4), (5, v5)]) K = K (.agg (E7 (E7 (E7 (E7 (E7 (E7 #[(.int .i64 0), (.string (ByteArray.mk #[])), (.string (ByteArray.mk #[])), (.int .i64 0), (.int .i64 0), (.int .i64 0)] 0 v0.cells.toList) 1 v1.cells.toList) 2 v2.cells.toList) 3 v3.cells.toList) 4 v4.cells.toList) 5 v5.cells.toList)) := F1 (pl := #[(0, 1), (1, 1), (2, 1), (3, 1), (4, 1), (5, 1)]) A3w (fun w => by kernel_rfl) (by rw [B3 rfl h0 (by simp [B9]), B3 rfl h1 (by simp [B9]), B3 rfl h2 (by simp [B9]), B3 rfl h3 (by simp [B9]), B3 rfl h4 (by simp [B9]), B3 rfl h5 (by simp [B9])]; rfl)
@[simp] theorem C3N {v0 v1 v2 v3 : Value} (h0 : v0.cells.size = 1) (h1 : v1.cells.size = 1) (h2 : v2.cells.size = 1) (h3 : v3.cells.size = 1) (K : Value → WP) : A2 PR (Instr.build 99 #[(0, v0), (1, v1), (2, v2), (5, v3)]) K = K (.agg (E7 (E7 (E7 (E7 #[(.int .i64 0), (.string (ByteArray.mk #[])), (.string (ByteArray.mk #[])), (.int .i64 0), (.int .i64 0), (.int .i64 0)] 0 v0.cells.toList) 1 v1.cells.toList) 2 v2.cells.toList) 5 v3.cells.toList)) := F1 (pl := #[(0, 1), (1, 1), (2, 1), (3, 1), (4, 1), (5, 1)]) A3w (fun w => by kernel_rfl) (by rw [B3 rfl h0 (by simp [B9]), B3 rfl h1 (by simp [B9]), B3 rfl h2 (by simp [B9]), B3 rfl h3 (by simp [B9])]; rfl)
theorem B7s : TI PR 185 Tryz.t185.desc 1 24 (.slice none 0 0) := ⟨Tryz.underlying185, Tryz.t185, by kernel_rfl, rfl, rfl, rfl⟩
theorem ty5 : TI PR 5 Tryz.t5.desc 1 1 (.int .u8 0) := ⟨Tryz.underlying5, Tryz.t5, by kernel_rfl, rfl, rfl, rfl⟩
theorem C5g : TI PR 24 Tryz.t24.desc 1 24 (.slice none 0 0) := ⟨Tryz.underlying24, Tryz.t24, by kernel_rfl, rfl, rfl, rfl⟩
theorem B8A : TI PR 44 Tryz.t43.desc 5 64 (.agg #[(.int .i64 0), (.string (ByteArray.mk #[])), (.slice none 0 0), (.int .i64 0), (.int .i64 0)]) := ⟨Tryz.underlying44, Tryz.t44, by kernel_rfl, rfl, rfl, rfl⟩
theorem B8f : TI PR 314 Tryz.t314.desc 1 24 (.slice none 0 0) := ⟨Tryz.underlying314, Tryz.t314, by kernel_rfl, rfl, rfl, rfl⟩
theorem C3H : TI PR 133 Tryz.t133.desc 1 8 (.int .u64 0) := ⟨Tryz.underlying133, Tryz.t133, by kernel_rfl, rfl, rfl, rfl⟩
@[simp] theorem C6n {k : IntKind} (a : Int) (K : Value → WP) : A2 PR (convert 133 3 (.int k a)) K = K (.int .i64 (IntKind.i64.wrap a)) := A2g G3 C3H
theorem B0A {K : Value → WP} {w : World} {b o cap : Nat} {ns : List Int} (hr : M4 w b o (ns.map (Value.int .u8))) : A6 PR (convert 218 9 (.slice (some ⟨b, o, none⟩) ns.length cap)) K w = K (.string (S3 ns)) w := C7c A3B ty5 a6 hr
@[simp] theorem C7d {k : IntKind} (a : Int) (K : Value → WP) : A2 PR (convert 3 133 (.int k a)) K = K (.int .u64 (IntKind.u64.wrap a)) := A2g C3H G3
@[simp] theorem C8Z {k : IntKind} (a : Int) (K : Value → WP) : A2 PR (convert 3 68 (.int k a)) K = K (.int .u64 (IntKind.u64.wrap a)) := A2g A84 G3
@[simp] theorem C6Z {k : IntKind} (a : Int) (K : Value → WP) : A2 PR (convert 5 202 (.int k a)) K = K (.int .u64 (IntKind.u64.wrap a)) := A2g C29 ty5
@[simp] theorem D0F {k : IntKind} (a : Int) (K : Value → WP) : A2 PR (convert 5 3 (.int k a)) K = K (.int .i64 (IntKind.i64.wrap a)) := A2g G3 ty5
@[simp] theorem C8K {k : IntKind} (a : Int) (K : Value → WP) : A2 PR (convert 5 68 (.int k a)) K = K (.int .u64 (IntKind.u64.wrap a)) := A2g A84 ty5
@[simp] theorem C8B {k : IntKind} (a : Int) (K : Value → WP) : A2 PR (convert 68 3 (.int k a)) K = K (.int .i64 (IntKind.i64.wrap a)) := A2g G3 A84
@[simp] theorem C8f {k : IntKind} (a : Int) (K : Value → WP) : A2 PR (convert 68 5 (.int k a)) K = K (.int .u8 (IntKind.u8.wrap a)) := A2g ty5 A84
theorem B4Y : TI PR 217 Tryz.t217.desc 1 8 (.pointer none) := ⟨Tryz.underlying217, Tryz.t217, by kernel_rfl, rfl, rfl, rfl⟩
@[simp] theorem B8M (a : Option Addr) (x y : Operand) (K : Value → WP) (w : World) : A6 PR (N2 .eql 217 x y (.pointer a) (.pointer none)) K w = K (.bool a.isNone) w := B7P B4Y
theorem D0C : TI PR 27 Tryz.t27.desc 1 8 (.pointer none) := ⟨Tryz.underlying27, Tryz.t27, by kernel_rfl, rfl, rfl, rfl⟩
@[simp] theorem B9G (a : Option Addr) (x y : Operand) (K : Value → WP) (w : World) : A6 PR (N2 .eql 27 x y (.pointer a) (.pointer none)) K w = K (.bool a.isNone) w := B7P D0C
@[simp] theorem C1w (a0 b0 : Int) (a1 b1 : Int) (a2 b2 : Bool) (a3 b3 : Int) (x y : Operand) (K : Value → WP) (w : World) : A6 PR (N2 .eql 39 x y (.agg #[.int .i64 a0, .int .i64 a1, .bool a2, .int .i64 a3]) (.agg #[.int .i64 b0, .int .i64 b1, .bool b2, .int .i64 b3])) K w = K (.bool (decide (a0 = b0) && (decide (a1 = b1) && ((a2 == b2) && (decide (a3 = b3) && true))))) w := C7s (by kernel_rfl) (A3E (e := 9999) A59 (by kernel_rfl) (T2 rfl A7L rfl rfl rfl (j0 (e := 9998) A7L) (T2 rfl G3 rfl rfl rfl (j0 (e := 9998) G3) (T2 rfl ty4 rfl rfl rfl (B01 (e := 9998) ty4) (T2 rfl G3 rfl rfl rfl (j0 (e := 9998) G3) (A9W))))))
@[simp] theorem B9u (a0 b0 : Int) (a1 b1 : Int) (x y : Operand) (K : Value → WP) (w : World) : A6 PR (N2 .neq 103 x y (.agg #[.int .i64 a0, .int .i64 a1]) (.agg #[.int .i64 b0, .int .i64 b1])) K w = K (.bool !(decide (a0 = b0) && (decide (a1 = b1) && true))) w := B8e (by kernel_rfl) (A3E (e := 9999) A4k (by kernel_rfl) (T2 rfl G3 rfl rfl rfl (j0 (e := 9998) G3) (T2 rfl G3 rfl rfl rfl (j0 (e := 9998) G3) (A9W))))
@[simp] theorem C1W (a0 b0 : Int) (a1 b1 : Int) (a2 b2 : Bool) (a3 b3 : Int) (x y : Operand) (K : Value → WP) (w : World) : A6 PR (N2 .neq 39 x y (.agg #[.int .i64 a0, .int .i64 a1, .bool a2, .int .i64 a3]) (.agg #[.int .i64 b0, .int .i64 b1, .bool b2, .int .i64 b3])) K w = K (.bool !(decide (a0 = b0) && (decide (a1 = b1) && ((a2 == b2) && (decide (a3 = b3) && true))))) w := B8e (by kernel_rfl) (A3E (e := 9999) A59 (by kernel_rfl) (T2 rfl A7L rfl rfl rfl (j0 (e := 9998) A7L) (T2 rfl G3 rfl rfl rfl (j0 (e := 9998) G3) (T2 rfl ty4 rfl rfl rfl (B01 (e := 9998) ty4) (T2 rfl G3 rfl rfl rfl (j0 (e := 9998) G3) (A9W))))))
@[simp] theorem C2e (a0 b0 : Int) (a1 b1 : ByteArray) (a2 b2 : Int) (a3 b3 : Int) (x y : Operand) (K : Value → WP) (w : World) : A6 PR (N2 .neq 71 x y (.agg #[.int .i64 a0, .string a1, .int .i64 a2, .int .i64 a3]) (.agg #[.int .i64 b0, .string b1, .int .i64 b2, .int .i64 b3])) K w = K (.bool !(decide (a0 = b0) && ((a1 == b1) && (decide (a2 = b2) && (decide (a3 = b3) && true))))) w := B8e (by kernel_rfl) (A3E (e := 9999) A2q (by kernel_rfl) (T2 rfl G3 rfl rfl rfl (j0 (e := 9998) G3) (T2 rfl a6 rfl rfl rfl (B73 (e := 9998) a6) (T2 rfl G3 rfl rfl rfl (j0 (e := 9998) G3) (T2 rfl G3 rfl rfl rfl (j0 (e := 9998) G3) (A9W))))))
theorem C04 {cs : Array Value} {v : Value} (h : cs[0]? = some v) (K : Value → WP) : A2 PR (Instr.field 39 (.agg cs) 0) K = K v := C2p (i := 0) A59 rfl A7L rfl h
@[simp] theorem C63 (b o : Nat) (K : Value → WP) : A2 PR (Instr.fieldAt 101 (.pointer (some ⟨b, o, none⟩)) 0) K = K (.pointer (some ⟨b, o, none⟩)) := B8 (i := 0) A9b rfl ⟨_, _, _, _, A3w⟩ b o
@[simp] theorem C7b (b o : Nat) (K : Value → WP) : A2 PR (Instr.fieldAt 101 (.pointer (some ⟨b, o, none⟩)) 1) K = K (.pointer (some ⟨b, o + 6, none⟩)) := B8 (i := 1) A9b rfl ⟨_, _, _, _, G3⟩ b o
@[simp] theorem C6S (b o : Nat) (K : Value → WP) : A2 PR (Instr.fieldAt 103 (.pointer (some ⟨b, o, none⟩)) 0) K = K (.pointer (some ⟨b, o, none⟩)) := B8 (i := 0) A4k rfl ⟨_, _, _, _, G3⟩ b o
@[simp] theorem C6j (b o : Nat) (K : Value → WP) : A2 PR (Instr.fieldAt 103 (.pointer (some ⟨b, o, none⟩)) 1) K = K (.pointer (some ⟨b, o + 1, none⟩)) := B8 (i := 1) A4k rfl ⟨_, _, _, _, G3⟩ b o
@[simp] theorem C7T (b o : Nat) (K : Value → WP) : A2 PR (Instr.fieldAt 109 (.pointer (some ⟨b, o, none⟩)) 0) K = K (.pointer (some ⟨b, o, none⟩)) := B8 (i := 0) B4b rfl ⟨_, _, _, _, A2m⟩ b o
@[simp] theorem C54 (b o : Nat) (K : Value → WP) : A2 PR (Instr.fieldAt 109 (.pointer (some ⟨b, o, none⟩)) 1) K = K (.pointer (some ⟨b, o + 5, none⟩)) := B8 (i := 1) B4b rfl ⟨_, _, _, _, A8M⟩ b o
@[simp] theorem C7K (b o : Nat) (K : Value → WP) : A2 PR (Instr.fieldAt 109 (.pointer (some ⟨b, o, none⟩)) 2) K = K (.pointer (some ⟨b, o + 6, none⟩)) := B8 (i := 2) B4b rfl ⟨_, _, _, _, B2E⟩ b o
theorem C3V : TI PR 111 Tryz.t110.desc 1 24 (.agg #[(.slice none 0 0)]) := ⟨Tryz.underlying111, Tryz.t111, by kernel_rfl, rfl, rfl, rfl⟩
@[simp] theorem C7G (b o : Nat) (K : Value → WP) : A2 PR (Instr.fieldAt 111 (.pointer (some ⟨b, o, none⟩)) 0) K = K (.pointer (some ⟨b, o, none⟩)) := B8 (i := 0) C3V rfl ⟨_, _, _, _, A8W⟩ b o
@[simp] theorem C6C (b o : Nat) (K : Value → WP) : A2 PR (Instr.fieldAt 113 (.pointer (some ⟨b, o, none⟩)) 0) K = K (.pointer (some ⟨b, o, none⟩)) := B8 (i := 0) B4e rfl ⟨_, _, _, _, C3V⟩ b o
@[simp] theorem C55 (b o : Nat) (K : Value → WP) : A2 PR (Instr.fieldAt 113 (.pointer (some ⟨b, o, none⟩)) 1) K = K (.pointer (some ⟨b, o + 1, none⟩)) := B8 (i := 1) B4e rfl ⟨_, _, _, _, G3⟩ b o
@[simp] theorem C6N (b o : Nat) (K : Value → WP) : A2 PR (Instr.fieldAt 119 (.pointer (some ⟨b, o, none⟩)) 0) K = K (.pointer (some ⟨b, o, none⟩)) := B8 (i := 0) A7g rfl ⟨_, _, _, _, a6⟩ b o
@[simp] theorem C56 (b o : Nat) (K : Value → WP) : A2 PR (Instr.fieldAt 119 (.pointer (some ⟨b, o, none⟩)) 1) K = K (.pointer (some ⟨b, o + 1, none⟩)) := B8 (i := 1) A7g rfl ⟨_, _, _, _, G3⟩ b o
@[simp] theorem C6k (b o : Nat) (K : Value → WP) : A2 PR (Instr.fieldAt 119 (.pointer (some ⟨b, o, none⟩)) 2) K = K (.pointer (some ⟨b, o + 2, none⟩)) := B8 (i := 2) A7g rfl ⟨_, _, _, _, ty4⟩ b o
@[simp] theorem C7F (b o : Nat) (K : Value → WP) : A2 PR (Instr.fieldAt 119 (.pointer (some ⟨b, o, none⟩)) 3) K = K (.pointer (some ⟨b, o + 3, none⟩)) := B8 (i := 3) A7g rfl ⟨_, _, _, _, A7L⟩ b o
@[simp] theorem C7g (b o : Nat) (K : Value → WP) : A2 PR (Instr.fieldAt 161 (.pointer (some ⟨b, o, none⟩)) 0) K = K (.pointer (some ⟨b, o, none⟩)) := B8 (i := 0) A67 rfl ⟨_, _, _, _, G3⟩ b o
@[simp] theorem C7J (b o : Nat) (K : Value → WP) : A2 PR (Instr.fieldAt 161 (.pointer (some ⟨b, o, none⟩)) 1) K = K (.pointer (some ⟨b, o + 1, none⟩)) := B8 (i := 1) A67 rfl ⟨_, _, _, _, G3⟩ b o
@[simp] theorem C61 (b o : Nat) (K : Value → WP) : A2 PR (Instr.fieldAt 161 (.pointer (some ⟨b, o, none⟩)) 2) K = K (.pointer (some ⟨b, o + 2, none⟩)) := B8 (i := 2) A67 rfl ⟨_, _, _, _, G3⟩ b o
@[simp] theorem C7u (b o : Nat) (K : Value → WP) : A2 PR (Instr.fieldAt 164 (.pointer (some ⟨b, o, none⟩)) 0) K = K (.pointer (some ⟨b, o, none⟩)) := B8 (i := 0) A9L rfl ⟨_, _, _, _, a6⟩ b o
@[simp] theorem C7p (b o : Nat) (K : Value → WP) : A2 PR (Instr.fieldAt 164 (.pointer (some ⟨b, o, none⟩)) 1) K = K (.pointer (some ⟨b, o + 1, none⟩)) := B8 (i := 1) A9L rfl ⟨_, _, _, _, a6⟩ b o
@[simp] theorem C6g (b o : Nat) (K : Value → WP) : A2 PR (Instr.fieldAt 164 (.pointer (some ⟨b, o, none⟩)) 2) K = K (.pointer (some ⟨b, o + 2, none⟩)) := B8 (i := 2) A9L rfl ⟨_, _, _, _, G3⟩ b o
@[simp] theorem C7j (b o : Nat) (K : Value → WP) : A2 PR (Instr.fieldAt 166 (.pointer (some ⟨b, o, none⟩)) 0) K = K (.pointer (some ⟨b, o, none⟩)) := B8 (i := 0) A9V rfl ⟨_, _, _, _, a6⟩ b o
@[simp] theorem C7M (b o : Nat) (K : Value → WP) : A2 PR (Instr.fieldAt 166 (.pointer (some ⟨b, o, none⟩)) 1) K = K (.pointer (some ⟨b, o + 1, none⟩)) := B8 (i := 1) A9V rfl ⟨_, _, _, _, a6⟩ b o
@[simp] theorem C7Z (b o : Nat) (K : Value → WP) : A2 PR (Instr.fieldAt 166 (.pointer (some ⟨b, o, none⟩)) 2) K = K (.pointer (some ⟨b, o + 2, none⟩)) := B8 (i := 2) A9V rfl ⟨_, _, _, _, G3⟩ b o
@[simp] theorem C65 (b o : Nat) (K : Value → WP) : A2 PR (Instr.fieldAt 193 (.pointer (some ⟨b, o, none⟩)) 0) K = K (.pointer (some ⟨b, o, none⟩)) := B8 (i := 0) A69 rfl ⟨_, _, _, _, A84⟩ b o
@[simp] theorem C6d (b o : Nat) (K : Value → WP) : A2 PR (Instr.fieldAt 193 (.pointer (some ⟨b, o, none⟩)) 1) K = K (.pointer (some ⟨b, o + 1, none⟩)) := B8 (i := 1) A69 rfl ⟨_, _, _, _, G3⟩ b o
@[simp] theorem C7n (b o : Nat) (K : Value → WP) : A2 PR (Instr.fieldAt 199 (.pointer (some ⟨b, o, none⟩)) 0) K = K (.pointer (some ⟨b, o, none⟩)) := B8 (i := 0) A29 rfl ⟨_, _, _, _, A84⟩ b o
@[simp] theorem C6c (b o : Nat) (K : Value → WP) : A2 PR (Instr.fieldAt 199 (.pointer (some ⟨b, o, none⟩)) 1) K = K (.pointer (some ⟨b, o + 1, none⟩)) := B8 (i := 1) A29 rfl ⟨_, _, _, _, G3⟩ b o
@[simp] theorem C7S (b o : Nat) (K : Value → WP) : A2 PR (Instr.fieldAt 220 (.pointer (some ⟨b, o, none⟩)) 0) K = K (.pointer (some ⟨b, o, none⟩)) := B8 (i := 0) A9M rfl ⟨_, _, _, _, B4Y⟩ b o
@[simp] theorem C6H (b o : Nat) (K : Value → WP) : A2 PR (Instr.fieldAt 220 (.pointer (some ⟨b, o, none⟩)) 1) K = K (.pointer (some ⟨b, o + 1, none⟩)) := B8 (i := 1) A9M rfl ⟨_, _, _, _, A3B⟩ b o
@[simp] theorem C6v (b o : Nat) (K : Value → WP) : A2 PR (Instr.fieldAt 222 (.pointer (some ⟨b, o, none⟩)) 0) K = K (.pointer (some ⟨b, o, none⟩)) := B8 (i := 0) C3D rfl ⟨_, _, _, _, A9M⟩ b o
@[simp] theorem C9V (b o : Nat) (K : Value → WP) : A2 PR (Instr.fieldAt 23 (.pointer (some ⟨b, o, none⟩)) 0) K = K (.pointer (some ⟨b, o, none⟩)) := B8 (i := 0) A2m rfl ⟨_, _, _, _, G3⟩ b o
@[simp] theorem C8c (b o : Nat) (K : Value → WP) : A2 PR (Instr.fieldAt 23 (.pointer (some ⟨b, o, none⟩)) 1) K = K (.pointer (some ⟨b, o + 1, none⟩)) := B8 (i := 1) A2m rfl ⟨_, _, _, _, G3⟩ b o
@[simp] theorem C9C (b o : Nat) (K : Value → WP) : A2 PR (Instr.fieldAt 23 (.pointer (some ⟨b, o, none⟩)) 2) K = K (.pointer (some ⟨b, o + 2, none⟩)) := B8 (i := 2) A2m rfl ⟨_, _, _, _, G3⟩ b o
@[simp] theorem C9J (b o : Nat) (K : Value → WP) : A2 PR (Instr.fieldAt 23 (.pointer (some ⟨b, o, none⟩)) 3) K = K (.pointer (some ⟨b, o + 3, none⟩)) := B8 (i := 3) A2m rfl ⟨_, _, _, _, G3⟩ b o
@[simp] theorem C9G (b o : Nat) (K : Value → WP) : A2 PR (Instr.fieldAt 23 (.pointer (some ⟨b, o, none⟩)) 4) K = K (.pointer (some ⟨b, o + 4, none⟩)) := B8 (i := 4) A2m rfl ⟨_, _, _, _, G3⟩ b o
@[simp] theorem C6r (b o : Nat) (K : Value → WP) : A2 PR (Instr.fieldAt 240 (.pointer (some ⟨b, o, none⟩)) 0) K = K (.pointer (some ⟨b, o, none⟩)) := B8 (i := 0) A5D rfl ⟨_, _, _, _, a6⟩ b o
@[simp] theorem C69 (b o : Nat) (K : Value → WP) : A2 PR (Instr.fieldAt 240 (.pointer (some ⟨b, o, none⟩)) 1) K = K (.pointer (some ⟨b, o + 1, none⟩)) := B8 (i := 1) A5D rfl ⟨_, _, _, _, a6⟩ b o
@[simp] theorem C7H (b o : Nat) (K : Value → WP) : A2 PR (Instr.fieldAt 240 (.pointer (some ⟨b, o, none⟩)) 2) K = K (.pointer (some ⟨b, o + 2, none⟩)) := B8 (i := 2) A5D rfl ⟨_, _, _, _, a6⟩ b o
@[simp] theorem C6L (b o : Nat) (K : Value → WP) : A2 PR (Instr.fieldAt 240 (.pointer (some ⟨b, o, none⟩)) 3) K = K (.pointer (some ⟨b, o + 3, none⟩)) := B8 (i := 3) A5D rfl ⟨_, _, _, _, G3⟩ b o
@[simp] theorem C7C (b o : Nat) (K : Value → WP) : A2 PR (Instr.fieldAt 240 (.pointer (some ⟨b, o, none⟩)) 4) K = K (.pointer (some ⟨b, o + 4, none⟩)) := B8 (i := 4) A5D rfl ⟨_, _, _, _, A7L⟩ b o
@[simp] theorem C7q (b o : Nat) (K : Value → WP) : A2 PR (Instr.fieldAt 242 (.pointer (some ⟨b, o, none⟩)) 0) K = K (.pointer (some ⟨b, o, none⟩)) := B8 (i := 0) A9c rfl ⟨_, _, _, _, G3⟩ b o
@[simp] theorem C58 (b o : Nat) (K : Value → WP) : A2 PR (Instr.fieldAt 242 (.pointer (some ⟨b, o, none⟩)) 1) K = K (.pointer (some ⟨b, o + 1, none⟩)) := B8 (i := 1) A9c rfl ⟨_, _, _, _, G3⟩ b o
@[simp] theorem C7l (b o : Nat) (K : Value → WP) : A2 PR (Instr.fieldAt 242 (.pointer (some ⟨b, o, none⟩)) 2) K = K (.pointer (some ⟨b, o + 2, none⟩)) := B8 (i := 2) A9c rfl ⟨_, _, _, _, G3⟩ b o
@[simp] theorem C6l (b o : Nat) (K : Value → WP) : A2 PR (Instr.fieldAt 280 (.pointer (some ⟨b, o, none⟩)) 0) K = K (.pointer (some ⟨b, o, none⟩)) := B8 (i := 0) A9S rfl ⟨_, _, _, _, a6⟩ b o
@[simp] theorem C6b (b o : Nat) (K : Value → WP) : A2 PR (Instr.fieldAt 280 (.pointer (some ⟨b, o, none⟩)) 1) K = K (.pointer (some ⟨b, o + 1, none⟩)) := B8 (i := 1) A9S rfl ⟨_, _, _, _, a6⟩ b o
@[simp] theorem C6V (b o : Nat) (K : Value → WP) : A2 PR (Instr.fieldAt 280 (.pointer (some ⟨b, o, none⟩)) 2) K = K (.pointer (some ⟨b, o + 2, none⟩)) := B8 (i := 2) A9S rfl ⟨_, _, _, _, G3⟩ b o
@[simp] theorem C7W (b o : Nat) (K : Value → WP) : A2 PR (Instr.fieldAt 283 (.pointer (some ⟨b, o, none⟩)) 0) K = K (.pointer (some ⟨b, o, none⟩)) := B8 (i := 0) A9T rfl ⟨_, _, _, _, a6⟩ b o
@[simp] theorem C6u (b o : Nat) (K : Value → WP) : A2 PR (Instr.fieldAt 283 (.pointer (some ⟨b, o, none⟩)) 1) K = K (.pointer (some ⟨b, o + 1, none⟩)) := B8 (i := 1) A9T rfl ⟨_, _, _, _, a6⟩ b o
@[simp] theorem C6q (b o : Nat) (K : Value → WP) : A2 PR (Instr.fieldAt 283 (.pointer (some ⟨b, o, none⟩)) 2) K = K (.pointer (some ⟨b, o + 2, none⟩)) := B8 (i := 2) A9T rfl ⟨_, _, _, _, G3⟩ b o
theorem C5f : TI PR 25 Tryz.t25.desc 1 8 .nilFunc := ⟨Tryz.underlying25, Tryz.t25, by kernel_rfl, rfl, rfl, rfl⟩
@[simp] theorem C6F (b o : Nat) (K : Value → WP) : A2 PR (Instr.fieldAt 300 (.pointer (some ⟨b, o, none⟩)) 0) K = K (.pointer (some ⟨b, o, none⟩)) := B8 (i := 0) A9P rfl ⟨_, _, _, _, C5f⟩ b o
@[simp] theorem C7r (b o : Nat) (K : Value → WP) : A2 PR (Instr.fieldAt 300 (.pointer (some ⟨b, o, none⟩)) 1) K = K (.pointer (some ⟨b, o + 1, none⟩)) := B8 (i := 1) A9P rfl ⟨_, _, _, _, A7L⟩ b o
@[simp] theorem C8n (b o : Nat) (K : Value → WP) : A2 PR (Instr.fieldAt 36 (.pointer (some ⟨b, o, none⟩)) 0) K = K (.pointer (some ⟨b, o, none⟩)) := B8 (i := 0) B3D rfl ⟨_, _, _, _, A2m⟩ b o
@[simp] theorem C8a (b o : Nat) (K : Value → WP) : A2 PR (Instr.fieldAt 36 (.pointer (some ⟨b, o, none⟩)) 1) K = K (.pointer (some ⟨b, o + 5, none⟩)) := B8 (i := 1) B3D rfl ⟨_, _, _, _, A8M⟩ b o
@[simp] theorem C9K (b o : Nat) (K : Value → WP) : A2 PR (Instr.fieldAt 36 (.pointer (some ⟨b, o, none⟩)) 2) K = K (.pointer (some ⟨b, o + 6, none⟩)) := B8 (i := 2) B3D rfl ⟨_, _, _, _, B51⟩ b o
@[simp] theorem C8D (b o : Nat) (K : Value → WP) : A2 PR (Instr.fieldAt 36 (.pointer (some ⟨b, o, none⟩)) 3) K = K (.pointer (some ⟨b, o + 7, none⟩)) := B8 (i := 3) B3D rfl ⟨_, _, _, _, B2U⟩ b o
@[simp] theorem C8w (b o : Nat) (K : Value → WP) : A2 PR (Instr.fieldAt 39 (.pointer (some ⟨b, o, none⟩)) 3) K = K (.pointer (some ⟨b, o + 3, none⟩)) := B8 (i := 3) A59 rfl ⟨_, _, _, _, G3⟩ b o
@[simp] theorem C8r (b o : Nat) (K : Value → WP) : A2 PR (Instr.fieldAt 42 (.pointer (some ⟨b, o, none⟩)) 0) K = K (.pointer (some ⟨b, o, none⟩)) := B8 (i := 0) A2B rfl ⟨_, _, _, _, G3⟩ b o
@[simp] theorem C9D (b o : Nat) (K : Value → WP) : A2 PR (Instr.fieldAt 42 (.pointer (some ⟨b, o, none⟩)) 1) K = K (.pointer (some ⟨b, o + 1, none⟩)) := B8 (i := 1) A2B rfl ⟨_, _, _, _, a6⟩ b o
@[simp] theorem C8Q (b o : Nat) (K : Value → WP) : A2 PR (Instr.fieldAt 42 (.pointer (some ⟨b, o, none⟩)) 2) K = K (.pointer (some ⟨b, o + 2, none⟩)) := B8 (i := 2) A2B rfl ⟨_, _, _, _, A8M⟩ b o
@[simp] theorem C79 (b o : Nat) (K : Value → WP) : A2 PR (Instr.fieldAt 42 (.pointer (some ⟨b, o, none⟩)) 3) K = K (.pointer (some ⟨b, o + 3, none⟩)) := B8 (i := 3) A2B rfl ⟨_, _, _, _, G3⟩ b o
@[simp] theorem C8b (b o : Nat) (K : Value → WP) : A2 PR (Instr.fieldAt 44 (.pointer (some ⟨b, o, none⟩)) 0) K = K (.pointer (some ⟨b, o, none⟩)) := B8 (i := 0) B8A rfl ⟨_, _, _, _, A2B⟩ b o
@[simp] theorem C73 (b o : Nat) (K : Value → WP) : A2 PR (Instr.fieldAt 44 (.pointer (some ⟨b, o, none⟩)) 1) K = K (.pointer (some ⟨b, o + 4, none⟩)) := B8 (i := 1) B8A rfl ⟨_, _, _, _, G3⟩ b o
@[simp] theorem C8U (b o : Nat) (K : Value → WP) : A2 PR (Instr.fieldAt 71 (.pointer (some ⟨b, o, none⟩)) 0) K = K (.pointer (some ⟨b, o, none⟩)) := B8 (i := 0) A2q rfl ⟨_, _, _, _, G3⟩ b o
@[simp] theorem C8x (b o : Nat) (K : Value → WP) : A2 PR (Instr.fieldAt 71 (.pointer (some ⟨b, o, none⟩)) 1) K = K (.pointer (some ⟨b, o + 1, none⟩)) := B8 (i := 1) A2q rfl ⟨_, _, _, _, a6⟩ b o
@[simp] theorem C83 (b o : Nat) (K : Value → WP) : A2 PR (Instr.fieldAt 71 (.pointer (some ⟨b, o, none⟩)) 2) K = K (.pointer (some ⟨b, o + 2, none⟩)) := B8 (i := 2) A2q rfl ⟨_, _, _, _, G3⟩ b o
@[simp] theorem C8A (b o : Nat) (K : Value → WP) : A2 PR (Instr.fieldAt 71 (.pointer (some ⟨b, o, none⟩)) 3) K = K (.pointer (some ⟨b, o + 3, none⟩)) := B8 (i := 3) A2q rfl ⟨_, _, _, _, G3⟩ b o
@[simp] theorem C9Q (b o : Nat) (K : Value → WP) : A2 PR (Instr.fieldAt 99 (.pointer (some ⟨b, o, none⟩)) 0) K = K (.pointer (some ⟨b, o, none⟩)) := B8 (i := 0) A3w rfl ⟨_, _, _, _, G3⟩ b o
@[simp] theorem C8j (b o : Nat) (K : Value → WP) : A2 PR (Instr.fieldAt 99 (.pointer (some ⟨b, o, none⟩)) 1) K = K (.pointer (some ⟨b, o + 1, none⟩)) := B8 (i := 1) A3w rfl ⟨_, _, _, _, a6⟩ b o
@[simp] theorem C7x (b o : Nat) (K : Value → WP) : A2 PR (Instr.fieldAt 99 (.pointer (some ⟨b, o, none⟩)) 2) K = K (.pointer (some ⟨b, o + 2, none⟩)) := B8 (i := 2) A3w rfl ⟨_, _, _, _, a6⟩ b o
@[simp] theorem C8L (b o : Nat) (K : Value → WP) : A2 PR (Instr.fieldAt 99 (.pointer (some ⟨b, o, none⟩)) 3) K = K (.pointer (some ⟨b, o + 3, none⟩)) := B8 (i := 3) A3w rfl ⟨_, _, _, _, G3⟩ b o
@[simp] theorem C8g (b o : Nat) (K : Value → WP) : A2 PR (Instr.fieldAt 99 (.pointer (some ⟨b, o, none⟩)) 4) K = K (.pointer (some ⟨b, o + 4, none⟩)) := B8 (i := 4) A3w rfl ⟨_, _, _, _, G3⟩ b o
@[simp] theorem C8J (b o : Nat) (K : Value → WP) : A2 PR (Instr.fieldAt 99 (.pointer (some ⟨b, o, none⟩)) 5) K = K (.pointer (some ⟨b, o + 5, none⟩)) := B8 (i := 5) A3w rfl ⟨_, _, _, _, G3⟩ b o
theorem Y0 {k1 : IntKind} {i : Int} {s : ByteArray} {b : UInt8} (h0 : 0 ≤ i) (h1 : s[i.toNat]? = some b) (K : Value → WP) : A2 PR (Instr.index 9 (.string s) (.int k1 i)) K = K (.int .u8 b.toNat) := C1S a6 h0 h1
@[simp] theorem D0K {k : IntKind} {i : Int} {len cap : Nat} (h0 : 0 ≤ i) (h1 : i < len) (b o : Nat) (K : Value → WP) : A2 PR (Instr.indexAt 104 (.slice (some ⟨b, o, none⟩) len cap) (.int k i)) K = K (.pointer (some ⟨b, o + i.toNat * 4, none⟩)) := (P0 (K := K) B8J A2B h0 h1 b o)
@[simp] theorem C9Z {k : IntKind} {i : Int} {len cap : Nat} (h0 : 0 ≤ i) (h1 : i < len) (b o : Nat) (K : Value → WP) : A2 PR (Instr.indexAt 107 (.slice (some ⟨b, o, none⟩) len cap) (.int k i)) K = K (.pointer (some ⟨b, o + i.toNat * 2, none⟩)) := (P0 (K := K) B2E B4e h0 h1 b o)
theorem B8c : TI PR 116 Tryz.t116.desc 1 8 .nilFunc := ⟨Tryz.underlying116, Tryz.t116, by kernel_rfl, rfl, rfl, rfl⟩
@[simp] theorem C9y {k : IntKind} {i : Int} (h0 : 0 ≤ i) (h1 : i < (4 : Nat)) (b o : Nat) (K : Value → WP) : A2 PR (Instr.indexAt 117 (.pointer (some ⟨b, o, none⟩)) (.int k i)) K = K (.pointer (some ⟨b, o + i.toNat, none⟩)) := (by simpa using B2B (K := K) B8q B8c h0 h1 b o)
@[simp] theorem D0N {k : IntKind} {i : Int} {len cap : Nat} (h0 : 0 ≤ i) (h1 : i < len) (b o : Nat) (K : Value → WP) : A2 PR (Instr.indexAt 136 (.slice (some ⟨b, o, none⟩) len cap) (.int k i)) K = K (.pointer (some ⟨b, o + i.toNat * 4, none⟩)) := (P0 (K := K) B8V A2q h0 h1 b o)
@[simp] theorem C9u {k : IntKind} {i : Int} (h0 : 0 ≤ i) (h1 : i < (2 : Nat)) (b o : Nat) (K : Value → WP) : A2 PR (Instr.indexAt 140 (.pointer (some ⟨b, o, none⟩)) (.int k i)) K = K (.pointer (some ⟨b, o + i.toNat, none⟩)) := (by simpa using B2B (K := K) B1E G3 h0 h1 b o)
@[simp] theorem C9x {k : IntKind} {i : Int} {len cap : Nat} (h0 : 0 ≤ i) (h1 : i < len) (b o : Nat) (K : Value → WP) : A2 PR (Instr.indexAt 146 (.slice (some ⟨b, o, none⟩) len cap) (.int k i)) K = K (.pointer (some ⟨b, o + i.toNat * 2, none⟩)) := (P0 (K := K) B1q A29 h0 h1 b o)
@[simp] theorem C9r {k : IntKind} {i : Int} {len cap : Nat} (h0 : 0 ≤ i) (h1 : i < len) (b o : Nat) (K : Value → WP) : A2 PR (Instr.indexAt 185 (.slice (some ⟨b, o, none⟩) len cap) (.int k i)) K = K (.pointer (some ⟨b, o + i.toNat * 2, none⟩)) := (P0 (K := K) B7s B1E h0 h1 b o)
theorem B8Y : TI PR 188 Tryz.t146.desc 1 24 (.slice none 0 0) := ⟨Tryz.underlying188, Tryz.t188, by kernel_rfl, rfl, rfl, rfl⟩
@[simp] theorem C9m {k : IntKind} {i : Int} {len cap : Nat} (h0 : 0 ≤ i) (h1 : i < len) (b o : Nat) (K : Value → WP) : A2 PR (Instr.indexAt 188 (.slice (some ⟨b, o, none⟩) len cap) (.int k i)) K = K (.pointer (some ⟨b, o + i.toNat * 2, none⟩)) := (P0 (K := K) B8Y A29 h0 h1 b o)
@[simp] theorem C9Y {k : IntKind} {i : Int} {len cap : Nat} (h0 : 0 ≤ i) (h1 : i < len) (b o : Nat) (K : Value → WP) : A2 PR (Instr.indexAt 190 (.slice (some ⟨b, o, none⟩) len cap) (.int k i)) K = K (.pointer (some ⟨b, o + i.toNat * 2, none⟩)) := (P0 (K := K) B4d A69 h0 h1 b o)
@[simp] theorem D0P {k : IntKind} {i : Int} {len cap : Nat} (h0 : 0 ≤ i) (h1 : i < len) (b o : Nat) (K : Value → WP) : A2 PR (Instr.indexAt 218 (.slice (some ⟨b, o, none⟩) len cap) (.int k i)) K = K (.pointer (some ⟨b, o + i.toNat, none⟩)) := (by simpa using P0 (K := K) A3B ty5 h0 h1 b o)
@[simp] theorem D0f {k : IntKind} {i : Int} {len cap : Nat} (h0 : 0 ≤ i) (h1 : i < len) (b o : Nat) (K : Value → WP) : A2 PR (Instr.indexAt 24 (.slice (some ⟨b, o, none⟩) len cap) (.int k i)) K = K (.pointer (some ⟨b, o + i.toNat * 5, none⟩)) := (P0 (K := K) C5g B8A h0 h1 b o)
@[simp] theorem D0a {k : IntKind} {i : Int} {len cap : Nat} (h0 : 0 ≤ i) (h1 : i < len) (b o : Nat) (K : Value → WP) : A2 PR (Instr.indexAt 314 (.slice (some ⟨b, o, none⟩) len cap) (.int k i)) K = K (.pointer (some ⟨b, o + i.toNat * 2, none⟩)) := (P0 (K := K) B8f A9P h0 h1 b o)
@[simp] theorem D0e {k : IntKind} {i : Int} {len cap : Nat} (h0 : 0 ≤ i) (h1 : i < len) (b o : Nat) (K : Value → WP) : A2 PR (Instr.indexAt 32 (.slice (some ⟨b, o, none⟩) len cap) (.int k i)) K = K (.pointer (some ⟨b, o + i.toNat * 2, none⟩)) := (P0 (K := K) A8M A4k h0 h1 b o)
@[simp] theorem D0w {k : IntKind} {i : Int} {len cap : Nat} (h0 : 0 ≤ i) (h1 : i < len) (b o : Nat) (K : Value → WP) : A2 PR (Instr.indexAt 33 (.slice (some ⟨b, o, none⟩) len cap) (.int k i)) K = K (.pointer (some ⟨b, o + i.toNat, none⟩)) := (by simpa using P0 (K := K) B51 A8W h0 h1 b o)
@[simp] theorem D0s {k : IntKind} {i : Int} {len cap : Nat} (h0 : 0 ≤ i) (h1 : i < len) (b o : Nat) (K : Value → WP) : A2 PR (Instr.indexAt 34 (.slice (some ⟨b, o, none⟩) len cap) (.int k i)) K = K (.pointer (some ⟨b, o + i.toNat, none⟩)) := (by simpa using P0 (K := K) B2U G3 h0 h1 b o)
@[simp] theorem C4b {k : IntKind} {i : Int} {len cap : Nat} (h0 : 0 ≤ i) (h1 : i < len) (b o : Nat) (K : Value → WP) : A2 PR (Instr.indexAt 50 (.slice (some ⟨b, o, none⟩) len cap) (.int k i)) K = K (.pointer (some ⟨b, o + i.toNat * 4, none⟩)) := (P0 (K := K) A8W A2q h0 h1 b o)
@[simp] theorem D0r {k : IntKind} {i : Int} {len cap : Nat} (h0 : 0 ≤ i) (h1 : i < len) (b o : Nat) (K : Value → WP) : A2 PR (Instr.indexAt 57 (.slice (some ⟨b, o, none⟩) len cap) (.int k i)) K = K (.pointer (some ⟨b, o + i.toNat, none⟩)) := (by simpa using P0 (K := K) C2f a6 h0 h1 b o)
@[simp] theorem C8m (a : Option Addr) (n c : Nat) (K : Value → WP) : A2 PR (A7 .len #[104] 0 [.slice a n c]) K = K (.int .i64 n) := k8 B8J a n c
@[simp] theorem C9T (a : Option Addr) (n c : Nat) (K : Value → WP) : A2 PR (A7 .len #[107] 0 [.slice a n c]) K = K (.int .i64 n) := k8 B2E a n c
@[simp] theorem C8H (a : Option Addr) (n c : Nat) (K : Value → WP) : A2 PR (A7 .len #[136] 0 [.slice a n c]) K = K (.int .i64 n) := k8 B8V a n c
@[simp] theorem C78 (a : Option Addr) (n c : Nat) (K : Value → WP) : A2 PR (A7 .len #[146] 0 [.slice a n c]) K = K (.int .i64 n) := k8 B1q a n c
@[simp] theorem C9N (a : Option Addr) (n c : Nat) (K : Value → WP) : A2 PR (A7 .len #[185] 0 [.slice a n c]) K = K (.int .i64 n) := k8 B7s a n c
@[simp] theorem C8W (a : Option Addr) (n c : Nat) (K : Value → WP) : A2 PR (A7 .len #[188] 0 [.slice a n c]) K = K (.int .i64 n) := k8 B8Y a n c
@[simp] theorem C8s (a : Option Addr) (n c : Nat) (K : Value → WP) : A2 PR (A7 .len #[190] 0 [.slice a n c]) K = K (.int .i64 n) := k8 B4d a n c
@[simp] theorem C9E (a : Option Addr) (n c : Nat) (K : Value → WP) : A2 PR (A7 .len #[218] 0 [.slice a n c]) K = K (.int .i64 n) := k8 A3B a n c
@[simp] theorem D0S (a : Option Addr) (n c : Nat) (K : Value → WP) : A2 PR (A7 .len #[24] 0 [.slice a n c]) K = K (.int .i64 n) := k8 C5g a n c
@[simp] theorem C75 (a : Option Addr) (n c : Nat) (K : Value → WP) : A2 PR (A7 .len #[314] 0 [.slice a n c]) K = K (.int .i64 n) := k8 B8f a n c
@[simp] theorem C9n (a : Option Addr) (n c : Nat) (K : Value → WP) : A2 PR (A7 .len #[32] 0 [.slice a n c]) K = K (.int .i64 n) := k8 A8M a n c
@[simp] theorem D0Q (a : Option Addr) (n c : Nat) (K : Value → WP) : A2 PR (A7 .len #[33] 0 [.slice a n c]) K = K (.int .i64 n) := k8 B51 a n c
@[simp] theorem C90 (a : Option Addr) (n c : Nat) (K : Value → WP) : A2 PR (A7 .len #[34] 0 [.slice a n c]) K = K (.int .i64 n) := k8 B2U a n c
@[simp] theorem C95 (a : Option Addr) (n c : Nat) (K : Value → WP) : A2 PR (A7 .len #[50] 0 [.slice a n c]) K = K (.int .i64 n) := k8 A8W a n c
@[simp] theorem C93 (a : Option Addr) (n c : Nat) (K : Value → WP) : A2 PR (A7 .len #[57] 0 [.slice a n c]) K = K (.int .i64 n) := k8 C2f a n c
@[simp] theorem D0n (s : ByteArray) (K : Value → WP) : A2 PR (A7 .len #[9] 0 [.string s]) K = K (.int .i64 s.size) := C5r a6 s
@[simp] theorem D1D (a : Addr) (K : Value → WP) (w : World) : A6 PR (Instr.loadAt 3 (.pointer (some a))) K w = rdc (w.cell? a) K (far PR 3 a K) w := B50 G3 rfl a
@[simp] theorem D0g (a : Addr) (K : Value → WP) (w : World) : A6 PR (Instr.loadAt 68 (.pointer (some a))) K w = rdc (w.cell? a) K (far PR 68 a K) w := B50 A84 rfl a
@[simp] theorem D0z (b o : Nat) (K : Value → WP) (w : World) : A6 PR (Instr.loadAt 71 (.pointer (some ⟨b, o, none⟩))) K w = rdl (e9 w b o 4) K (far PR 71 ⟨b, o, none⟩ K) w := B4c A2q rfl b o
@[simp] theorem C94 (v : Value) (K : Value → WP) : A2 PR (Instr.makeInterface 263 v) K = K (.iface 263 v) := B3e C3E (by intro ms h; cases h) v
@[simp] theorem D0W (v : Value) (K : Value → WP) : A2 PR (Instr.makeInterface 264 v) K = K (.iface 264 v) := B3e C3Q (by intro ms h; cases h) v
@[simp] theorem C9M {k1 : IntKind} {hi : Int} {len cap : Nat} (a : Option Addr) (h0 : 0 ≤ hi) (h1 : hi ≤ cap) (K : Value → WP) : A2 PR (Instr.sliceAt 146 (.slice a len cap) none (some (.int k1 hi)) none) K = K (slc a 0 hi.toNat cap 2) := C2n B1q A29 a h0 h1
@[simp] theorem C8u {k1 : IntKind} {lo : Int} {len cap : Nat} (a : Option Addr) (h0 : 0 ≤ lo) (h1 : lo ≤ len) (K : Value → WP) : A2 PR (Instr.sliceAt 146 (.slice a len cap) (some (.int k1 lo)) none none) K = K (slc a lo.toNat len cap 2) := C1j B1q A29 a h0 h1
@[simp] theorem C6m (b o : Nat) (K : Value → WP) : A2 PR (Instr.sliceAt 237 (.pointer (some ⟨b, o, none⟩)) none none none) K = K (.slice (some ⟨b, o, none⟩) 38 38) := B9q B8Z ty5 b o
@[simp] theorem D0q {k1 : IntKind} {hi : Int} {s : ByteArray} (h0 : 0 ≤ hi) (h1 : hi ≤ s.size) (K : Value → WP) : A2 PR (Instr.sliceAt 9 (.string s) none (some (.int k1 hi)) none) K = K (.string (s.extract 0 hi.toNat)) := C0e a6 h0 h1
@[simp] theorem D0d {k1 : IntKind} {lo : Int} {s : ByteArray} (h0 : 0 ≤ lo) (h1 : lo ≤ s.size) (K : Value → WP) : A2 PR (Instr.sliceAt 9 (.string s) (some (.int k1 lo)) none none) K = K (.string (s.extract lo.toNat s.size)) := C1E a6 h0 h1
@[simp] theorem D08 {k1 k2 : IntKind} {lo hi : Int} {s : ByteArray} (h0 : 0 ≤ lo) (h1 : lo ≤ hi) (h2 : hi ≤ s.size) (K : Value → WP) : A2 PR (Instr.sliceAt 9 (.string s) (some (.int k1 lo)) (some (.int k2 hi)) none) K = K (.string (s.extract lo.toNat hi.toNat)) := C2q a6 h0 h1 h2
theorem C3W : TI PR 138 Tryz.t138.desc 1 8 (.map none) := ⟨Tryz.underlying138, Tryz.t138, by kernel_rfl, rfl, rfl, rfl⟩
theorem B4W : TI PR 212 Tryz.t211.desc 1 16 .nilIface := ⟨Tryz.underlying212, Tryz.t212, by kernel_rfl, rfl, rfl, rfl⟩
theorem B4Z : TI PR 213 Tryz.t213.desc 1 8 (.map none) := ⟨Tryz.underlying213, Tryz.t213, by kernel_rfl, rfl, rfl, rfl⟩
end Go.Proofs.YtggakcpabomliaaGreat
namespace Go.Proofs.YtggakcpabomliaaGreat
open Go
@[simp] theorem B93 (a b : ByteArray) : (a == b) = decide (a = b) := by
 obtain ⟨x⟩ := a; obtain ⟨y⟩ := b
 have h : ((⟨x⟩ : ByteArray) == ⟨y⟩) = (x == y) := rfl
 rw [h]
 by_cases e : x = y
 ·subst e; simp
 ·simp [e]
@[simp] theorem C6z (a : Array UInt8) : (ByteArray.mk a).size = a.size := rfl
theorem A1U (ns : List Int) : (S3 ns).data.toList = ns.map fun n => UInt8.ofNat n.toNat := by
 have : ∀ (l : List Int) (r : ByteArray), (l.foldl (fun r n => r.push (UInt8.ofNat n.toNat)) r).data.toList = r.data.toList ++ l.map fun n => UInt8.ofNat n.toNat := by
  intro l
  induction l with
  | nil => intro r; simp
  | cons x l ih => intro r; rw [List.foldl_cons, ih]; simp [ByteArray.push]
 have h := this ns ByteArray.empty
 rw [show ByteArray.empty.data.toList = [] from rfl, List.nil_append] at h
 exact h
@[simp] theorem A9J (ns : List Int) : (S3 ns).size = ns.length := by
 have := congrArg List.length (A1U ns)
 rw [List.length_map] at this
 exact this
class TS (t : TypeId) (z : outParam Value) : Prop where
 ti : ∃ d m, TI PR t d 1 m z ∧ Q5 d = false
class TG (t : TypeId) (n : outParam Nat) (z : outParam Value) : Prop where
 ti : ∃ d m, TI PR t d n m z ∧ Q5 d = true
class TA (t : TypeId) (n : outParam Nat) (z : outParam Value) : Prop where
 ti : ∃ d m, TI PR t d n m z
class SL (t : TypeId) (e : outParam TypeId) (k by' : outParam Nat) (z : outParam Value) : Prop where
 ti : (∃ n m z', TI PR t (.slice e) n m z') ∧ (∃ d, TI PR e d k by' z) ∧ z.cells.size = k
instance TS.ta {t : TypeId} {z : Value} [h : TS t z] : TA t 1 z := ⟨let ⟨d, m, h, _⟩ := h.ti; ⟨d, m, h⟩⟩
instance TG.ta {t : TypeId} {n : Nat} {z : Value} [h : TG t n z] : TA t n z := ⟨let ⟨d, m, h, _⟩ := h.ti; ⟨d, m, h⟩⟩
def rdq (x : Option (List Value)) (G : List Value → WP) (F : WP) : WP := match x with | some l => G l | none => F
@[simp] theorem A3j (l : List Value) (G : List Value → WP) (F : WP) : rdq (some l) G F = G l := rfl
@[congr] theorem C71 {x x' : Option (List Value)} {G : List Value → WP} {F : WP} (h : x = x') {q : Nat} (hq : Y4 = q) : rdq x G F = rdq x' G F := by rw [h]
@[simp] theorem D0M (xs : List Value) : S7 xs 0 0 = some [] := by simp [S7]
@[simp] theorem C6A (x : Value) (xs : List Value) (n : Nat) : S7 (x :: xs) 0 (n + 1) = (S7 xs 0 n).map (x :: ·) := by
 simp only [S7, Nat.zero_add, List.length_cons, List.drop_zero, List.take_succ_cons]
 by_cases h : n ≤ xs.length
 ·rw [if_pos h, if_pos (by omega)]; rfl
 ·rw [if_neg h, if_neg (by omega)]; rfl
theorem B3U {α : Type} {l : List α} {f : α → List Value} {k i : Nat} {x : α} (hk : ∀ x, (f x).length = k) (hx : l[i]? = some x) : S7 (l.flatMap f) (i * k) k = some (f x) := by
 obtain ⟨hlt, hx'⟩ := List.getElem?_eq_some_iff.1 hx
 have h1 : (i + 1) * k ≤ l.length * k := Nat.mul_le_mul_right k hlt
 rw [Nat.add_mul] at h1
 rw [S7, if_pos (by rw [L0 hk]; omega), A8k hk, List.drop_eq_getElem_cons hlt, List.flatMap_cons, hx']
 rw [List.take_left' (hk x)]
inductive Sel (r : Res) : List Res → List Res → Prop where
 | here {H : List Res} : Sel r (r :: H) H
 | there {x : Res} {H H' : List Res} : Sel r H H' → Sel r (x :: H) (x :: H')
theorem Sel.perm {r : Res} {H Hr : List Res} (h : Sel r H Hr) : H.Perm (r :: Hr) := by
 induction h with
 | here => exact .refl _
 | there _ ih => exact (ih.cons _).trans (.swap ..)
theorem Sel.sub {r : Res} {H Hr : List Res} (h : Sel r H Hr) : Hr.Sublist H := by
 induction h with
 | here => exact List.sublist_cons_self ..
 | there _ ih => exact ih.cons_cons _
theorem A0 {r : Res} {H : List Res} : r ∈ r :: H := List.mem_cons_self ..
theorem A1 {r x : Res} {H : List Res} (h : r ∈ H) : r ∈ x :: H := List.mem_cons_of_mem _ h
inductive Sels : List Res → List Res → Prop where
 | nil {H : List Res} : Sels [] H
 | cons {r : Res} {rs H Hr : List Res} : Sel r H Hr → Sels rs Hr → Sels (r :: rs) H
theorem Sels.sub {rs H : List Res} (h : Sels rs H) : ∃ H', H.Perm H' ∧ rs.Sublist H' := by
 induction h with
 | nil => exact ⟨_, .refl _, List.nil_sublist _⟩
 | cons h1 _ ih => obtain ⟨H', h2, h3⟩ := ih; exact ⟨_ :: H', h1.perm.trans (h2.cons _), h3.cons_cons _⟩
theorem Sels.lw {κ : Bool} {S : List Nat} {w0 w : World} {rs H : List Res} (h : Sels rs H) (hw : LW κ S w0 H w) : LW κ S w0 rs w := let ⟨_, h1, h2⟩ := h.sub; (hw.perm h1).sub h2
theorem Sels.tw {κ : Bool} {S : List Nat} {w0 : World} {rs H : List Res} {K : WP} (h : Sels rs H) (hk : TW κ S w0 rs K) : TW κ S w0 H K := fun w hw => hk w (h.lw hw)
inductive Part : List Res → List Res → List Res → Prop where
 | nil {H : List Res} : Part [] H H
 | cons {r : Res} {rs H H1 Hk : List Res} : Sel r H H1 → Part rs H1 Hk → Part (r :: rs) H Hk
theorem Part.perm {Hc H Hk : List Res} (h : Part Hc H Hk) : H.Perm (Hc ++ Hk) := by
 induction h with
 | nil => exact .refl _
 | cons h1 _ ih => exact h1.perm.trans (ih.cons _)
theorem H7 {κ : Bool} {X : Nat → Prop} {S : List Nat} {w0 : World} {H Hk Hc : List Res} {K : Value → WP} {f : FuncId} {args : List Value} {α : Type} {φ : α → Value → Prop} {Hn : α → List Res} (he : B0 PR f)
  (hf : ∀ w, LW κ S w0 (Hc ++ Hk) w → LW false (E2 Hc) w Hc w → Fn PR B5 f args.toArray w (Rn (E2 Hc) w φ Hn)) (hp : Part Hc H Hk) (hK : ∀ a v, φ a v → TW κ S w0 (Hn a ++ Hk) (K v)) : TW κ S w0 H (B2 PR X f args K) :=
 B1c he hp.perm (fun w hw => let h := hw.perm hp.perm; hf w h (h.sub (List.sublist_append_left _ _)).self) hK
theorem C6 {κ : Bool} {S : List Nat} {w0 : World} {H : List Res} {α : Type} {φ : α → Value → Prop} {Hn : α → List Res} {v : Value} (a : α) (h : φ a v) (hs : Sels (Hn a) H) : TW κ S w0 H (Rn S w0 φ Hn v) := fun w hw => ⟨a, h, hs.lw hw.low⟩
theorem C3U {κ : Bool} {S : List Nat} {w0 : World} {H : List Res} {F : Value → WP} {A : (Value → WP) → WP} {α : Type} (φ : α → Prop) (Hh : α → List Res) (v1 : α → Value) (hF : ∀ x, φ x → TW κ S w0 (Hh x) (F (v1 x)))
  (hA : ∀ J : Value → WP, (∀ x, φ x → TW κ S w0 (Hh x) (J (v1 x))) → TW κ S w0 H (A J)) : TW κ S w0 H (kt (n := 1) F A) := hA F hF
theorem B15 {κ : Bool} {S : List Nat} {w0 : World} {H : List Res} {F : Value → Value → WP} {A : (Value → Value → WP) → WP} {α : Type} (φ : α → Prop) (Hh : α → List Res) (v1 v2 : α → Value) (hF : ∀ x, φ x → TW κ S w0 (Hh x) (F (v1 x) (v2 x)))
  (hA : ∀ J : Value → Value → WP, (∀ x, φ x → TW κ S w0 (Hh x) (J (v1 x) (v2 x))) → TW κ S w0 H (A J)) : TW κ S w0 H (kt (n := 2) F A) := hA F hF
theorem E3.form {w : World} {v : Value} {n : Nat} {xs : List Value} (h : E3 w v n xs) : ∃ a c, v = .slice a n c ∧ (0 < n → ∃ b o, a = some ⟨b, o, none⟩ ∧ M4 w b o xs) := by
 rcases h with ⟨rfl, rfl, a, c, rfl⟩ | ⟨b, o, c, rfl, hr⟩
 ·exact ⟨a, c, rfl, fun h => absurd h (by omega)⟩
 ·exact ⟨_, c, rfl, fun _ => ⟨b, o, rfl, hr⟩⟩
theorem M4.at {w : World} {b o k : Nat} {α : Type} {l : List α} {f : α → List Value} (h : M4 w b o (l.flatMap f)) (hk : ∀ x, (f x).length = k) {i : Nat} {x : α} (hx : l[i]? = some x) : e9 w b (o + i * k) k = some (f x) := by
 have h1 : M4 w b (o + i * k) (f x) := fun j hj => by
  rw [hk] at hj
  have h2 := W3 hk l i j hj
  rw [hx] at h2
  have h3 : (l.flatMap f)[i * k + j]? = some ((f x)[j]'(by rw [hk]; exact hj)) := by rw [h2]; simp [List.getElem?_eq_getElem, hk, hj]
  rw [Nat.add_assoc, h.get h3]; simp [List.getElem?_eq_getElem, hk, hj]
 have := A6m h1
 rwa [hk] at this
theorem M4.cellAt {w : World} {b o k : Nat} {α : Type} {l : List α} {f : α → List Value} (h : M4 w b o (l.flatMap f)) (hk : ∀ x, (f x).length = k) {i j : Nat} {x : α} {u : Value} (hx : l[i]? = some x) (hu : (f x)[j]? = some u) : w.cell? ⟨b, o + i * k + j, none⟩ = some u := by
 have hj : j < k := by rw [← hk x]; exact (List.getElem?_eq_some_iff.1 hu).1
 have h2 := W3 hk l i j hj
 rw [hx] at h2
 rw [Nat.add_assoc]
 exact h.get (by rw [h2]; exact hu)
theorem M4.one {w : World} {b o : Nat} {α : Type} {l : List α} {f : α → Value} (h : M4 w b o (l.map f)) {i : Nat} {x : α} (hx : l[i]? = some x) : w.cell? ⟨b, o + i, none⟩ = some (f x) := h.get (by simp [hx])
section
variable {κ : Bool} {X : Nat → Prop} {S : List Nat} {w0 : World} {H H' Hr : List Res} {K : Value → WP} {K0 : WP} {t e : TypeId} {n k by' : Nat} {z : Value}
theorem C7k {s : Sem Value} {v : Value} (h : ∀ w, LW κ S w0 H w → A6 PR s K w = K v w) : TW κ S w0 H (A6 PR s K) = TW κ S w0 H (K v) := TW.congr h
theorem B13 {s : Sem Value} {v : Value} (hK : TW κ S w0 H (K v)) (h : ∀ w, LW κ S w0 H w → A6 PR s K w = K v w) : TW κ S w0 H (A6 PR s K) := fun w hw => by rw [h w hw]; exact hK w hw
theorem C0B {r : Res} (hs : Sel r H Hr) (h : TW κ S w0 Hr K0) : TW κ S w0 H K0 := h.sub hs.sub
theorem A1T {v : Value} {q : Nat} {xs : List Value} (hm : Res.own e k v q xs ∈ H) (hq : 0 < q) (h : ∀ g c, v = .slice (some ⟨g, 0, none⟩) q c → TW κ S w0 H K0) : TW κ S w0 H K0 := fun w hw => by
 rcases (hw.hold _ hm).2 with ⟨_, rfl⟩ | ⟨g, c, _, rfl, _⟩
 ·omega
 ·exact h g c rfl w hw
@[simp] theorem D0p [h : TS t z] {b o : Nat} {c : Array Value} {T : TypeId} {f : Nat × Nat} (hm : Res.pt b (.cells c T f) ∈ H) :
  TW κ S w0 H (A6 PR (Instr.loadAt t (.pointer (some ⟨b, o, none⟩))) K) = TW κ S w0 H (rdc c[o]? K (far PR t ⟨b, o, none⟩ K)) := let ⟨_, _, h, hd⟩ := h.ti; C3n h hd hm
@[simp] theorem D0V [h : TS t z] {g o : Nat} {k q c : Nat} {xs : List Value} (hm : Res.own e k (.slice (some ⟨g, 0, none⟩) q c) q xs ∈ H) :
  TW κ S w0 H (A6 PR (Instr.loadAt t (.pointer (some ⟨g, o, none⟩))) K) = TW κ S w0 H (rdc xs[o]? K (A6 PR (Instr.loadAt t (.pointer (some ⟨g, o, none⟩))) K)) := by
 cases hv : xs[o]? with
 | none => rfl
 | some v => exact let ⟨_, _, h, hd⟩ := h.ti; C20 h hd hm hv
@[simp] theorem C9z [h : TS t z] {b o : Nat} {v : Value} (hc : w0.cell? ⟨b, o, none⟩ = some v) (hS : b ∉ S) :
  TW κ S w0 H (A6 PR (Instr.loadAt t (.pointer (some ⟨b, o, none⟩))) K) = TW κ S w0 H (K v) := let ⟨_, _, h, hd⟩ := h.ti; C1M h hd hc hS
@[simp] theorem D0U [h : TG t n z] {b o : Nat} {c : Array Value} {T : TypeId} {f : Nat × Nat} (hm : Res.pt b (.cells c T f) ∈ H) :
  TW κ S w0 H (A6 PR (Instr.loadAt t (.pointer (some ⟨b, o, none⟩))) K) = TW κ S w0 H (rdq (S7 c.toList o n) (fun l => K (.agg l.toArray)) (A6 PR (Instr.loadAt t (.pointer (some ⟨b, o, none⟩))) K)) := by
 cases hl : S7 c.toList o n with
 | none => rfl
 | some l => exact let ⟨_, _, h, hd⟩ := h.ti; C2K h hd hm hl
@[simp] theorem C89 [h : TG t n z] {g o : Nat} {k q c : Nat} {xs : List Value} (hm : Res.own e k (.slice (some ⟨g, 0, none⟩) q c) q xs ∈ H) :
  TW κ S w0 H (A6 PR (Instr.loadAt t (.pointer (some ⟨g, o, none⟩))) K) = TW κ S w0 H (rdq (S7 xs o n) (fun l => K (.agg l.toArray)) (A6 PR (Instr.loadAt t (.pointer (some ⟨g, o, none⟩))) K)) := by
 cases hl : S7 xs o n with
 | none => rfl
 | some l => exact let ⟨_, _, h, hd⟩ := h.ti; C1G h hd hm hl
@[simp] theorem C8v [h : TG t n z] {b o : Nat} {l : List Value} (hc : e9 w0 b o n = some l) (hS : b ∉ S) :
  TW κ S w0 H (A6 PR (Instr.loadAt t (.pointer (some ⟨b, o, none⟩))) K) = TW κ S w0 H (K (.agg l.toArray)) := let ⟨_, _, h, hd⟩ := h.ti; C0s h hd hc hS
@[simp] theorem C5M [h : TS t z] {b o : Nat} {c : Array Value} {T : TypeId} {f : Nat × Nat} (hm : Res.pt b (.cells c T f) ∈ H) {v : Value} (hv : c[o]? = some v) :
  TW κ S w0 H (A6 PR (E0 [.c t (.pointer (some ⟨b, o, none⟩))]) K) = TW κ S w0 H (K v) := let ⟨_, _, h, hd⟩ := h.ti; C5B h hd hm hv
@[simp] theorem D02 [h : TG t n z] {b o : Nat} {c : Array Value} {T : TypeId} {f : Nat × Nat} (hm : Res.pt b (.cells c T f) ∈ H) :
  TW κ S w0 H (A6 PR (E0 [.c t (.pointer (some ⟨b, o, none⟩))]) K) = TW κ S w0 H (rdq (S7 c.toList o n) (fun l => K (.agg l.toArray)) (A6 PR (E0 [.c t (.pointer (some ⟨b, o, none⟩))]) K)) := by
 cases hl : S7 c.toList o n with
 | none => rfl
 | some l => exact let ⟨_, _, h, hd⟩ := h.ti; C46 h hd hm hl
@[simp] theorem D0v [h : TG t n z] {b o : Nat} {c : Array Value} {T : TypeId} {f : Nat × Nat} {x : Value} (hm : Res.pt b (.cells c T f) ∈ H) :
  TW κ S w0 H (A6 PR (E0 [.c t (.pointer (some ⟨b, o, none⟩)), .v x]) K) = TW κ S w0 H (rdq (S7 c.toList o n) (fun l => K (.tuple #[.agg l.toArray, x])) (A6 PR (E0 [.c t (.pointer (some ⟨b, o, none⟩)), .v x]) K)) := by
 cases hl : S7 c.toList o n with
 | none => rfl
 | some l =>
   obtain ⟨_, _, h, hd⟩ := h.ti
   refine TW.congr fun w hw => ?_
   rw [A3j]
   have hr := u0 hl (M4.bl (hw.pt hm)); have h2 := f7 hr
   refine T0 ?_ K
   have := k6 h hd h2.1 h2.2
   simp only [Instr.loadAt, Instr.sureAddr, Sem.run_bind, Sem.run_pure, Result.andThen_ok] at this
   simp [E0, A18, RV.sem, asAddr, this, one]
@[simp] theorem D0c [h : TG t n z] {b o : Nat} {c : Array Value} {T : TypeId} {f : Nat × Nat} {x y : Value} (hm : Res.pt b (.cells c T f) ∈ H) :
  TW κ S w0 H (A6 PR (E0 [.c t (.pointer (some ⟨b, o, none⟩)), .v x, .v y]) K) = TW κ S w0 H (rdq (S7 c.toList o n) (fun l => K (.tuple #[.agg l.toArray, x, y])) (A6 PR (E0 [.c t (.pointer (some ⟨b, o, none⟩)), .v x, .v y]) K)) := by
 cases hl : S7 c.toList o n with
 | none => rfl
 | some l =>
   obtain ⟨_, _, h, hd⟩ := h.ti
   refine TW.congr fun w hw => ?_
   rw [A3j]
   have hr := u0 hl (M4.bl (hw.pt hm)); have h2 := f7 hr
   refine T0 ?_ K
   have := k6 h hd h2.1 h2.2
   simp only [Instr.loadAt, Instr.sureAddr, Sem.run_bind, Sem.run_pure, Result.andThen_ok] at this
   simp [E0, A18, RV.sem, asAddr, this, one]
@[simp] theorem C7E [h : TS t z] {b o : Nat} {c : Array Value} {T : TypeId} {f : Nat × Nat} {v : Value} {l : List Rd} (hm : Res.pt b (.cells c T f) ∈ H) (hv : c[o]? = some v) :
  TW κ S w0 H (watch PR ((none, Instr.loadAt t (.pointer (some ⟨b, o, none⟩)), v) :: l) K0) = TW κ S w0 H (watch PR l K0) := let ⟨_, _, h, hd⟩ := h.ti; A62 fun w hw => s6 h hd (by rw [N0 (hw.pt hm)]; exact hv)
@[simp] theorem C5u [h : TS t z] {g o : Nat} {k q c : Nat} {xs : List Value} {v : Value} {l : List Rd} (hm : Res.own e k (.slice (some ⟨g, 0, none⟩) q c) q xs ∈ H) (hv : xs[o]? = some v) :
  TW κ S w0 H (watch PR ((none, Instr.loadAt t (.pointer (some ⟨g, o, none⟩)), v) :: l) K0) = TW κ S w0 H (watch PR l K0) := let ⟨_, _, h, hd⟩ := h.ti; A62 fun w hw => s6 h hd (by have := (hw.ownr hm).get hv; rwa [Nat.zero_add] at this)
@[simp] theorem C5s [h : TS t z] {b o : Nat} {v : Value} {l : List Rd} (hc : w0.cell? ⟨b, o, none⟩ = some v) (hS : b ∉ S) :
  TW κ S w0 H (watch PR ((none, Instr.loadAt t (.pointer (some ⟨b, o, none⟩)), v) :: l) K0) = TW κ S w0 H (watch PR l K0) := let ⟨_, _, h, hd⟩ := h.ti; A62 fun w hw => s6 h hd (hw.ks.cell hS hc)
@[simp] theorem D1d [h : TA t n z] {v : Value} {b o : Nat} {c : Array Value} {T : TypeId} (hv : v.cells.size = n)
  (hu : Up (.pt b (.cells c T (0, 0))) (.pt b (.cells (E7 c o v.cells.toList) T (0, 0))) H H') (hs : o + n ≤ c.size) (hp : v.cells.toList.all plain = true) :
  TW κ S w0 H (B4 PR X (Instr.storeAt t (.pointer (some ⟨b, o, none⟩)) v) K0) = TW κ S w0 H' K0 := let ⟨_, _, h⟩ := h.ti; D0L h hv hu hs hp
theorem f8 [h : TA t n z] {v : Value} {g o q c : Nat} {xs : List Value} (hu : Up (.own e k (.slice (some ⟨g, 0, none⟩) q c) q xs) (.own e k (.slice (some ⟨g, 0, none⟩) q c) q (A0J xs o v.cells.toList)) H H')
  (hv : v.cells.size = n) (hs : o + n ≤ xs.length) (hp : v.cells.toList.all plain = true) (hK : TW κ S w0 H' K0) :
  TW κ S w0 H (B4 PR X (Instr.storeAt t (.pointer (some ⟨g, o, none⟩)) v) K0) := let ⟨_, _, h⟩ := h.ti; C1n h hv hu hs hp hK
theorem A5 [h : TA t n z] (hK : ∀ b, TW κ S w0 (.pt b (.cells z.cells t) :: H) (K (.pointer (some ⟨b, 0, none⟩)))) : TW κ S w0 H (B1 PR X (Instr.alloc t true (.tuple #[])) K) := let ⟨_, _, h⟩ := h.ti; C9q h hK
theorem B2M {k1 k2 : IntKind} {l : Int} [h : SL t e k by' z] (h0 : 0 ≤ l) (hb : l * by' ≤ 140737488355328) (hc : l ≤ 9223372036854775807) (hk : 0 < k)
  (hK : ∀ b, TW κ S w0 (.own e k (.slice (some ⟨b, 0, none⟩) l.toNat l.toNat) l.toNat (Builtin.zeroCells z.cells l.toNat).toList :: H) (K (.slice (some ⟨b, 0, none⟩) l.toNat l.toNat))) :
  TW κ S w0 H (B1 PR X (Instr.makeSlice t (.int k1 l) (.int k2 l)) K) := let ⟨⟨_, _, _, h1⟩, ⟨_, h2⟩, h3⟩ := h.ti; C9l h1 h2 h3 hk h0 rfl hb hc hK
theorem D4 [h : SL t e k by' z] (hK : ∀ b, TW κ S w0 (.own e k (.slice (some ⟨b, 0, none⟩) 0 0) 0 [] :: H) (K (.slice (some ⟨b, 0, none⟩) 0 0))) : TW κ S w0 H (B1 PR X (Instr.buildSlice t 0 #[]) K) :=
 let ⟨⟨_, _, _, h1⟩, ⟨_, h2⟩, h3⟩ := h.ti; C7Y h1 h2 hK
theorem C1e {m n q : Nat} (hq : 0 < n) : ∀ (vs : List Value) (i : Nat) (cs : Array Value), (∀ v ∈ vs, v.cells.size = n) → (i + vs.length) * n ≤ cs.size →
  Instr.fill (fun i => some (i * n, n)) cs ((List.range' i vs.length).zip vs) = some (E7 cs (i * n) (vs.flatMap fun v => v.cells.toList)) := by
 intro vs
 induction vs with
 | nil => intro i cs _ _; simp [Instr.fill]
 | cons v vs ih =>
  intro i cs hv hs
  simp only [List.length_cons] at hs
  have hv0 : v.cells.size = n := hv v (by simp)
  have e1 : (i + (vs.length + 1)) * n = i * n + n + vs.length * n := by rw [Nat.add_mul, Nat.add_mul]; omega
  simp only [List.length_cons, List.range'_succ, List.zip_cons_cons]
  rw [B3 rfl hv0 (by omega), ih (i + 1) _ (fun u hu => hv u (by simp [hu])) (by rw [B9]; (have : (i + 1 + vs.length) * n = i * n + n + vs.length * n := by (rw [Nat.add_mul, Nat.add_mul]; omega)); omega)]
  have spl_spl : ∀ (l l' : List Value) (c : Array Value) (o : Nat), E7 (E7 c o l) (o + l.length) l' = E7 c o (l ++ l') := by
   intro l
   induction l with
   | nil => intro l' c o; simp
   | cons u l ih => intro l' c o; simp only [B6G, List.cons_append, List.length_cons]; rw [← ih]; congr 1; omega
  rw [List.flatMap_cons, ← spl_spl]
  congr 2
  have : v.cells.toList.length = n := by simp [hv0]
  rw [this, Nat.add_mul]; omega
theorem B5a {len : Nat} {parts : Array (Nat × Value)} (vs : List Value) [h : SL t e k by' z] (hk : 0 < k) (h0 : 0 < len) (hb : len * k ≤ 2 ^ 24) (hp : parts.toList = (List.range' 0 len).zip vs) (hl : vs.length = len) (hv : ∀ v ∈ vs, v.cells.size = k)
  (hK : ∀ b, TW κ S w0 (.own e k (.slice (some ⟨b, 0, none⟩) len len) len (vs.flatMap fun v => v.cells.toList) :: H) (K (.slice (some ⟨b, 0, none⟩) len len))) :
  TW κ S w0 H (B1 PR X (Instr.buildSlice t len parts) K) := by
 obtain ⟨⟨_, _, _, h1⟩, ⟨_, h2⟩, h3⟩ := h.ti
 have hlen : (vs.flatMap fun v => v.cells.toList).length = len * k := by
  rw [← hl]; clear hp hl hK hb h0
  induction vs with
  | nil => simp
  | cons v vs ih =>
   have := hv v (by simp)
   rw [List.flatMap_cons, List.length_append, ih fun u hu => hv u (by simp [hu])]
   simp only [Array.length_toList, List.length_cons, this]; rw [Nat.add_mul]; omega
 have hf := C1e (m := 0) (q := 0) hk vs 0 ((Array.range (len * k)).map (z.cells[· % z.cells.size]!)) hv (by simp [hl])
 rw [hl, ← hp] at hf
 have hz : E7 ((Array.range (len * k)).map (z.cells[· % z.cells.size]!)) (0 * k) (vs.flatMap fun v => v.cells.toList) = (vs.flatMap fun v => v.cells.toList).toArray := by
  apply Array.toList_inj.1
  rw [A1b _ _ _ (by simp [-List.length_flatMap, hlen])]
  simp only [Nat.zero_mul, List.take_zero, List.nil_append, hlen, Nat.zero_add]
  rw [List.drop_eq_nil_of_le (by simp)]; simp
 refine C96 h1 h2 hb (by have : 0 < len * k := Nat.mul_pos h0 hk; omega) (hf.trans (by rw [hz])) (by simp [-List.length_flatMap, hlen]) ?_
 simpa using hK
theorem D3 {v0 : Value} [h : SL t e k by' z] (hk : 0 < k := by decide) (hb : 1 * k ≤ 2 ^ 24 := by decide) (h0 : v0.cells.size = k := by simp) (hK : ∀ b, TW κ S w0 (.own e k (.slice (some ⟨b, 0, none⟩) 1 1) 1 (v0.cells.toList) :: H) (K (.slice (some ⟨b, 0, none⟩) 1 1))) :
  TW κ S w0 H (B1 PR X (Instr.buildSlice t 1 #[(0, v0)]) K) := B5a [v0] hk (by omega) hb rfl rfl (by intro v hv; simp only [List.mem_cons, List.not_mem_nil, or_false] at hv; subst hv; assumption) (by simpa using hK)
theorem D1 {v0 v1 : Value} [h : SL t e k by' z] (hk : 0 < k := by decide) (hb : 2 * k ≤ 2 ^ 24 := by decide) (h0 : v0.cells.size = k := by simp) (h1 : v1.cells.size = k := by simp) (hK : ∀ b, TW κ S w0 (.own e k (.slice (some ⟨b, 0, none⟩) 2 2) 2 (v0.cells.toList ++ v1.cells.toList) :: H) (K (.slice (some ⟨b, 0, none⟩) 2 2))) :
  TW κ S w0 H (B1 PR X (Instr.buildSlice t 2 #[(0, v0), (1, v1)]) K) := B5a [v0, v1] hk (by omega) hb rfl rfl (by intro v hv; simp only [List.mem_cons, List.not_mem_nil, or_false] at hv; rcases hv with rfl | rfl <;> assumption) (by simpa using hK)
theorem D2 {v0 v1 v2 : Value} [h : SL t e k by' z] (hk : 0 < k := by decide) (hb : 3 * k ≤ 2 ^ 24 := by decide) (h0 : v0.cells.size = k := by simp) (h1 : v1.cells.size = k := by simp) (h2 : v2.cells.size = k := by simp) (hK : ∀ b, TW κ S w0 (.own e k (.slice (some ⟨b, 0, none⟩) 3 3) 3 (v0.cells.toList ++ v1.cells.toList ++ v2.cells.toList) :: H) (K (.slice (some ⟨b, 0, none⟩) 3 3))) :
  TW κ S w0 H (B1 PR X (Instr.buildSlice t 3 #[(0, v0), (1, v1), (2, v2)]) K) := B5a [v0, v1, v2] hk (by omega) hb rfl rfl (by intro v hv; simp only [List.mem_cons, List.not_mem_nil, or_false] at hv; rcases hv with rfl | rfl | rfl <;> assumption) (by simpa using hK)
theorem D6 {v0 v1 v2 v3 v4 : Value} [h : SL t e k by' z] (hk : 0 < k := by decide) (hb : 5 * k ≤ 2 ^ 24 := by decide) (h0 : v0.cells.size = k := by simp) (h1 : v1.cells.size = k := by simp) (h2 : v2.cells.size = k := by simp) (h3 : v3.cells.size = k := by simp) (h4 : v4.cells.size = k := by simp) (hK : ∀ b, TW κ S w0 (.own e k (.slice (some ⟨b, 0, none⟩) 5 5) 5 (v0.cells.toList ++ v1.cells.toList ++ v2.cells.toList ++ v3.cells.toList ++ v4.cells.toList) :: H) (K (.slice (some ⟨b, 0, none⟩) 5 5))) :
  TW κ S w0 H (B1 PR X (Instr.buildSlice t 5 #[(0, v0), (1, v1), (2, v2), (3, v3), (4, v4)]) K) := B5a [v0, v1, v2, v3, v4] hk (by omega) hb rfl rfl (by intro v hv; simp only [List.mem_cons, List.not_mem_nil, or_false] at hv; rcases hv with rfl | rfl | rfl | rfl | rfl <;> assumption) (by simpa using hK)
theorem D5 {v0 v1 v2 v3 v4 v5 : Value} [h : SL t e k by' z] (hk : 0 < k := by decide) (hb : 6 * k ≤ 2 ^ 24 := by decide) (h0 : v0.cells.size = k := by simp) (h1 : v1.cells.size = k := by simp) (h2 : v2.cells.size = k := by simp) (h3 : v3.cells.size = k := by simp) (h4 : v4.cells.size = k := by simp) (h5 : v5.cells.size = k := by simp) (hK : ∀ b, TW κ S w0 (.own e k (.slice (some ⟨b, 0, none⟩) 6 6) 6 (v0.cells.toList ++ v1.cells.toList ++ v2.cells.toList ++ v3.cells.toList ++ v4.cells.toList ++ v5.cells.toList) :: H) (K (.slice (some ⟨b, 0, none⟩) 6 6))) :
  TW κ S w0 H (B1 PR X (Instr.buildSlice t 6 #[(0, v0), (1, v1), (2, v2), (3, v3), (4, v4), (5, v5)]) K) := B5a [v0, v1, v2, v3, v4, v5] hk (by omega) hb rfl rfl (by intro v hv; simp only [List.mem_cons, List.not_mem_nil, or_false] at hv; rcases hv with rfl | rfl | rfl | rfl | rfl | rfl <;> assumption) (by simpa using hK)
theorem P3.form {w : World} {e : TypeId} {k n : Nat} {v : Value} {xs : List Value} (h : P3 w e k v n xs) : ∃ a c, v = .slice a n c := by
 rcases h.2 with ⟨rfl, rfl⟩ | ⟨g, cap, cur, rfl, _⟩
 ·exact ⟨_, _, rfl⟩
 ·exact ⟨_, _, rfl⟩
theorem C0b {q : Nat} {xs : List Value} {A : Value → WP} (h : ∀ a c, TW κ S w0 (.own e k (.slice a q c) q xs :: H) (A (.slice a q c))) (v : Value) : TW κ S w0 (.own e k v q xs :: H) (A v) := fun w hw => by
 obtain ⟨a, c, rfl⟩ := P3.form (hw.hold _ A0)
 exact h a c w hw
theorem l0 {ty : TypeId} {v x : Value} {q r : Nat} {xs news : List Value} [h : SL t e k by' z] (hs : Sel (.own e k v q xs) H Hr) (hx : K6 κ S w0 H x r news) (hk : 0 < k) (hl : news.length = r * k) (hp : news.all plain = true)
  (h63 : q + r ≤ maxLen) (hby : (q + r) * by' ≤ 140737488355328) (hK : ∀ a c, TW κ S w0 (.own e k (.slice a (q + r) c) (q + r) (xs ++ news) :: Hr) (K (.slice a (q + r) c))) : TW κ S w0 H (B1 PR X (A7 .append #[t, t] ty [v, x]) K) := by
 obtain ⟨⟨_, _, _, h1⟩, ⟨_, h2⟩, h3⟩ := h.ti
 refine TW.perm ?_ hs.perm
 exact C6B (H'' := fun v' => .own e k v' (q + r) (xs ++ news) :: Hr) h1 h2 h3 hk (fun v' => .here) (fun w hw => hx w (hw.perm hs.perm.symm)) hl hp h63 hby (C0b hK)
end
end Go.Proofs.YtggakcpabomliaaGreat
namespace Go.Proofs.YtggakcpabomliaaGreat
open Go
instance : TS 3 (.int .i64 0) := ⟨_, _, G3, rfl⟩
instance : TS 4 (.bool false) := ⟨_, _, ty4, rfl⟩
instance : TS 5 (.int .u8 0) := ⟨_, _, ty5, rfl⟩
instance : TS 9 (.string (ByteArray.mk #[])) := ⟨_, _, a6, rfl⟩
instance : TG 23 5 (.agg #[(.int .i64 0), (.int .i64 0), (.int .i64 0), (.int .i64 0), (.int .i64 0)]) := ⟨_, _, A2m, rfl⟩
instance : TS 25 .nilFunc := ⟨_, _, C5f, rfl⟩
instance : TS 28 (.int .i64 0) := ⟨_, _, A7L, rfl⟩
instance : TS 32 (.slice none 0 0) := ⟨_, _, A8M, rfl⟩
instance : SL 32 103 2 16 (.agg #[(.int .i64 0), (.int .i64 0)]) := ⟨⟨_, _, _, A8M⟩, ⟨_, A4k⟩, rfl⟩
instance : TS 33 (.slice none 0 0) := ⟨_, _, B51, rfl⟩
instance : SL 33 50 1 24 (.slice none 0 0) := ⟨⟨_, _, _, B51⟩, ⟨_, A8W⟩, rfl⟩
instance : TS 34 (.slice none 0 0) := ⟨_, _, B2U, rfl⟩
instance : SL 34 3 1 8 (.int .i64 0) := ⟨⟨_, _, _, B2U⟩, ⟨_, G3⟩, rfl⟩
instance : TG 36 8 (.agg #[(.int .i64 0), (.int .i64 0), (.int .i64 0), (.int .i64 0), (.int .i64 0), (.slice none 0 0), (.slice none 0 0), (.slice none 0 0)]) := ⟨_, _, B3D, rfl⟩
instance : TG 39 4 (.agg #[(.int .i64 0), (.int .i64 0), (.bool false), (.int .i64 0)]) := ⟨_, _, A59, rfl⟩
instance : TG 42 4 (.agg #[(.int .i64 0), (.string (ByteArray.mk #[])), (.slice none 0 0), (.int .i64 0)]) := ⟨_, _, A2B, rfl⟩
instance : TS 50 (.slice none 0 0) := ⟨_, _, A8W, rfl⟩
instance : SL 50 71 4 40 (.agg #[(.int .i64 0), (.string (ByteArray.mk #[])), (.int .i64 0), (.int .i64 0)]) := ⟨⟨_, _, _, A8W⟩, ⟨_, A2q⟩, rfl⟩
instance : SL 57 9 1 16 (.string (ByteArray.mk #[])) := ⟨⟨_, _, _, C2f⟩, ⟨_, a6⟩, rfl⟩
instance : TS 68 (.int .u64 0) := ⟨_, _, A84, rfl⟩
instance : TG 71 4 (.agg #[(.int .i64 0), (.string (ByteArray.mk #[])), (.int .i64 0), (.int .i64 0)]) := ⟨_, _, A2q, rfl⟩
instance : TG 99 6 (.agg #[(.int .i64 0), (.string (ByteArray.mk #[])), (.string (ByteArray.mk #[])), (.int .i64 0), (.int .i64 0), (.int .i64 0)]) := ⟨_, _, A3w, rfl⟩
instance : TG 101 7 (.agg #[(.int .i64 0), (.string (ByteArray.mk #[])), (.string (ByteArray.mk #[])), (.int .i64 0), (.int .i64 0), (.int .i64 0), (.int .i64 0)]) := ⟨_, _, A9b, rfl⟩
instance : TG 103 2 (.agg #[(.int .i64 0), (.int .i64 0)]) := ⟨_, _, A4k, rfl⟩
instance : SL 104 42 4 56 (.agg #[(.int .i64 0), (.string (ByteArray.mk #[])), (.slice none 0 0), (.int .i64 0)]) := ⟨⟨_, _, _, B8J⟩, ⟨_, A2B⟩, rfl⟩
instance : TS 107 (.slice none 0 0) := ⟨_, _, B2E, rfl⟩
instance : SL 107 113 2 32 (.agg #[(.slice none 0 0), (.int .i64 0)]) := ⟨⟨_, _, _, B2E⟩, ⟨_, B4e⟩, rfl⟩
instance : TS 116 .nilFunc := ⟨_, _, B8c, rfl⟩
instance : TG 117 4 (.agg #[.nilFunc, .nilFunc, .nilFunc, .nilFunc]) := ⟨_, _, B8q, rfl⟩
instance : TG 119 4 (.agg #[(.string (ByteArray.mk #[])), (.int .i64 0), (.bool false), (.int .i64 0)]) := ⟨_, _, A7g, rfl⟩
instance : TS 136 (.slice none 0 0) := ⟨_, _, B8V, rfl⟩
instance : TG 140 2 (.agg #[(.int .i64 0), (.int .i64 0)]) := ⟨_, _, B1E, rfl⟩
instance : SL 146 199 2 16 (.agg #[(.int .u64 0), (.int .i64 0)]) := ⟨⟨_, _, _, B1q⟩, ⟨_, A29⟩, rfl⟩
instance : TS 152 .nilFunc := ⟨_, _, C6x, rfl⟩
instance : TG 161 3 (.agg #[(.int .i64 0), (.int .i64 0), (.int .i64 0)]) := ⟨_, _, A67, rfl⟩
instance : TG 164 3 (.agg #[(.string (ByteArray.mk #[])), (.string (ByteArray.mk #[])), (.int .i64 0)]) := ⟨_, _, A9L, rfl⟩
instance : TG 166 3 (.agg #[(.string (ByteArray.mk #[])), (.string (ByteArray.mk #[])), (.int .i64 0)]) := ⟨_, _, A9V, rfl⟩
instance : TS 178 .nilFunc := ⟨_, _, C60, rfl⟩
instance : SL 185 140 2 16 (.agg #[(.int .i64 0), (.int .i64 0)]) := ⟨⟨_, _, _, B7s⟩, ⟨_, B1E⟩, rfl⟩
instance : TS 188 (.slice none 0 0) := ⟨_, _, B8Y, rfl⟩
instance : TS 190 (.slice none 0 0) := ⟨_, _, B4d, rfl⟩
instance : SL 190 193 2 16 (.agg #[(.int .u64 0), (.int .i64 0)]) := ⟨⟨_, _, _, B4d⟩, ⟨_, A69⟩, rfl⟩
instance : TG 193 2 (.agg #[(.int .u64 0), (.int .i64 0)]) := ⟨_, _, A69, rfl⟩
instance : TG 199 2 (.agg #[(.int .u64 0), (.int .i64 0)]) := ⟨_, _, A29, rfl⟩
instance : TS 200 .nilFunc := ⟨_, _, C7D, rfl⟩
instance : TS 202 (.int .u64 0) := ⟨_, _, C29, rfl⟩
instance : TS 217 (.pointer none) := ⟨_, _, B4Y, rfl⟩
instance : TS 218 (.slice none 0 0) := ⟨_, _, A3B, rfl⟩
instance : SL 218 5 1 1 (.int .u8 0) := ⟨⟨_, _, _, A3B⟩, ⟨_, ty5⟩, rfl⟩
instance : TG 222 2 (.agg #[(.pointer none), (.slice none 0 0)]) := ⟨_, _, C3D, rfl⟩
instance : TG 237 38 (.agg #[(.int .u8 0), (.int .u8 0), (.int .u8 0), (.int .u8 0), (.int .u8 0), (.int .u8 0), (.int .u8 0), (.int .u8 0), (.int .u8 0), (.int .u8 0), (.int .u8 0), (.int .u8 0), (.int .u8 0), (.int .u8 0), (.int .u8 0), (.int .u8 0), (.int .u8 0), (.int .u8 0), (.int .u8 0), (.int .u8 0), (.int .u8 0), (.int .u8 0), (.int .u8 0), (.int .u8 0), (.int .u8 0), (.int .u8 0), (.int .u8 0), (.int .u8 0), (.int .u8 0), (.int .u8 0), (.int .u8 0), (.int .u8 0), (.int .u8 0), (.int .u8 0), (.int .u8 0), (.int .u8 0), (.int .u8 0), (.int .u8 0)]) := ⟨_, _, B8Z, rfl⟩
instance : TG 240 5 (.agg #[(.string (ByteArray.mk #[])), (.string (ByteArray.mk #[])), (.string (ByteArray.mk #[])), (.int .i64 0), (.int .i64 0)]) := ⟨_, _, A5D, rfl⟩
instance : TG 242 3 (.agg #[(.int .i64 0), (.int .i64 0), (.int .i64 0)]) := ⟨_, _, A9c, rfl⟩
instance : TG 280 3 (.agg #[(.string (ByteArray.mk #[])), (.string (ByteArray.mk #[])), (.int .i64 0)]) := ⟨_, _, A9S, rfl⟩
instance : TG 283 3 (.agg #[(.string (ByteArray.mk #[])), (.string (ByteArray.mk #[])), (.int .i64 0)]) := ⟨_, _, A9T, rfl⟩
instance : TG 300 2 (.agg #[.nilFunc, (.int .i64 0)]) := ⟨_, _, A9P, rfl⟩
instance : SL 314 300 2 16 (.agg #[.nilFunc, (.int .i64 0)]) := ⟨⟨_, _, _, B8f⟩, ⟨_, A9P⟩, rfl⟩
@[simp] theorem C7A (a : Option Addr) (x y : Operand) (K : Value → WP) : A6 PR (N2 .eql 217 x y (.pointer a) (.pointer none)) K = K (.bool a.isNone) := funext fun w => B8M a x y K w
@[simp] theorem C8G (a : Option Addr) (x y : Operand) (K : Value → WP) : A6 PR (N2 .eql 27 x y (.pointer a) (.pointer none)) K = K (.bool a.isNone) := funext fun w => B9G a x y K w
@[simp] theorem D0D (a0 b0 : Int) (a1 b1 : Int) (a2 b2 : Bool) (a3 b3 : Int) (x y : Operand) (K : Value → WP) : A6 PR (N2 .eql 39 x y (.agg #[.int .i64 a0, .int .i64 a1, .bool a2, .int .i64 a3]) (.agg #[.int .i64 b0, .int .i64 b1, .bool b2, .int .i64 b3])) K = K (.bool (decide (a0 = b0) && (decide (a1 = b1) && ((a2 == b2) && (decide (a3 = b3) && true))))) := funext fun w => C1w a0 b0 a1 b1 a2 b2 a3 b3 x y K w
@[simp] theorem C74 (a0 b0 : Int) (a1 b1 : Int) (x y : Operand) (K : Value → WP) : A6 PR (N2 .neq 103 x y (.agg #[.int .i64 a0, .int .i64 a1]) (.agg #[.int .i64 b0, .int .i64 b1])) K = K (.bool !(decide (a0 = b0) && (decide (a1 = b1) && true))) := funext fun w => B9u a0 b0 a1 b1 x y K w
@[simp] theorem C98 (a0 b0 : Int) (a1 b1 : Int) (a2 b2 : Bool) (a3 b3 : Int) (x y : Operand) (K : Value → WP) : A6 PR (N2 .neq 39 x y (.agg #[.int .i64 a0, .int .i64 a1, .bool a2, .int .i64 a3]) (.agg #[.int .i64 b0, .int .i64 b1, .bool b2, .int .i64 b3])) K = K (.bool !(decide (a0 = b0) && (decide (a1 = b1) && ((a2 == b2) && (decide (a3 = b3) && true))))) := funext fun w => C1W a0 b0 a1 b1 a2 b2 a3 b3 x y K w
@[simp] theorem C9e (a0 b0 : Int) (a1 b1 : ByteArray) (a2 b2 : Int) (a3 b3 : Int) (x y : Operand) (K : Value → WP) : A6 PR (N2 .neq 71 x y (.agg #[.int .i64 a0, .string a1, .int .i64 a2, .int .i64 a3]) (.agg #[.int .i64 b0, .string b1, .int .i64 b2, .int .i64 b3])) K = K (.bool !(decide (a0 = b0) && ((a1 == b1) && (decide (a2 = b2) && (decide (a3 = b3) && true))))) := funext fun w => C2e a0 b0 a1 b1 a2 b2 a3 b3 x y K w
end Go.Proofs.YtggakcpabomliaaGreat
namespace Go.Proofs.YtggakcpabomliaaGreat
open Go
def B25 (n i : Nat) : List Value := [.int .i64 (i : Int), .int .u64 (8 * ((n : Int) - 1 - i))]
abbrev B9m (b : Nat) : Value := .func (.func 203) #[] #[.pointer (some ⟨b, 0, none⟩)]
theorem B5G (w : World) (n : Int) : Fn PR B5 184 #[.int .i64 n] w (Rn [] w (fun b v => v = B9m b) fun b => [.pt b (.cells #[.int .i64 n] 3)]) := by
 refine B2S (TW.go (κ := false) (S := []) ?_)
 unfold A6v
 (have hQq := trivial; repeat ((first | clear hQq | (with_reducible first | refine A3 ?_ | refine A4 fun _ => ?_ | refine A5 fun _ => ?_)); (try simp (disch := first | omega | assumption | ((repeat (first | exact A0 | exact Up.here | apply A1 | apply Up.there)); first | done | fail) | (simp; first | done | omega | fail)) [])))
 rename_i b
 exact g6 b rfl (by simp)
theorem B4q (b : Nat) {n : Nat} (hn : n ≤ 8) : A5B (B9m b) [.pt b (.cells #[.int .i64 (n : Int)] 3)] (fun _ _ => True) ((List.range n).map (B25 n)) := by
 refine ⟨_, _, _, rfl, fun l J E hJ hE stJ stE hy w0 h0 => ?_⟩
 refine A9q (A9j (TW.at (κ := true) ?_ (hJ _ _ _ h0).1))
 unfold A2x
 (have hQq := trivial; repeat ((first | clear hQq | (with_reducible first | refine A3 ?_ | refine A4 fun _ => ?_ | refine A5 fun _ => ?_)); (try simp (disch := first | omega | assumption | ((repeat (first | exact A0 | exact Up.here | apply A1 | apply Up.there)); first | done | fail) | (simp; first | done | omega | fail)) [])))
 refine A3k n (fun i => i) (fun _ => _) hJ stJ h0 fun i a hi hJi _ L hL => ?_
 by_cases hlt : i < n
 ·(have hQq := trivial; repeat ((first | clear hQq | (with_reducible first | refine A3 ?_ | refine A4 fun _ => ?_ | refine A5 fun _ => ?_)); (try simp (disch := first | omega | assumption | ((repeat (first | exact A0 | exact Up.here | apply A1 | apply Up.there)); first | done | fail) | (simp; first | done | omega | fail)) [hlt])))
  refine A7C hJ hE stJ hy hJi (by simpa using hlt) (by simp [B25]) (fun w3 h => ?_) (fun w3 h => ?_)
  ·(have hQq := trivial; repeat ((first | clear hQq | (with_reducible first | refine A3 ?_ | refine A4 fun _ => ?_ | refine A5 fun _ => ?_)); (try simp (disch := first | omega | assumption | ((repeat (first | exact A0 | exact Up.here | apply A1 | apply Up.there)); first | done | fail) | (simp; first | done | omega | fail)) [])))
   exact fun w' hw' => hL hlt w' (stJ _ _ _ _ _ h hw')
  ·(have hQq := trivial; repeat ((first | clear hQq | (with_reducible first | refine A3 ?_ | refine A4 fun _ => ?_ | refine A5 fun _ => ?_)); (try simp (disch := first | omega | assumption | ((repeat (first | exact A0 | exact Up.here | apply A1 | apply Up.there)); first | done | fail) | (simp; first | done | omega | fail)) [])))
   exact A3l stE h
 ·obtain rfl : i = n := by omega
  (have hQq := trivial; repeat ((first | clear hQq | (with_reducible first | refine A3 ?_ | refine A4 fun _ => ?_ | refine A5 fun _ => ?_)); (try simp (disch := first | omega | assumption | ((repeat (first | exact A0 | exact Up.here | apply A1 | apply Up.there)); first | done | fail) | (simp; first | done | omega | fail)) [])))
  exact A3s stJ (by simpa using hJi)
def C4 (s : ByteArray) (i : Nat) : Nat := (s.data.getD i 0).toNat
def V4 (s : ByteArray) (a : Nat) : Nat → Nat
 | 0 => 0
 | i + 1 => V4 s a i * 256 + C4 s (a + i)
theorem L9 (s : ByteArray) (i : Nat) : C4 s i < 256 := (s.data.getD i 0).toNat_lt
theorem A31 (s : ByteArray) (a i : Nat) : V4 s a i < 256 ^ i := by
 induction i with
 | zero => simp [V4]
 | succ i ih =>
  have := L9 s (a + i)
  simp only [V4, Nat.pow_succ]
  omega
theorem m4 {s : ByteArray} {i : Nat} (h : i < s.size) : ∃ b : UInt8, s[i]? = some b ∧ b.toNat = C4 s i := by
 refine ⟨s[i], by simp [h], ?_⟩
 have h' : i < s.data.size := h
 have e : s.data.getD i 0 = s[i] := by rw [Array.getD_eq_getD_getElem?, Array.getElem?_eq_getElem h']; rfl
 rw [C4, e]
def l3 (s : ByteArray) (a n : Int) : Bool := decide (1 ≤ n ∧ n ≤ 8 ∧ 0 ≤ a ∧ a ≤ s.size - n)
def A1p (s : ByteArray) (a n : Int) : Int := if l3 s a n = true then (V4 s a.toNat n.toNat : Nat) else 0
theorem A2c (w : World) (s : ByteArray) (hs : s.size < 2 ^ 62) (a n : Int) :
  Fn PR B5 192 #[.string s, .int .i64 a, .int .i64 n] w (fun v w' => v = .tuple #[.int .u64 (A1p s a n), .bool (l3 s a n)] ∧ C0 [] w w') := by
 refine Fn.pure (B5v (TW.go (κ := false) (S := []) ?_))
 unfold A8f
 by_cases hok : l3 s a n = true
 case neg =>
  have hv : A1p s a n = 0 := if_neg hok
  have hok' : l3 s a n = false := by simpa using hok
  rw [hv, hok']
  have hc : n < 1 ∨ 8 < n ∨ a < 0 ∨ (s.size : Int) - n < a := by
   simp only [l3, decide_eq_true_eq] at hok; omega
  by_cases h1 : n < 1
  ·(have hQq := trivial; repeat ((first | clear hQq | (with_reducible first | refine A3 ?_ | refine A4 fun _ => ?_ | refine A5 fun _ => ?_)); (try simp (disch := first | omega | assumption | ((repeat (first | exact A0 | exact Up.here | apply A1 | apply Up.there)); first | done | fail) | (simp; first | done | omega | fail)) [h1]))); exact A9 rfl
  by_cases h2 : 8 < n
  ·(have hQq := trivial; repeat ((first | clear hQq | (with_reducible first | refine A3 ?_ | refine A4 fun _ => ?_ | refine A5 fun _ => ?_)); (try simp (disch := first | omega | assumption | ((repeat (first | exact A0 | exact Up.here | apply A1 | apply Up.there)); first | done | fail) | (simp; first | done | omega | fail)) [h1, h2]))); exact A9 rfl
  by_cases h3 : a < 0
  ·(have hQq := trivial; repeat ((first | clear hQq | (with_reducible first | refine A3 ?_ | refine A4 fun _ => ?_ | refine A5 fun _ => ?_)); (try simp (disch := first | omega | assumption | ((repeat (first | exact A0 | exact Up.here | apply A1 | apply Up.there)); first | done | fail) | (simp; first | done | omega | fail)) [h1, h2, h3]))); exact A9 rfl
  have h4 : (s.size : Int) - n < a := by omega
  (have hQq := trivial; repeat ((first | clear hQq | (with_reducible first | refine A3 ?_ | refine A4 fun _ => ?_ | refine A5 fun _ => ?_)); (try simp (disch := first | omega | assumption | ((repeat (first | exact A0 | exact Up.here | apply A1 | apply Up.there)); first | done | fail) | (simp; first | done | omega | fail)) [h1, h2, h3, h4]))); exact A9 rfl
 have hv : A1p s a n = (V4 s a.toNat n.toNat : Nat) := if_pos hok
 rw [hv, hok]
 simp only [l3, decide_eq_true_eq] at hok
 obtain ⟨m, rfl⟩ : ∃ m : Nat, n = m := ⟨n.toNat, by omega⟩
 obtain ⟨k, rfl⟩ : ∃ k : Nat, a = k := ⟨a.toNat, by omega⟩
 have h1 : ¬ (m : Int) < 1 := by omega
 have h2 : ¬ 8 < (m : Int) := by omega
 have h4 : ¬ (s.size : Int) - m < k := by omega
 have h5 : ¬ (k : Int) < 0 := by omega
 (have hQq := trivial; repeat ((first | clear hQq | (with_reducible first | refine A3 ?_ | refine A4 fun _ => ?_ | refine A5 fun _ => ?_)); (try simp (disch := first | omega | assumption | ((repeat (first | exact A0 | exact Up.here | apply A1 | apply Up.there)); first | done | fail) | (simp; first | done | omega | fail)) [h1, h2, h4, h5])))
 rename_i bs ba bv
 refine F8 A47 (fun w' _ => B5G w' m) ?_
 rintro b v rfl
 refine A3A (B4q b (n := m) (by omega)) (by simp [B25]) (fun _ (_ : Unit) => True) (fun i _ => [.pt bv (.cells #[.int .u64 ((V4 s k i * 256 ^ (m - i) : Nat) : Int)] 68), .pt ba (.cells #[.int .i64 (k : Int)] 3), .pt bs (.cells #[.string s] 9)])
  (fun _ (_ : Unit) => False) (fun _ => []) () trivial ?_ ?_ ?_ ?_ (by simp [V4])
 ·intros; trivial
 ·rintro i hi _ F _ K' hK _
  have hi' : i < m := by simpa using hi
  obtain ⟨by0, hb0, hb1⟩ := m4 (s := s) (i := k + i) (by omega)
  have hidx : ((k : Int) + i).toNat = k + i := by omega
  have hbl := L9 s (k + i)
  rw [← hidx] at hb0
  have hsh : (0 : Int) ≤ 8 * ((m : Int) - 1 - i) := by omega
  simp only [List.getElem_map, List.getElem_range, B25, VF.app]
  (have hQq := trivial; repeat ((first | clear hQq | (with_reducible first | refine A3 ?_ | refine A4 fun _ => ?_ | refine A5 fun _ => ?_)); (try simp (disch := first | omega | assumption | ((repeat (first | exact A0 | exact Up.here | apply A1 | apply Up.there)); first | done | fail) | (simp; first | done | omega | fail)) [Y0])))
  refine TW.eqH ?_ (hK () trivial)
  have hlt : (V4 s k i * 256 + C4 s (k + i)) * 256 ^ (m - 1 - i) < 2 ^ 64 := by
   have hA : V4 s k (i + 1) < 256 ^ (i + 1) := A31 s k (i + 1)
   have h8 : 256 ^ (i + 1) * 256 ^ (m - 1 - i) ≤ 2 ^ 64 := by
    rw [← Nat.pow_add, show (2 : Nat) ^ 64 = 256 ^ 8 from rfl]
    exact Nat.pow_le_pow_right (by omega) (by omega)
   exact Nat.lt_of_lt_of_le (Nat.mul_lt_mul_of_pos_right hA (Nat.pow_pos (by omega))) h8
  have hval := C4m hbl hlt (by omega)
  rw [show m - (i + 1) = m - 1 - i from by omega]
  simp [V4, ← hval]
  rw [hb1, show (8 * ((m : Int) - 1 - i)).toNat = 8 * (m - 1 - i) from by omega, show m - i = m - 1 - i + 1 from by omega]
 ·rintro _ _
  (have hQq := trivial; repeat ((first | clear hQq | (with_reducible first | refine A3 ?_ | refine A4 fun _ => ?_ | refine A5 fun _ => ?_)); (try simp (disch := first | omega | assumption | ((repeat (first | exact A0 | exact Up.here | apply A1 | apply Up.there)); first | done | fail) | (simp; first | done | omega | fail)) [])))
  exact A9 (by simp)
 ·rintro _ _ h; exact h.elim
def A4s (v : Int) (n i : Nat) : Int := IntKind.u8.wrap (v.fdiv (2 ^ min (8 * ((n : Int) - 1 - i)).toNat IntKind.u64.bits))
def n7 (v : Int) (n i : Nat) : List Int := (List.range n).map fun j => if j < i then A4s v n j else 0
def E4 (v n : Int) : ByteArray := if 1 ≤ n ∧ n ≤ 8 then S3 (n7 v n.toNat n.toNat) else ByteArray.mk #[]
theorem C2E (v : Int) {n i : Nat} (h : i < n) : (n7 v n i).set i (A4s v n i) = n7 v n (i + 1) := by
 apply List.ext_getElem (by simp [n7])
 intro j h1 h2
 simp only [n7, List.length_set, List.length_map, List.length_range] at h1
 rw [List.getElem_set]
 simp only [n7, List.getElem_map, List.getElem_range]
 by_cases hij : i = j
 ·subst hij; simp
 ·by_cases hj : j < i
  ·simp [hij, hj, Nat.lt_succ_of_lt hj]
  ·have : ¬ j < i + 1 := by omega
   simp [hij, hj, this]
def A5q (v : Int) (n i : Nat) : Array Value := ((n7 v n i).map (Value.int .u8)).toArray
theorem C08 (v : Int) {m : Nat} (h : m ≤ 8) : Builtin.zeroCells (Value.int .u8 0).cells m = A5q v m 0 := by
 have : m = 0 ∨ m = 1 ∨ m = 2 ∨ m = 3 ∨ m = 4 ∨ m = 5 ∨ m = 6 ∨ m = 7 ∨ m = 8 := by omega
 rcases this with rfl | rfl | rfl | rfl | rfl | rfl | rfl | rfl | rfl <;>
  (apply Array.ext'; simp [Builtin.zeroCells, A5q, n7, List.range, List.range.loop])
@[simp] theorem C0A {v n : Int} (h1 : 1 ≤ n) (h2 : n ≤ 8) : (E4 v n).size = n.toNat := by simp [E4, h1, h2, n7]
theorem Z0 (w : World) (v n : Int) :
  Fn PR B5 151 #[.int .u64 v, .int .i64 n] w (fun u w' => u = .string (E4 v n) ∧ C0 [] w w') := by
 refine Fn.pure (B5C (TW.go (κ := false) (S := []) ?_))
 unfold A80
 by_cases hok : 1 ≤ n ∧ n ≤ 8
 case neg =>
  have hv : E4 v n = ByteArray.mk #[] := if_neg hok
  rw [hv]
  by_cases h1 : n < 1
  ·(have hQq := trivial; repeat ((first | clear hQq | (with_reducible first | refine A3 ?_ | refine A4 fun _ => ?_ | refine A5 fun _ => ?_)); (try simp (disch := first | omega | assumption | ((repeat (first | exact A0 | exact Up.here | apply A1 | apply Up.there)); first | done | fail) | (simp; first | done | omega | fail)) [h1]))); exact A9 rfl
  ·have h2 : 8 < n := by omega
   (have hQq := trivial; repeat ((first | clear hQq | (with_reducible first | refine A3 ?_ | refine A4 fun _ => ?_ | refine A5 fun _ => ?_)); (try simp (disch := first | omega | assumption | ((repeat (first | exact A0 | exact Up.here | apply A1 | apply Up.there)); first | done | fail) | (simp; first | done | omega | fail)) [h1, h2]))); exact A9 rfl
 have hv : E4 v n = S3 (n7 v n.toNat n.toNat) := if_pos hok
 rw [hv]
 obtain ⟨m, rfl⟩ : ∃ m : Nat, n = m := ⟨n.toNat, by omega⟩
 have h1 : ¬ (m : Int) < 1 := by omega
 have h2 : ¬ 8 < (m : Int) := by omega
 (have hQq := trivial; repeat ((first | clear hQq | (with_reducible first | refine A3 ?_ | refine A4 fun _ => ?_ | refine A5 fun _ => ?_)); (try simp (disch := first | omega | assumption | ((repeat (first | exact A0 | exact Up.here | apply A1 | apply Up.there)); first | done | fail) | (simp; first | done | omega | fail)) [h1, h2])))
 refine B2M (by omega) (by omega) (by omega) (by omega) fun bs => ?_
 rw [Int.toNat_natCast, C08 v (by omega)]
 (have hQq := trivial; repeat ((first | clear hQq | (with_reducible first | refine A3 ?_ | refine A4 fun _ => ?_ | refine A5 fun _ => ?_)); (try simp (disch := first | omega | assumption | ((repeat (first | exact A0 | exact Up.here | apply A1 | apply Up.there)); first | done | fail) | (simp; first | done | omega | fail)) [h1, h2])))
 rename_i bv bb
 refine F8 A47 (fun w' _ => B5G w' m) ?_
 rintro b v rfl
 refine A3A (B4q b (n := m) (by omega)) (by simp [B25]) (fun _ (_ : Unit) => True) (fun i _ => [.pt bb (.cells #[.slice (some ⟨bs, 0, none⟩) m m] 218),
   .own 5 1 (.slice (some ⟨bs, 0, none⟩) m m) m (A5q v m i).toList, .pt bv (.cells #[.int .u64 v] 68)])
  (fun _ (_ : Unit) => False) (fun _ => []) () trivial ?_ ?_ ?_ ?_ (by simp)
 ·intros; trivial
 ·rintro i hi _ F _ K' hK _
  have hi' : i < m := by simpa using hi
  have hsh : (0 : Int) ≤ 8 * ((m : Int) - 1 - i) := by omega
  simp only [List.getElem_map, List.getElem_range, B25, VF.app]
  (have hQq := trivial; repeat ((first | clear hQq | (with_reducible first | refine A3 ?_ | refine A4 fun _ => ?_ | refine A5 fun _ => ?_)); (try simp (disch := first | omega | assumption | ((repeat (first | exact A0 | exact Up.here | apply A1 | apply Up.there)); first | done | fail) | (simp; first | done | omega | fail)) [])))
  refine f8 (by ((repeat (first | exact A0 | exact Up.here | exact Sel.here | apply A1 | apply Up.there | apply Sel.there)); first | done | fail)) (by simp) (by simp [A5q, n7]; omega) (by simp) ?_
  refine TW.eqH ?_ (hK () trivial)
  have e : A0J (A5q v m i).toList i [.int .u8 (A4s v m i)] = (A5q v m (i + 1)).toList := by
   rw [B5N (by simp [A5q, n7]; omega)]; simp [A5q, ← C2E v hi', List.map_set]
  rw [← e]; simp [A4s]
 ·rintro _ _
  (have hQq := trivial; repeat ((first | clear hQq | (with_reducible first | refine A3 ?_ | refine A4 fun _ => ?_ | refine A5 fun _ => ?_)); (try simp (disch := first | omega | assumption | ((repeat (first | exact A0 | exact Up.here | apply A1 | apply Up.there)); first | done | fail) | (simp; first | done | omega | fail)) [])))
  have hlen : (n7 v m m).length = m := by simp [n7]
  have := fun w' K (hr : M4 w' bs 0 ((n7 v m m).map (Value.int .u8))) => @B0A K w' bs 0 m _ hr
  rw [hlen] at this
  rw [C7k fun w' hw' => this w' _ (by simpa [A5q] using hw'.ownr (e := 5) (k := 1) (q := m) (c := m) (xs := (A5q v m m).toList) (by ((repeat (first | exact A0 | exact Up.here | exact Sel.here | apply A1 | apply Up.there | apply Sel.there)); first | done | fail)))]
  simp only [C6y]
  exact A9 rfl
 ·rintro _ _ h; exact h.elim
end Go.Proofs.YtggakcpabomliaaGreat
