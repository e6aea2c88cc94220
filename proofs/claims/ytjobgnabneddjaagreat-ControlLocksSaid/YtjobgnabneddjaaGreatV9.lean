/- The proof of a given statement, a part of it (ShStd ShOctet Ins Tc Tn Oct). No condition but what each lemma says. -/
import Derived.Test.YtjobgnabneddjaaGreatV8
set_option linter.unusedVariables false
set_option linter.unusedSimpArgs false
namespace Go.Proofs.YtjobgnabneddjaaGreat
open Go
def N9 (X : Nat → Prop) (t0 : Value) (R : Value → WP) : WP :=
 jn (n := 1) (fun t2 =>
 B7 PR X (Instr.buildSlice 84 0 #[]) fun t5 =>
 B7 PR X (A8 .append #[84, 84] 84 [t5, t0]) fun t7 =>
 R t7) fun J1 =>
 A6 PR (F3 .eql 84 (.tmp 3) (.const (.slice none 0 0)) t0 (.slice none 0 0)) fun t4 =>
 C2 t4 (
 R (.slice none 0 0)) (
 J1 (.slice none 0 0))
theorem Y8 : A9 PR 122 := A7 Tryz.func122 (by kernel_rfl) rfl
theorem a7 {X : Nat → Prop} {t0 : Value} {R : Value → WP} {w : World} (h : N9 X t0 R w) : Fn PR X 122 #[t0] w R := C9 (args := [t0]) mixed Tryz.func122 (by kernel_rfl) h
def M0 (X : Nat → Prop) (t0 : Value) (R : Value → WP) : WP :=
 jn (n := 1) (fun t2 =>
 B7 PR X (Instr.buildSlice 58 0 #[]) fun t5 =>
 B7 PR X (A8 .append #[58, 58] 58 [t5, t0]) fun t7 =>
 R t7) fun J1 =>
 A6 PR (F3 .eql 58 (.tmp 3) (.const (.slice none 0 0)) t0 (.slice none 0 0)) fun t4 =>
 C2 t4 (
 R (.slice none 0 0)) (
 J1 (.slice none 0 0))
theorem W4 : A9 PR 123 := A7 Tryz.func123 (by kernel_rfl) rfl
theorem W7 {X : Nat → Prop} {t0 : Value} {R : Value → WP} {w : World} (h : M0 X t0 R w) : Fn PR X 123 #[t0] w R := C9 (args := [t0]) mixed Tryz.func123 (by kernel_rfl) h
def P5 (X : Nat → Prop) (t0 t1 : Value) (R : Value → WP) : WP :=
 B6 PR X 201 [t0, t1] fun t7 =>
 A0 PR (binOp .geq 3 t7 (.int .i64 0)) fun t8 =>
 R t8
theorem Z8 : A9 PR 148 := A7 Tryz.func148 (by kernel_rfl) rfl
theorem e8 {X : Nat → Prop} {t0 t1 : Value} {R : Value → WP} {w : World} (h : P5 X t0 t1 R w) : Fn PR X 148 #[t0, t1] w R := C9 (args := [t0, t1]) mixed Tryz.func148 (by kernel_rfl) h
def Q2 (X : Nat → Prop) (t0 t1 : Value) (R : Value → WP) : WP :=
 B6 PR X 212 [t0] fun t7 =>
 B6 PR X 213 [t7, t1] fun t10 =>
 R t7
theorem e6 : A9 PR 160 := A7 Tryz.func160 (by kernel_rfl) rfl
theorem f9 {X : Nat → Prop} {t0 t1 : Value} {R : Value → WP} {w : World} (h : Q2 X t0 t1 R w) : Fn PR X 160 #[t0, t1] w R := C9 (args := [t0, t1]) mixed Tryz.func160 (by kernel_rfl) h
def Y5 (X : Nat → Prop) (t0 t1 : Value) (R : Value → WP) : WP :=
 A0 PR (B1 t0) fun t6 =>
 A0 PR (Instr.fieldAt 137 t6 2) fun t7 =>
 B6 PR X 234 [t7, t1] fun t9 =>
 R t9
theorem A02 : A9 PR 178 := A7 Tryz.func178 (by kernel_rfl) rfl
theorem A1W {X : Nat → Prop} {t0 t1 : Value} {R : Value → WP} {w : World} (h : Y5 X t0 t1 R w) : Fn PR X 178 #[t0, t1] w R := C9 (args := [t0, t1]) mixed Tryz.func178 (by kernel_rfl) h
def S0 (X : Nat → Prop) (t0 t1 : Value) (R : Value → WP) : WP :=
 jn (n := 2) (fun t4 t8 =>
 R (.int .i64 (-1))) fun J1 =>
 A0 PR (A8 .len #[259] 0 [t0]) fun t7 =>
 lp (n := 2) (fun L2 t4_1 t8_1 =>
 A0 PR (binOp .lss 3 t8_1 t7) fun t9 =>
 jn (n := 0) (
 jn (n := 1) (fun t4_2 =>
 A0 PR (binOp .add 3 t8_1 (.int .i64 1)) fun t18 =>
 L2 t4_2 t18) fun J3 =>
 A0 PR (Instr.indexAt 259 t0 t8_1) fun t14 =>
 A6 PR (Instr.loadAt 158 t14) fun t15 =>
 W9 PR X t1 [t15] fun t16 =>
 C2 t16 (
 R t8_1) (
 J3 t4_1)) fun J4 =>
 C2 t9 (
 J4) (
 J1 t4_1 t8_1)) (.int .i64 0) (.int .i64 0)
theorem m0 : A9 PR 201 := A7 Tryz.func201 (by kernel_rfl) rfl
theorem q9 {X : Nat → Prop} {t0 t1 : Value} {R : Value → WP} {w : World} (h : S0 X t0 t1 R w) : Fn PR X 201 #[t0, t1] w R := C9 (args := [t0, t1]) mixed Tryz.func201 (by kernel_rfl) h
def T7 (X : Nat → Prop) (t0 : Value) (R : Value → WP) : WP :=
 B6 PR X 248 [(.slice none 0 0), t0] fun t4 =>
 R t4
theorem r5 : A9 PR 212 := A7 Tryz.func212 (by kernel_rfl) rfl
theorem u0 {X : Nat → Prop} {t0 : Value} {R : Value → WP} {w : World} (h : T7 X t0 R w) : Fn PR X 212 #[t0] w R := C9 (args := [t0]) mixed Tryz.func212 (by kernel_rfl) h
theorem T3 : A9 PR 213 := A7 Tryz.func213 (by kernel_rfl) rfl
def A4C (X : Nat → Prop) (t0 : Value) (R : Value → WP) : WP :=
 jn (n := 2) (fun t2 t8 =>
 R (.int .i64 0)) fun J1 =>
 A0 PR (A8 .len #[37] 0 [t0]) fun t7 =>
 lp (n := 2) (fun L2 t2_1 t8_1 =>
 A0 PR (binOp .lss 3 t8_1 t7) fun t9 =>
 jn (n := 0) (
 jn (n := 1) (fun t2_2 =>
 A0 PR (binOp .add 3 t8_1 (.int .i64 1)) fun t16 =>
 L2 t2_2 t16) fun J3 =>
 A0 PR (Instr.indexAt 37 t0 t8_1) fun t10 =>
 A6 PR (Instr.loadAt 3 t10) fun t11 =>
 A0 PR (binOp .neq 3 t11 (.int .i64 0)) fun t14 =>
 C2 t14 (
 R t11) (
 J3 t2_1)) fun J4 =>
 C2 t9 (
 J4) (
 J1 t2_1 t8_1)) (.int .i64 0) (.int .i64 0)
theorem A75 : A9 PR 216 := A7 Tryz.func216 (by kernel_rfl) rfl
theorem A8u {X : Nat → Prop} {t0 : Value} {R : Value → WP} {w : World} (h : A4C X t0 R w) : Fn PR X 216 #[t0] w R := C9 (args := [t0]) mixed Tryz.func216 (by kernel_rfl) h
theorem A9T {X : Nat → Prop} {t0 : Value} {K : Value → WP} {w : World} (h : Fn PR X 216 #[t0] w K) : B6 PR X 216 [t0] K w := Or.inl ⟨A75, h⟩
def q5 (X : Nat → Prop) (t0 t1 : Value) (R : Value → WP) : WP :=
 B6 PR X 251 [t0] fun t8 =>
 B6 PR X 251 [t1] fun t10 =>
 jn (n := 1) (fun t4 =>
 jn (n := 1) (fun t4_1 =>
 jn (n := 1) (fun t4_2 =>
 jn (n := 1) (fun t4_3 =>
 R (.int .i64 0)) fun J1 =>
 A0 PR (binOp .gtr 89 t0 t1) fun t19 =>
 C2 t19 (
 R (.int .i64 1)) (
 J1 t4_2)) fun J2 =>
 A0 PR (binOp .lss 89 t0 t1) fun t16 =>
 C2 t16 (
 R (.int .i64 (-1))) (
 J2 t4_1)) fun J3 =>
 C2 t10 (
 R (.int .i64 1)) (
 J3 t4)) fun J4 =>
 C2 t8 (
 jn (n := 1) (fun t4_4 =>
 R (.int .i64 (-1))) fun J5 =>
 C2 t10 (
 R (.int .i64 0)) (
 J5 (.int .i64 0))) (
 J4 (.int .i64 0))
theorem A2Z : A9 PR 217 := A7 Tryz.func217 (by kernel_rfl) rfl
theorem A3G {X : Nat → Prop} {t0 t1 : Value} {R : Value → WP} {w : World} (h : q5 X t0 t1 R w) : Fn PR X 217 #[t0, t1] w R := C9 (args := [t0, t1]) mixed Tryz.func217 (by kernel_rfl) h
theorem A3d {X : Nat → Prop} {t0 t1 : Value} {K : Value → WP} {w : World} (h : Fn PR X 217 #[t0, t1] w K) : B6 PR X 217 [t0, t1] K w := Or.inl ⟨A2Z, h⟩
def A0d (X : Nat → Prop) (t0 t1 : Value) (R : Value → WP) : WP :=
 B6 PR X 252 [t0] fun t8 =>
 B6 PR X 252 [t1] fun t10 =>
 jn (n := 1) (fun t4 =>
 jn (n := 1) (fun t4_1 =>
 jn (n := 1) (fun t4_2 =>
 jn (n := 1) (fun t4_3 =>
 R (.int .i64 0)) fun J1 =>
 A0 PR (binOp .gtr 3 t0 t1) fun t19 =>
 C2 t19 (
 R (.int .i64 1)) (
 J1 t4_2)) fun J2 =>
 A0 PR (binOp .lss 3 t0 t1) fun t16 =>
 C2 t16 (
 R (.int .i64 (-1))) (
 J2 t4_1)) fun J3 =>
 C2 t10 (
 R (.int .i64 1)) (
 J3 t4)) fun J4 =>
 C2 t8 (
 jn (n := 1) (fun t4_4 =>
 R (.int .i64 (-1))) fun J5 =>
 C2 t10 (
 R (.int .i64 0)) (
 J5 (.int .i64 0))) (
 J4 (.int .i64 0))
theorem A4U : A9 PR 218 := A7 Tryz.func218 (by kernel_rfl) rfl
theorem A4k {X : Nat → Prop} {t0 t1 : Value} {R : Value → WP} {w : World} (h : A0d X t0 t1 R w) : Fn PR X 218 #[t0, t1] w R := C9 (args := [t0, t1]) mixed Tryz.func218 (by kernel_rfl) h
theorem A5s {X : Nat → Prop} {t0 t1 : Value} {K : Value → WP} {w : World} (h : Fn PR X 218 #[t0, t1] w K) : B6 PR X 218 [t0, t1] K w := Or.inl ⟨A4U, h⟩
def H6 (X : Nat → Prop) (t0 t1 : Value) (R : Value → WP) : WP :=
 B7 PR X (Instr.box 281 t0) fun t2 =>
 jn (n := 0) (
 A6 PR (Instr.loadAt 281 t2) fun t12 =>
 Y6 (R t12)) fun J1 =>
 rng (N := 1) PR X (fun t7 K2 =>
 B7 PR (fun _ => False) (Instr.alloc 284 true (.tuple #[])) fun t5 =>
 C6 PR (fun _ => False) (Instr.storeAt 284 t5 t7) <|
 bgn <|
 A6 PR (Instr.loadAt 281 t2) fun t8 =>
 A6 PR (Instr.loadAt 284 t5) fun t9 =>
 B7 PR (fun _ => False) (Instr.buildSlice 281 1 #[(0, t9)]) fun t10 =>
 B7 PR (fun _ => False) (A8 .append #[281, 281] 281 [t8, t10]) fun t11 =>
 C6 PR (fun _ => False) (Instr.storeAt 281 t2 t11) <|
 K2 none) t1 (fun j => match j with | none => (J1) | some (.exit i) => (match Nat.beq i 0 with | true => (J1) | false => (D9)) | some .ret => (Y6 (R (.slice none 0 0))) | some _ => D9)
theorem S3 : A9 PR 248 := A7 Tryz.func248 (by kernel_rfl) rfl
theorem T2 {X : Nat → Prop} {t0 t1 : Value} {R : Value → WP} {w : World} (h : H6 X t0 t1 R w) : Fn PR X 248 #[t0, t1] w R := C9 (args := [t0, t1]) mixed Tryz.func248 (by kernel_rfl) h
def y7 (X : Nat → Prop) (t0 : Value) (R : Value → WP) : WP :=
 A0 PR (binOp .neq 89 t0 t0) fun t5 =>
 R t5
theorem A3s : A9 PR 251 := A7 Tryz.func251 (by kernel_rfl) rfl
theorem A4S {X : Nat → Prop} {t0 : Value} {R : Value → WP} {w : World} (h : y7 X t0 R w) : Fn PR X 251 #[t0] w R := C9 (args := [t0]) mixed Tryz.func251 (by kernel_rfl) h
theorem A0c {X : Nat → Prop} {t0 : Value} {K : Value → WP} {w : World} (h : Fn PR X 251 #[t0] w K) : B6 PR X 251 [t0] K w := Or.inl ⟨A3s, h⟩
def A1Z (X : Nat → Prop) (t0 : Value) (R : Value → WP) : WP :=
 A0 PR (binOp .neq 3 t0 t0) fun t5 =>
 R t5
theorem A5v : A9 PR 252 := A7 Tryz.func252 (by kernel_rfl) rfl
theorem A6C {X : Nat → Prop} {t0 : Value} {R : Value → WP} {w : World} (h : A1Z X t0 R w) : Fn PR X 252 #[t0] w R := C9 (args := [t0]) mixed Tryz.func252 (by kernel_rfl) h
theorem A1s {X : Nat → Prop} {t0 : Value} {K : Value → WP} {w : World} (h : Fn PR X 252 #[t0] w K) : B6 PR X 252 [t0] K w := Or.inl ⟨A5v, h⟩
end Go.Proofs.YtjobgnabneddjaaGreat
namespace Go.Proofs.YtjobgnabneddjaaGreat
open Go
def A4d (X : Nat → Prop) (t0 t1 : Value) (R : Value → WP) : WP :=
 B7 PR X (Instr.box 89 t0) fun t2 =>
 jn (n := 1) (fun t4 =>
 B7 PR X (Instr.makeSlice 301 t1 t1) fun t15 =>
 B7 PR X (Instr.alloc 301 true (.tuple #[])) fun t5 =>
 C6 PR X (Instr.storeAt 301 t5 t15) <|
 jn (n := 0) (
 A6 PR (Instr.loadAt 301 t5) fun t27 =>
 A6 PR (convert 301 9 t27) fun t28 =>
 Y6 (R t28)) fun J1 =>
 B6 PR X 199 [t1] fun t17 =>
 rng (N := 2) PR X (fun t18 t19 K2 =>
 bgn <|
 A6 PR (Instr.loadAt 301 t5) fun t20 =>
 A6 PR (Instr.loadAt 89 t2) fun t22 =>
 A0 PR (binOp .shr 89 t22 t19) fun t24 =>
 A0 PR (convert 89 5 t24) fun t25 =>
 A0 PR (Instr.indexAt 301 t20 t18) fun t26 =>
 C6 PR (fun _ => False) (Instr.storeAt 5 t26 t25) <|
 K2 none) t17 (fun j => match j with | none => (J1) | some (.exit i) => (match Nat.beq i 0 with | true => (J1) | false => (D9)) | some .ret => (Y6 (R t4)) | some _ => D9)) fun J3 =>
 A0 PR (binOp .lss 3 t1 (.int .i64 1)) fun t9 =>
 gj t9 false (fun J => J t1) fun t11 =>
 gj t9 false (fun J => A0 PR (binOp .gtr 3 t11 (.int .i64 8)) J) fun t12 =>
 A0 PR (do pure (if ← asBool t9 then (.bool true) else t12)) fun t13 =>
 C2 t13 (
 Y6 (R (.string (ByteArray.mk #[])))) (
 J3 (.string (ByteArray.mk #[])))
theorem A0l : A9 PR 176 := A7 Tryz.func176 (by kernel_rfl) rfl
theorem A99 {X : Nat → Prop} {t0 t1 : Value} {R : Value → WP} {w : World} (h : A4d X t0 t1 R w) : Fn PR X 176 #[t0, t1] w R := C9 (args := [t0, t1]) mixed Tryz.func176 (by kernel_rfl) h
def A3H (X : Nat → Prop) (t0 : Value) (R : Value → WP) : WP :=
 B7 PR X (Instr.box 3 t0) fun t1 =>
 A0 PR (Instr.makeFunc (.func 243) #[] #[t1]) fun t3 =>
 R t3
theorem A6y : A9 PR 199 := A7 Tryz.func199 (by kernel_rfl) rfl
theorem A7x {X : Nat → Prop} {t0 : Value} {R : Value → WP} {w : World} (h : A3H X t0 R w) : Fn PR X 199 #[t0] w R := C9 (args := [t0]) mixed Tryz.func199 (by kernel_rfl) h
def A0p (X : Nat → Prop) (t0 t1 : Value) (R : Value → WP) : WP :=
 A6 PR (Instr.loadAt 3 t1) fun t4 =>
 lp (n := 1) (fun L1 t5 =>
 A0 PR (binOp .lss 3 t5 t4) fun t6 =>
 jn (n := 0) (
 jn (n := 0) (
 A0 PR (binOp .add 3 t5 (.int .i64 1)) fun t18 =>
 L1 t18) fun J2 =>
 A6 PR (Instr.loadAt 3 t1) fun t10 =>
 A0 PR (binOp .sub 3 t10 (.int .i64 1)) fun t11 =>
 A0 PR (binOp .sub 3 t11 t5) fun t13 =>
 A0 PR (binOp .mul 3 (.int .i64 8) t13) fun t14 =>
 A0 PR (convert 3 242 t14) fun t15 =>
 W9 PR X t0 [t5, t15] fun t16 =>
 A0 PR (Op.unary .not t16) fun t17 =>
 C2 t17 (
 R (.tuple #[])) (
 J2)) fun J3 =>
 C2 t6 (
 J3) (
 R (.tuple #[]))) (.int .i64 0)
theorem A42 : A9 PR 243 := A7 Tryz.func243 (by kernel_rfl) rfl
theorem A5z {X : Nat → Prop} {t0 t1 : Value} {R : Value → WP} {w : World} (h : A0p X t0 t1 R w) : Fn PR X 243 #[t0, t1] w R := C9 (args := [t0, t1]) mixed Tryz.func243 (by kernel_rfl) h
theorem A5u {X : Nat → Prop} {t0 t1 : Value} {K : Value → WP} {w : World} (h : Fn PR X 243 #[t0, t1] w K) : w6 PR X 243 [t0, t1] K w := ⟨A42, h⟩
end Go.Proofs.YtjobgnabneddjaaGreat
namespace Go.Proofs.YtjobgnabneddjaaGreat
open Go
theorem A32 : TI PR 155 Tryz.t154.desc 2 16 (.agg #[(.int .i64 0), (.int .i64 0)]) := ⟨Tryz.underlying155, Tryz.t155, by kernel_rfl, rfl, rfl, rfl⟩
theorem A2B : TI PR 160 Tryz.t159.desc 6 48 (.agg #[(.int .i64 0), (.int .i64 0), (.int .i64 0), (.int .i64 0), (.bool false), (.int .i64 0)]) := ⟨Tryz.underlying160, Tryz.t160, by kernel_rfl, rfl, rfl, rfl⟩
theorem B5Z : TI PR 195 Tryz.t194.desc 2 48 (.agg #[(.slice none 0 0), (.slice none 0 0)]) := ⟨Tryz.underlying195, Tryz.t195, by kernel_rfl, rfl, rfl, rfl⟩
theorem A2A : TI PR 218 Tryz.t217.desc 4 40 (.agg #[(.int .i64 0), (.string (ByteArray.mk #[])), (.int .i64 0), (.int .i64 0)]) := ⟨Tryz.underlying218, Tryz.t218, by kernel_rfl, rfl, rfl, rfl⟩
theorem A5a : TI PR 263 Tryz.t133.desc 0 0 (.agg #[]) := ⟨Tryz.underlying263, Tryz.t263, by kernel_rfl, rfl, rfl, rfl⟩
theorem B4f : TI PR 27 Tryz.t3.desc 1 8 (.int .i64 0) := ⟨Tryz.underlying27, Tryz.t27, by kernel_rfl, rfl, rfl, rfl⟩
theorem A33 : TI PR 284 Tryz.t283.desc 2 16 (.agg #[(.int .u64 0), (.int .i64 0)]) := ⟨Tryz.underlying284, Tryz.t284, by kernel_rfl, rfl, rfl, rfl⟩
theorem H0 : TI PR 3 Tryz.t3.desc 1 8 (.int .i64 0) := ⟨Tryz.underlying3, Tryz.t3, by kernel_rfl, rfl, rfl, rfl⟩
theorem A9A : TI PR 301 Tryz.t301.desc 1 24 (.slice none 0 0) := ⟨Tryz.underlying301, Tryz.t301, by kernel_rfl, rfl, rfl, rfl⟩
theorem B1u : TI PR 324 Tryz.t84.desc 1 24 (.slice none 0 0) := ⟨Tryz.underlying324, Tryz.t324, by kernel_rfl, rfl, rfl, rfl⟩
theorem B72 : TI PR 326 Tryz.t326.desc 1 8 .nilFunc := ⟨Tryz.underlying326, Tryz.t326, by kernel_rfl, rfl, rfl, rfl⟩
theorem B76 : TI PR 368 Tryz.t368.desc 1 8 .nilFunc := ⟨Tryz.underlying368, Tryz.t368, by kernel_rfl, rfl, rfl, rfl⟩
theorem B5K : TI PR 370 Tryz.t89.desc 1 8 (.int .u64 0) := ⟨Tryz.underlying370, Tryz.t370, by kernel_rfl, rfl, rfl, rfl⟩
theorem A5Q : TI PR 42 Tryz.t41.desc 3 3 (.agg #[(.bool false), (.bool false), (.bool false)]) := ⟨Tryz.underlying42, Tryz.t42, by kernel_rfl, rfl, rfl, rfl⟩
theorem A7l : TI PR 55 Tryz.t54.desc 4 32 (.agg #[(.int .i64 0), (.int .i64 0), (.bool false), (.int .i64 0)]) := ⟨Tryz.underlying55, Tryz.t55, by kernel_rfl, rfl, rfl, rfl⟩
theorem A4s : TI PR 84 Tryz.t84.desc 1 24 (.slice none 0 0) := ⟨Tryz.underlying84, Tryz.t84, by kernel_rfl, rfl, rfl, rfl⟩
theorem A73 : TI PR 89 Tryz.t89.desc 1 8 (.int .u64 0) := ⟨Tryz.underlying89, Tryz.t89, by kernel_rfl, rfl, rfl, rfl⟩
theorem B74 : TI PR 193 Tryz.t193.desc 1 24 (.slice none 0 0) := ⟨Tryz.underlying193, Tryz.t193, by kernel_rfl, rfl, rfl, rfl⟩
theorem B8N : TI PR 290 Tryz.t283.desc 2 16 (.agg #[(.int .u64 0), (.int .i64 0)]) := ⟨Tryz.underlying290, Tryz.t290, by kernel_rfl, rfl, rfl, rfl⟩
theorem A89 : TI PR 281 Tryz.t281.desc 1 24 (.slice none 0 0) := ⟨Tryz.underlying281, Tryz.t281, by kernel_rfl, rfl, rfl, rfl⟩
theorem A9J : TI PR 36 Tryz.t36.desc 1 24 (.slice none 0 0) := ⟨Tryz.underlying36, Tryz.t36, by kernel_rfl, rfl, rfl, rfl⟩
theorem A3M : TI PR 37 Tryz.t37.desc 1 24 (.slice none 0 0) := ⟨Tryz.underlying37, Tryz.t37, by kernel_rfl, rfl, rfl, rfl⟩
theorem ty9 : TI PR 9 Tryz.t9.desc 1 16 (.string (ByteArray.mk #[])) := ⟨Tryz.underlying9, Tryz.t9, by kernel_rfl, rfl, rfl, rfl⟩
theorem A6M : TI PR 58 Tryz.t58.desc 1 24 (.slice none 0 0) := ⟨Tryz.underlying58, Tryz.t58, by kernel_rfl, rfl, rfl, rfl⟩
theorem A87 : TI PR 141 Tryz.t140.desc 3 56 (.agg #[(.int .i64 0), (.slice none 0 0), (.slice none 0 0)]) := ⟨Tryz.underlying141, Tryz.t141, by kernel_rfl, rfl, rfl, rfl⟩
@[simp] theorem B6p {v0 v1 : Value} (h0 : v0.cells.size = 1) (h1 : v1.cells.size = 1) (K : Value → WP) : A0 PR (Instr.build 141 #[(1, v0), (2, v1)]) K = K (.agg (D8 (D8 #[(.int .i64 0), (.slice none 0 0), (.slice none 0 0)] 1 v0.cells.toList) 2 v1.cells.toList)) := E6 (pl := #[(0, 1), (1, 1), (2, 1)]) A87 (fun w => by kernel_rfl) (by rw [C1 rfl h0 (by simp [C7]), C1 rfl h1 (by simp [C7])]; rfl)
@[simp] theorem B7c {v0 v1 : Value} (h0 : v0.cells.size = 1) (h1 : v1.cells.size = 1) (K : Value → WP) : A0 PR (Instr.build 155 #[(0, v0), (1, v1)]) K = K (.agg (D8 (D8 #[(.int .i64 0), (.int .i64 0)] 0 v0.cells.toList) 1 v1.cells.toList)) := E6 (pl := #[(0, 1), (1, 1)]) A32 (fun w => by kernel_rfl) (by rw [C1 rfl h0 (by simp [C7]), C1 rfl h1 (by simp [C7])]; rfl)
theorem A6j : TI PR 158 Tryz.t158.desc 2 16 (.agg #[(.int .i64 0), (.int .i64 0)]) := ⟨Tryz.underlying158, Tryz.t158, by kernel_rfl, rfl, rfl, rfl⟩
@[simp] theorem B73 {v0 : Value} (h0 : v0.cells.size = 1) (K : Value → WP) : A0 PR (Instr.build 160 #[(0, v0)]) K = K (.agg (D8 #[(.int .i64 0), (.int .i64 0), (.int .i64 0), (.int .i64 0), (.bool false), (.int .i64 0)] 0 v0.cells.toList)) := E6 (pl := #[(0, 1), (1, 1), (2, 4)]) A2B (fun w => by kernel_rfl) (by rw [C1 rfl h0 (by simp [C7])]; rfl)
theorem A5Y : TI PR 163 Tryz.t162.desc 10 112 (.agg #[(.int .i64 0), (.int .i64 0), (.int .i64 0), (.int .i64 0), (.bool false), (.int .i64 0), (.slice none 0 0), (.slice none 0 0), (.int .i64 0), (.int .i64 0)]) := ⟨Tryz.underlying163, Tryz.t163, by kernel_rfl, rfl, rfl, rfl⟩
@[simp] theorem B7T {v0 v1 : Value} (h0 : v0.cells.size = 6) (h1 : v1.cells.size = 1) (K : Value → WP) : A0 PR (Instr.build 163 #[(0, v0), (1, v1)]) K = K (.agg (D8 (D8 #[(.int .i64 0), (.int .i64 0), (.int .i64 0), (.int .i64 0), (.bool false), (.int .i64 0), (.slice none 0 0), (.slice none 0 0), (.int .i64 0), (.int .i64 0)] 0 v0.cells.toList) 6 v1.cells.toList)) := E6 (pl := #[(0, 6), (6, 1), (7, 1), (8, 1), (9, 1)]) A5Y (fun w => by kernel_rfl) (by rw [C1 rfl h0 (by simp [C7]), C1 rfl h1 (by simp [C7])]; rfl)
theorem B5L : TI PR 167 Tryz.t166.desc 1 16 (.agg #[.nilIface]) := ⟨Tryz.underlying167, Tryz.t167, by kernel_rfl, rfl, rfl, rfl⟩
@[simp] theorem B89 {v0 : Value} (h0 : v0.cells.size = 1) (K : Value → WP) : A0 PR (Instr.build 167 #[(0, v0)]) K = K (.agg (D8 #[.nilIface] 0 v0.cells.toList)) := E6 (pl := #[(0, 1)]) B5L (fun w => by kernel_rfl) (by rw [C1 rfl h0 (by simp [C7])]; rfl)
theorem A6z : TI PR 170 Tryz.t169.desc 9 88 (.agg #[(.int .i64 0), (.int .i64 0), (.int .i64 0), (.int .i64 0), (.bool false), (.int .i64 0), (.int .i64 0), (.int .i64 0), (.slice none 0 0)]) := ⟨Tryz.underlying170, Tryz.t170, by kernel_rfl, rfl, rfl, rfl⟩
@[simp] theorem B6v {v0 v1 : Value} (h0 : v0.cells.size = 6) (h1 : v1.cells.size = 1) (K : Value → WP) : A0 PR (Instr.build 170 #[(0, v0), (1, v1)]) K = K (.agg (D8 (D8 #[(.int .i64 0), (.int .i64 0), (.int .i64 0), (.int .i64 0), (.bool false), (.int .i64 0), (.int .i64 0), (.int .i64 0), (.slice none 0 0)] 0 v0.cells.toList) 6 v1.cells.toList)) := E6 (pl := #[(0, 6), (6, 1), (7, 1), (8, 1)]) A6z (fun w => by kernel_rfl) (by rw [C1 rfl h0 (by simp [C7]), C1 rfl h1 (by simp [C7])]; rfl)
theorem B5U : TI PR 173 Tryz.t172.desc 6 48 (.agg #[(.int .i64 0), (.int .i64 0), (.int .i64 0), (.int .i64 0), (.bool false), (.int .i64 0)]) := ⟨Tryz.underlying173, Tryz.t173, by kernel_rfl, rfl, rfl, rfl⟩
@[simp] theorem B8n {v0 : Value} (h0 : v0.cells.size = 6) (K : Value → WP) : A0 PR (Instr.build 173 #[(0, v0)]) K = K (.agg (D8 #[(.int .i64 0), (.int .i64 0), (.int .i64 0), (.int .i64 0), (.bool false), (.int .i64 0)] 0 v0.cells.toList)) := E6 (pl := #[(0, 6)]) B5U (fun w => by kernel_rfl) (by rw [C1 rfl h0 (by simp [C7])]; rfl)
@[simp] theorem B6f {v0 v1 : Value} (h0 : v0.cells.size = 1) (h1 : v1.cells.size = 1) (K : Value → WP) : A0 PR (Instr.build 195 #[(0, v0), (1, v1)]) K = K (.agg (D8 (D8 #[(.slice none 0 0), (.slice none 0 0)] 0 v0.cells.toList) 1 v1.cells.toList)) := E6 (pl := #[(0, 1), (1, 1)]) B5Z (fun w => by kernel_rfl) (by rw [C1 rfl h0 (by simp [C7]), C1 rfl h1 (by simp [C7])]; rfl)
theorem A0y : TI PR 200 Tryz.t199.desc 2 16 (.agg #[(.int .i64 0), (.int .i64 0)]) := ⟨Tryz.underlying200, Tryz.t200, by kernel_rfl, rfl, rfl, rfl⟩
@[simp] theorem B9w  (K : Value → WP) : A0 PR (Instr.build 200 #[]) K = K (.agg #[(.int .i64 0), (.int .i64 0)]) := E6 (pl := #[(0, 1), (1, 1)]) A0y (fun w => by kernel_rfl) rfl
@[simp] theorem B7M {v0 v1 : Value} (h0 : v0.cells.size = 1) (h1 : v1.cells.size = 1) (K : Value → WP) : A0 PR (Instr.build 200 #[(0, v0), (1, v1)]) K = K (.agg (D8 (D8 #[(.int .i64 0), (.int .i64 0)] 0 v0.cells.toList) 1 v1.cells.toList)) := E6 (pl := #[(0, 1), (1, 1)]) A0y (fun w => by kernel_rfl) (by rw [C1 rfl h0 (by simp [C7]), C1 rfl h1 (by simp [C7])]; rfl)
@[simp] theorem B9U {v0 : Value} (h0 : v0.cells.size = 1) (K : Value → WP) : A0 PR (Instr.build 200 #[(0, v0)]) K = K (.agg (D8 #[(.int .i64 0), (.int .i64 0)] 0 v0.cells.toList)) := E6 (pl := #[(0, 1), (1, 1)]) A0y (fun w => by kernel_rfl) (by rw [C1 rfl h0 (by simp [C7])]; rfl)
theorem B1y : TI PR 203 Tryz.t202.desc 17 136 (.agg #[(.int .i64 0), (.int .i64 0), (.int .i64 0), (.int .i64 0), (.int .i64 0), (.int .i64 0), (.int .i64 0), (.int .i64 0), (.int .i64 0), (.int .i64 0), (.int .i64 0), (.int .i64 0), (.int .i64 0), (.int .i64 0), (.int .i64 0), (.int .i64 0), (.int .i64 0)]) := ⟨Tryz.underlying203, Tryz.t203, by kernel_rfl, rfl, rfl, rfl⟩
@[simp] theorem B9A {v0 : Value} (h0 : v0.cells.size = 1) (K : Value → WP) : A0 PR (Instr.build 203 #[(1, v0)]) K = K (.agg (D8 #[(.int .i64 0), (.int .i64 0), (.int .i64 0), (.int .i64 0), (.int .i64 0), (.int .i64 0), (.int .i64 0), (.int .i64 0), (.int .i64 0), (.int .i64 0), (.int .i64 0), (.int .i64 0), (.int .i64 0), (.int .i64 0), (.int .i64 0), (.int .i64 0), (.int .i64 0)] 16 v0.cells.toList)) := E6 (pl := #[(0, 16), (16, 1)]) B1y (fun w => by kernel_rfl) (by rw [C1 rfl h0 (by simp [C7])]; rfl)
@[simp] theorem B8Q {v0 : Value} (h0 : v0.cells.size = 1) (K : Value → WP) : A0 PR (Instr.build 218 #[(0, v0)]) K = K (.agg (D8 #[(.int .i64 0), (.string (ByteArray.mk #[])), (.int .i64 0), (.int .i64 0)] 0 v0.cells.toList)) := E6 (pl := #[(0, 1), (1, 1), (2, 1), (3, 1)]) A2A (fun w => by kernel_rfl) (by rw [C1 rfl h0 (by simp [C7])]; rfl)
theorem A2a : TI PR 23 Tryz.t22.desc 5 40 (.agg #[(.int .i64 0), (.int .i64 0), (.int .i64 0), (.int .i64 0), (.int .i64 0)]) := ⟨Tryz.underlying23, Tryz.t23, by kernel_rfl, rfl, rfl, rfl⟩
@[simp] theorem B3Y {v0 v1 v2 v3 v4 : Value} (h0 : v0.cells.size = 1) (h1 : v1.cells.size = 1) (h2 : v2.cells.size = 1) (h3 : v3.cells.size = 1) (h4 : v4.cells.size = 1) (K : Value → WP) : A0 PR (Instr.build 23 #[(0, v0), (1, v1), (2, v2), (3, v3), (4, v4)]) K = K (.agg (D8 (D8 (D8 (D8 (D8 #[(.int .i64 0), (.int .i64 0), (.int .i64 0), (.int .i64 0), (.int .i64 0)] 0 v0.cells.toList) 1 v1.cells.toList) 2 v2.cells.toList) 3 v3.cells.toList) 4 v4.cells.toList)) := E6 (pl := #[(0, 1), (1, 1), (2, 1), (3, 1), (4, 1)]) A2a (fun w => by kernel_rfl) (by rw [C1 rfl h0 (by simp [C7]), C1 rfl h1 (by simp [C7]), C1 rfl h2 (by simp [C7]), C1 rfl h3 (by simp [C7]), C1 rfl h4 (by simp [C7])]; rfl)
theorem B5b : TI PR 231 Tryz.t230.desc 1 24 (.agg #[(.slice none 0 0)]) := ⟨Tryz.underlying231, Tryz.t231, by kernel_rfl, rfl, rfl, rfl⟩
@[simp] theorem B78 {v0 : Value} (h0 : v0.cells.size = 1) (K : Value → WP) : A0 PR (Instr.build 231 #[(0, v0)]) K = K (.agg (D8 #[(.slice none 0 0)] 0 v0.cells.toList)) := E6 (pl := #[(0, 1)]) B5b (fun w => by kernel_rfl) (by rw [C1 rfl h0 (by simp [C7])]; rfl)
@[simp] theorem C0D  (K : Value → WP) : A0 PR (Instr.build 263 #[]) K = K (.agg #[]) := E6 (pl := #[]) A5a (fun w => by kernel_rfl) rfl
@[simp] theorem B7J {v0 v1 : Value} (h0 : v0.cells.size = 1) (h1 : v1.cells.size = 1) (K : Value → WP) : A0 PR (Instr.build 284 #[(0, v0), (1, v1)]) K = K (.agg (D8 (D8 #[(.int .u64 0), (.int .i64 0)] 0 v0.cells.toList) 1 v1.cells.toList)) := E6 (pl := #[(0, 1), (1, 1)]) A33 (fun w => by kernel_rfl) (by rw [C1 rfl h0 (by simp [C7]), C1 rfl h1 (by simp [C7])]; rfl)
theorem A4x : TI PR 39 Tryz.t38.desc 11 120 (.agg #[(.int .i64 0), (.int .i64 0), (.int .i64 0), (.int .i64 0), (.int .i64 0), (.pointer none), (.pointer none), (.pointer none), (.slice none 0 0), (.slice none 0 0), (.int .i64 0)]) := ⟨Tryz.underlying39, Tryz.t39, by kernel_rfl, rfl, rfl, rfl⟩
@[simp] theorem B9b {v0 : Value} (h0 : v0.cells.size = 5) (K : Value → WP) : A0 PR (Instr.build 39 #[(0, v0)]) K = K (.agg (D8 #[(.int .i64 0), (.int .i64 0), (.int .i64 0), (.int .i64 0), (.int .i64 0), (.pointer none), (.pointer none), (.pointer none), (.slice none 0 0), (.slice none 0 0), (.int .i64 0)] 0 v0.cells.toList)) := E6 (pl := #[(0, 5), (5, 1), (6, 1), (7, 1), (8, 1), (9, 1), (10, 1)]) A4x (fun w => by kernel_rfl) (by rw [C1 rfl h0 (by simp [C7])]; rfl)
@[simp] theorem C01  (K : Value → WP) : A0 PR (Instr.build 42 #[]) K = K (.agg #[(.bool false), (.bool false), (.bool false)]) := E6 (pl := #[(0, 1), (1, 1), (2, 1)]) A5Q (fun w => by kernel_rfl) rfl
@[simp] theorem B7n {v0 v1 : Value} (h0 : v0.cells.size = 1) (h1 : v1.cells.size = 1) (K : Value → WP) : A0 PR (Instr.build 42 #[(0, v0), (1, v1)]) K = K (.agg (D8 (D8 #[(.bool false), (.bool false), (.bool false)] 0 v0.cells.toList) 1 v1.cells.toList)) := E6 (pl := #[(0, 1), (1, 1), (2, 1)]) A5Q (fun w => by kernel_rfl) (by rw [C1 rfl h0 (by simp [C7]), C1 rfl h1 (by simp [C7])]; rfl)
@[simp] theorem C0K {v0 : Value} (h0 : v0.cells.size = 1) (K : Value → WP) : A0 PR (Instr.build 42 #[(0, v0)]) K = K (.agg (D8 #[(.bool false), (.bool false), (.bool false)] 0 v0.cells.toList)) := E6 (pl := #[(0, 1), (1, 1), (2, 1)]) A5Q (fun w => by kernel_rfl) (by rw [C1 rfl h0 (by simp [C7])]; rfl)
@[simp] theorem B91 {v0 : Value} (h0 : v0.cells.size = 1) (K : Value → WP) : A0 PR (Instr.build 42 #[(1, v0)]) K = K (.agg (D8 #[(.bool false), (.bool false), (.bool false)] 1 v0.cells.toList)) := E6 (pl := #[(0, 1), (1, 1), (2, 1)]) A5Q (fun w => by kernel_rfl) (by rw [C1 rfl h0 (by simp [C7])]; rfl)
@[simp] theorem C1Q  (K : Value → WP) : A0 PR (Instr.build 55 #[]) K = K (.agg #[(.int .i64 0), (.int .i64 0), (.bool false), (.int .i64 0)]) := E6 (pl := #[(0, 1), (1, 1), (2, 1), (3, 1)]) A7l (fun w => by kernel_rfl) rfl
@[simp] theorem B9j {v0 : Value} (h0 : v0.cells.size = 1) (K : Value → WP) : A0 PR (Instr.build 55 #[(0, v0)]) K = K (.agg (D8 #[(.int .i64 0), (.int .i64 0), (.bool false), (.int .i64 0)] 0 v0.cells.toList)) := E6 (pl := #[(0, 1), (1, 1), (2, 1), (3, 1)]) A7l (fun w => by kernel_rfl) (by rw [C1 rfl h0 (by simp [C7])]; rfl)
theorem A4y : TI PR 64 Tryz.t63.desc 4 56 (.agg #[(.int .i64 0), (.string (ByteArray.mk #[])), (.slice none 0 0), (.int .i64 0)]) := ⟨Tryz.underlying64, Tryz.t64, by kernel_rfl, rfl, rfl, rfl⟩
@[simp] theorem B7g {v0 v1 : Value} (h0 : v0.cells.size = 1) (h1 : v1.cells.size = 1) (K : Value → WP) : A0 PR (Instr.build 64 #[(0, v0), (2, v1)]) K = K (.agg (D8 (D8 #[(.int .i64 0), (.string (ByteArray.mk #[])), (.slice none 0 0), (.int .i64 0)] 0 v0.cells.toList) 2 v1.cells.toList)) := E6 (pl := #[(0, 1), (1, 1), (2, 1), (3, 1)]) A4y (fun w => by kernel_rfl) (by rw [C1 rfl h0 (by simp [C7]), C1 rfl h1 (by simp [C7])]; rfl)
@[simp] theorem C0C {v0 : Value} (h0 : v0.cells.size = 1) (K : Value → WP) : A0 PR (Instr.build 64 #[(0, v0)]) K = K (.agg (D8 #[(.int .i64 0), (.string (ByteArray.mk #[])), (.slice none 0 0), (.int .i64 0)] 0 v0.cells.toList)) := E6 (pl := #[(0, 1), (1, 1), (2, 1), (3, 1)]) A4y (fun w => by kernel_rfl) (by rw [C1 rfl h0 (by simp [C7])]; rfl)
theorem B1k : TI PR 228 Tryz.t228.desc 1 24 (.slice none 0 0) := ⟨Tryz.underlying228, Tryz.t228, by kernel_rfl, rfl, rfl, rfl⟩
theorem B1V : TI PR 124 Tryz.t124.desc 1 8 .nilFunc := ⟨Tryz.underlying124, Tryz.t124, by kernel_rfl, rfl, rfl, rfl⟩
theorem B1j : TI PR 259 Tryz.t259.desc 1 24 (.slice none 0 0) := ⟨Tryz.underlying259, Tryz.t259, by kernel_rfl, rfl, rfl, rfl⟩
theorem ty5 : TI PR 5 Tryz.t5.desc 1 1 (.int .u8 0) := ⟨Tryz.underlying5, Tryz.t5, by kernel_rfl, rfl, rfl, rfl⟩
theorem B9N : TI PR 242 Tryz.t242.desc 1 8 (.int .u64 0) := ⟨Tryz.underlying242, Tryz.t242, by kernel_rfl, rfl, rfl, rfl⟩
@[simp] theorem B8Y {k : IntKind} (a : Int) (K : Value → WP) : A0 PR (convert 3 242 (.int k a)) K = K (.int .u64 (IntKind.u64.wrap a)) := A4g B9N H0
@[simp] theorem C0V {k : IntKind} (a : Int) (K : Value → WP) : A0 PR (convert 3 89 (.int k a)) K = K (.int .u64 (IntKind.u64.wrap a)) := A4g A73 H0
theorem B0Y {K : Value → WP} {w : World} {b o cap : Nat} {ns : List Int} (hr : M5 w b o (ns.map (Value.int .u8))) : A6 PR (convert 301 9 (.slice (some ⟨b, o, none⟩) ns.length cap)) K w = K (.string (A07 ns)) w := B8p A9A ty5 ty9 hr
@[simp] theorem B9K {k : IntKind} (a : Int) (K : Value → WP) : A0 PR (convert 5 370 (.int k a)) K = K (.int .u64 (IntKind.u64.wrap a)) := A4g B5K ty5
@[simp] theorem B9d {k : IntKind} (a : Int) (K : Value → WP) : A0 PR (convert 89 3 (.int k a)) K = K (.int .i64 (IntKind.i64.wrap a)) := A4g H0 A73
@[simp] theorem C0s {k : IntKind} (a : Int) (K : Value → WP) : A0 PR (convert 89 5 (.int k a)) K = K (.int .u8 (IntKind.u8.wrap a)) := A4g ty5 A73
theorem B5Q : TI PR 131 Tryz.t131.desc 1 8 (.pointer none) := ⟨Tryz.underlying131, Tryz.t131, by kernel_rfl, rfl, rfl, rfl⟩
@[simp] theorem B1P (a : Option Addr) (x y : Operand) (K : Value → WP) (w : World) : A6 PR (F3 .eql 131 x y (.pointer a) (.pointer none)) K w = K (.bool a.isNone) w := A70 B5Q
@[simp] theorem B3N (a0 b0 : Int) (a1 b1 : Int) (x y : Operand) (K : Value → WP) (w : World) : A6 PR (F3 .eql 200 x y (.agg #[.int .i64 a0, .int .i64 a1]) (.agg #[.int .i64 b0, .int .i64 b1])) K w = K (.bool (decide (a0 = b0) && (decide (a1 = b1) && true))) w := B1d (by kernel_rfl) (A3Z (e := 9999) A0y (by kernel_rfl) (W0 rfl H0 rfl rfl rfl (A2r (e := 9998) H0) (W0 rfl H0 rfl rfl rfl (A2r (e := 9998) H0) (A7v))))
theorem B7A : TI PR 26 Tryz.t26.desc 1 8 (.pointer none) := ⟨Tryz.underlying26, Tryz.t26, by kernel_rfl, rfl, rfl, rfl⟩
@[simp] theorem B21 (a : Option Addr) (x y : Operand) (K : Value → WP) (w : World) : A6 PR (F3 .eql 26 x y (.pointer a) (.pointer none)) K w = K (.bool a.isNone) w := A70 B7A
theorem ty4 : TI PR 4 Tryz.t4.desc 1 1 (.bool false) := ⟨Tryz.underlying4, Tryz.t4, by kernel_rfl, rfl, rfl, rfl⟩
@[simp] theorem B37 (a0 b0 : Bool) (a1 b1 : Bool) (a2 b2 : Bool) (x y : Operand) (K : Value → WP) (w : World) : A6 PR (F3 .eql 42 x y (.agg #[.bool a0, .bool a1, .bool a2]) (.agg #[.bool b0, .bool b1, .bool b2])) K w = K (.bool ((a0 == b0) && ((a1 == b1) && ((a2 == b2) && true)))) w := B1d (by kernel_rfl) (A3Z (e := 9999) A5Q (by kernel_rfl) (W0 rfl ty4 rfl rfl rfl (A1B (e := 9998) ty4) (W0 rfl ty4 rfl rfl rfl (A1B (e := 9998) ty4) (W0 rfl ty4 rfl rfl rfl (A1B (e := 9998) ty4) (A7v)))))
@[simp] theorem B4K (a0 b0 : Int) (a1 b1 : Int) (a2 b2 : Bool) (a3 b3 : Int) (x y : Operand) (K : Value → WP) (w : World) : A6 PR (F3 .eql 55 x y (.agg #[.int .i64 a0, .int .i64 a1, .bool a2, .int .i64 a3]) (.agg #[.int .i64 b0, .int .i64 b1, .bool b2, .int .i64 b3])) K w = K (.bool (decide (a0 = b0) && (decide (a1 = b1) && ((a2 == b2) && (decide (a3 = b3) && true))))) w := B1d (by kernel_rfl) (A3Z (e := 9999) A7l (by kernel_rfl) (W0 rfl B4f rfl rfl rfl (A2r (e := 9998) B4f) (W0 rfl H0 rfl rfl rfl (A2r (e := 9998) H0) (W0 rfl ty4 rfl rfl rfl (A1B (e := 9998) ty4) (W0 rfl H0 rfl rfl rfl (A2r (e := 9998) H0) (A7v))))))
theorem B63 : TI PR 61 Tryz.t61.desc 1 8 (.pointer none) := ⟨Tryz.underlying61, Tryz.t61, by kernel_rfl, rfl, rfl, rfl⟩
@[simp] theorem B2z (a : Option Addr) (x y : Operand) (K : Value → WP) (w : World) : A6 PR (F3 .eql 61 x y (.pointer a) (.pointer none)) K w = K (.bool a.isNone) w := A70 B63
@[simp] theorem B1M (a : Option Addr) (x y : Operand) (K : Value → WP) (w : World) : A6 PR (F3 .neq 131 x y (.pointer a) (.pointer none)) K w = K (.bool (!a.isNone)) w := A03 B5Q
@[simp] theorem B2Z (a : Option Addr) (x y : Operand) (K : Value → WP) (w : World) : A6 PR (F3 .neq 26 x y (.pointer a) (.pointer none)) K w = K (.bool (!a.isNone)) w := A03 B7A
theorem B31 : TI PR 33 Tryz.t33.desc 1 8 (.pointer none) := ⟨Tryz.underlying33, Tryz.t33, by kernel_rfl, rfl, rfl, rfl⟩
@[simp] theorem B3M (a : Option Addr) (x y : Operand) (K : Value → WP) (w : World) : A6 PR (F3 .neq 33 x y (.pointer a) (.pointer none)) K w = K (.bool (!a.isNone)) w := A03 B31
theorem B4c : TI PR 34 Tryz.t34.desc 1 8 (.pointer none) := ⟨Tryz.underlying34, Tryz.t34, by kernel_rfl, rfl, rfl, rfl⟩
@[simp] theorem B2u (a : Option Addr) (x y : Operand) (K : Value → WP) (w : World) : A6 PR (F3 .neq 34 x y (.pointer a) (.pointer none)) K w = K (.bool (!a.isNone)) w := A03 B4c
theorem B4m : TI PR 35 Tryz.t35.desc 1 8 (.pointer none) := ⟨Tryz.underlying35, Tryz.t35, by kernel_rfl, rfl, rfl, rfl⟩
@[simp] theorem B2s (a : Option Addr) (x y : Operand) (K : Value → WP) (w : World) : A6 PR (F3 .neq 35 x y (.pointer a) (.pointer none)) K w = K (.bool (!a.isNone)) w := A03 B4m
@[simp] theorem B2e (a : Option Addr) (x y : Operand) (K : Value → WP) (w : World) : A6 PR (F3 .neq 61 x y (.pointer a) (.pointer none)) K w = K (.bool (!a.isNone)) w := A03 B63
theorem B5F : TI PR 137 Tryz.t136.desc 1 8 (.agg #[(.int .i64 0)]) := ⟨Tryz.underlying137, Tryz.t137, by kernel_rfl, rfl, rfl, rfl⟩
theorem ty2 : TI PR 2 Tryz.t2.desc 1 8 (.int .i64 0) := ⟨Tryz.underlying2, Tryz.t2, by kernel_rfl, rfl, rfl, rfl⟩
@[simp] theorem B7z (b o : Nat) (K : Value → WP) : A0 PR (Instr.fieldAt 137 (.pointer (some ⟨b, o, none⟩)) 2) K = K (.pointer (some ⟨b, o, none⟩)) := B5 (i := 2) B5F rfl ⟨_, _, _, _, ty2⟩ b o
theorem B5W : TI PR 139 Tryz.t138.desc 1 8 (.agg #[(.int .i64 0)]) := ⟨Tryz.underlying139, Tryz.t139, by kernel_rfl, rfl, rfl, rfl⟩
@[simp] theorem B83 (b o : Nat) (K : Value → WP) : A0 PR (Instr.fieldAt 139 (.pointer (some ⟨b, o, none⟩)) 0) K = K (.pointer (some ⟨b, o, none⟩)) := B5 (i := 0) B5W rfl ⟨_, _, _, _, B5F⟩ b o
@[simp] theorem B8G (b o : Nat) (K : Value → WP) : A0 PR (Instr.fieldAt 141 (.pointer (some ⟨b, o, none⟩)) 0) K = K (.pointer (some ⟨b, o, none⟩)) := B5 (i := 0) A87 rfl ⟨_, _, _, _, B5W⟩ b o
@[simp] theorem B8r (b o : Nat) (K : Value → WP) : A0 PR (Instr.fieldAt 141 (.pointer (some ⟨b, o, none⟩)) 1) K = K (.pointer (some ⟨b, o + 1, none⟩)) := B5 (i := 1) A87 rfl ⟨_, _, _, _, A3M⟩ b o
@[simp] theorem B8H (b o : Nat) (K : Value → WP) : A0 PR (Instr.fieldAt 141 (.pointer (some ⟨b, o, none⟩)) 2) K = K (.pointer (some ⟨b, o + 2, none⟩)) := B5 (i := 2) A87 rfl ⟨_, _, _, _, A3M⟩ b o
@[simp] theorem B8Z (b o : Nat) (K : Value → WP) : A0 PR (Instr.fieldAt 155 (.pointer (some ⟨b, o, none⟩)) 0) K = K (.pointer (some ⟨b, o, none⟩)) := B5 (i := 0) A32 rfl ⟨_, _, _, _, H0⟩ b o
@[simp] theorem B9L (b o : Nat) (K : Value → WP) : A0 PR (Instr.fieldAt 155 (.pointer (some ⟨b, o, none⟩)) 1) K = K (.pointer (some ⟨b, o + 1, none⟩)) := B5 (i := 1) A32 rfl ⟨_, _, _, _, H0⟩ b o
@[simp] theorem B8T (b o : Nat) (K : Value → WP) : A0 PR (Instr.fieldAt 160 (.pointer (some ⟨b, o, none⟩)) 0) K = K (.pointer (some ⟨b, o, none⟩)) := B5 (i := 0) A2B rfl ⟨_, _, _, _, H0⟩ b o
@[simp] theorem B9G (b o : Nat) (K : Value → WP) : A0 PR (Instr.fieldAt 160 (.pointer (some ⟨b, o, none⟩)) 1) K = K (.pointer (some ⟨b, o + 1, none⟩)) := B5 (i := 1) A2B rfl ⟨_, _, _, _, H0⟩ b o
@[simp] theorem B8j (b o : Nat) (K : Value → WP) : A0 PR (Instr.fieldAt 160 (.pointer (some ⟨b, o, none⟩)) 2) K = K (.pointer (some ⟨b, o + 2, none⟩)) := B5 (i := 2) A2B rfl ⟨_, _, _, _, A7l⟩ b o
@[simp] theorem B9C (b o : Nat) (K : Value → WP) : A0 PR (Instr.fieldAt 163 (.pointer (some ⟨b, o, none⟩)) 0) K = K (.pointer (some ⟨b, o, none⟩)) := B5 (i := 0) A5Y rfl ⟨_, _, _, _, A2B⟩ b o
@[simp] theorem B8C (b o : Nat) (K : Value → WP) : A0 PR (Instr.fieldAt 163 (.pointer (some ⟨b, o, none⟩)) 1) K = K (.pointer (some ⟨b, o + 6, none⟩)) := B5 (i := 1) A5Y rfl ⟨_, _, _, _, A6M⟩ b o
@[simp] theorem B8W (b o : Nat) (K : Value → WP) : A0 PR (Instr.fieldAt 163 (.pointer (some ⟨b, o, none⟩)) 2) K = K (.pointer (some ⟨b, o + 7, none⟩)) := B5 (i := 2) A5Y rfl ⟨_, _, _, _, A3M⟩ b o
@[simp] theorem B8J (b o : Nat) (K : Value → WP) : A0 PR (Instr.fieldAt 163 (.pointer (some ⟨b, o, none⟩)) 3) K = K (.pointer (some ⟨b, o + 8, none⟩)) := B5 (i := 3) A5Y rfl ⟨_, _, _, _, H0⟩ b o
@[simp] theorem B9P (b o : Nat) (K : Value → WP) : A0 PR (Instr.fieldAt 163 (.pointer (some ⟨b, o, none⟩)) 4) K = K (.pointer (some ⟨b, o + 9, none⟩)) := B5 (i := 4) A5Y rfl ⟨_, _, _, _, H0⟩ b o
theorem B5J : TI PR 165 Tryz.t164.desc 1 16 .nilIface := ⟨Tryz.underlying165, Tryz.t165, by kernel_rfl, rfl, rfl, rfl⟩
@[simp] theorem B82 (b o : Nat) (K : Value → WP) : A0 PR (Instr.fieldAt 167 (.pointer (some ⟨b, o, none⟩)) 0) K = K (.pointer (some ⟨b, o, none⟩)) := B5 (i := 0) B5L rfl ⟨_, _, _, _, B5J⟩ b o
@[simp] theorem B71 (b o : Nat) (K : Value → WP) : A0 PR (Instr.fieldAt 170 (.pointer (some ⟨b, o, none⟩)) 0) K = K (.pointer (some ⟨b, o, none⟩)) := B5 (i := 0) A6z rfl ⟨_, _, _, _, A2B⟩ b o
@[simp] theorem B8f (b o : Nat) (K : Value → WP) : A0 PR (Instr.fieldAt 170 (.pointer (some ⟨b, o, none⟩)) 1) K = K (.pointer (some ⟨b, o + 6, none⟩)) := B5 (i := 1) A6z rfl ⟨_, _, _, _, H0⟩ b o
@[simp] theorem B8S (b o : Nat) (K : Value → WP) : A0 PR (Instr.fieldAt 170 (.pointer (some ⟨b, o, none⟩)) 2) K = K (.pointer (some ⟨b, o + 7, none⟩)) := B5 (i := 2) A6z rfl ⟨_, _, _, _, H0⟩ b o
@[simp] theorem B8D (b o : Nat) (K : Value → WP) : A0 PR (Instr.fieldAt 170 (.pointer (some ⟨b, o, none⟩)) 3) K = K (.pointer (some ⟨b, o + 8, none⟩)) := B5 (i := 3) A6z rfl ⟨_, _, _, _, A4s⟩ b o
@[simp] theorem B7v (b o : Nat) (K : Value → WP) : A0 PR (Instr.fieldAt 173 (.pointer (some ⟨b, o, none⟩)) 0) K = K (.pointer (some ⟨b, o, none⟩)) := B5 (i := 0) B5U rfl ⟨_, _, _, _, A2B⟩ b o
@[simp] theorem B7s (b o : Nat) (K : Value → WP) : A0 PR (Instr.fieldAt 200 (.pointer (some ⟨b, o, none⟩)) 0) K = K (.pointer (some ⟨b, o, none⟩)) := B5 (i := 0) A0y rfl ⟨_, _, _, _, H0⟩ b o
@[simp] theorem B8L (b o : Nat) (K : Value → WP) : A0 PR (Instr.fieldAt 200 (.pointer (some ⟨b, o, none⟩)) 1) K = K (.pointer (some ⟨b, o + 1, none⟩)) := B5 (i := 1) A0y rfl ⟨_, _, _, _, H0⟩ b o
theorem B1m : TI PR 201 Tryz.t201.desc 16 128 (.agg #[(.int .i64 0), (.int .i64 0), (.int .i64 0), (.int .i64 0), (.int .i64 0), (.int .i64 0), (.int .i64 0), (.int .i64 0), (.int .i64 0), (.int .i64 0), (.int .i64 0), (.int .i64 0), (.int .i64 0), (.int .i64 0), (.int .i64 0), (.int .i64 0)]) := ⟨Tryz.underlying201, Tryz.t201, by kernel_rfl, rfl, rfl, rfl⟩
@[simp] theorem B7w (b o : Nat) (K : Value → WP) : A0 PR (Instr.fieldAt 203 (.pointer (some ⟨b, o, none⟩)) 0) K = K (.pointer (some ⟨b, o, none⟩)) := B5 (i := 0) B1y rfl ⟨_, _, _, _, B1m⟩ b o
@[simp] theorem B8b (b o : Nat) (K : Value → WP) : A0 PR (Instr.fieldAt 203 (.pointer (some ⟨b, o, none⟩)) 1) K = K (.pointer (some ⟨b, o + 16, none⟩)) := B5 (i := 1) B1y rfl ⟨_, _, _, _, H0⟩ b o
@[simp] theorem B8K (b o : Nat) (K : Value → WP) : A0 PR (Instr.fieldAt 218 (.pointer (some ⟨b, o, none⟩)) 0) K = K (.pointer (some ⟨b, o, none⟩)) := B5 (i := 0) A2A rfl ⟨_, _, _, _, H0⟩ b o
@[simp] theorem B8M (b o : Nat) (K : Value → WP) : A0 PR (Instr.fieldAt 218 (.pointer (some ⟨b, o, none⟩)) 1) K = K (.pointer (some ⟨b, o + 1, none⟩)) := B5 (i := 1) A2A rfl ⟨_, _, _, _, ty9⟩ b o
@[simp] theorem B75 (b o : Nat) (K : Value → WP) : A0 PR (Instr.fieldAt 218 (.pointer (some ⟨b, o, none⟩)) 3) K = K (.pointer (some ⟨b, o + 3, none⟩)) := B5 (i := 3) A2A rfl ⟨_, _, _, _, H0⟩ b o
@[simp] theorem C0Y (b o : Nat) (K : Value → WP) : A0 PR (Instr.fieldAt 23 (.pointer (some ⟨b, o, none⟩)) 0) K = K (.pointer (some ⟨b, o, none⟩)) := B5 (i := 0) A2a rfl ⟨_, _, _, _, H0⟩ b o
@[simp] theorem B9z (b o : Nat) (K : Value → WP) : A0 PR (Instr.fieldAt 23 (.pointer (some ⟨b, o, none⟩)) 1) K = K (.pointer (some ⟨b, o + 1, none⟩)) := B5 (i := 1) A2a rfl ⟨_, _, _, _, H0⟩ b o
@[simp] theorem B92 (b o : Nat) (K : Value → WP) : A0 PR (Instr.fieldAt 23 (.pointer (some ⟨b, o, none⟩)) 2) K = K (.pointer (some ⟨b, o + 2, none⟩)) := B5 (i := 2) A2a rfl ⟨_, _, _, _, H0⟩ b o
@[simp] theorem C0r (b o : Nat) (K : Value → WP) : A0 PR (Instr.fieldAt 23 (.pointer (some ⟨b, o, none⟩)) 3) K = K (.pointer (some ⟨b, o + 3, none⟩)) := B5 (i := 3) A2a rfl ⟨_, _, _, _, H0⟩ b o
@[simp] theorem B9l (b o : Nat) (K : Value → WP) : A0 PR (Instr.fieldAt 23 (.pointer (some ⟨b, o, none⟩)) 4) K = K (.pointer (some ⟨b, o + 4, none⟩)) := B5 (i := 4) A2a rfl ⟨_, _, _, _, H0⟩ b o
theorem A6s : TI PR 229 Tryz.t229.desc 1 24 (.slice none 0 0) := ⟨Tryz.underlying229, Tryz.t229, by kernel_rfl, rfl, rfl, rfl⟩
@[simp] theorem B9Q (b o : Nat) (K : Value → WP) : A0 PR (Instr.fieldAt 231 (.pointer (some ⟨b, o, none⟩)) 0) K = K (.pointer (some ⟨b, o, none⟩)) := B5 (i := 0) B5b rfl ⟨_, _, _, _, A6s⟩ b o
@[simp] theorem B79 (b o : Nat) (K : Value → WP) : A0 PR (Instr.fieldAt 284 (.pointer (some ⟨b, o, none⟩)) 0) K = K (.pointer (some ⟨b, o, none⟩)) := B5 (i := 0) A33 rfl ⟨_, _, _, _, A73⟩ b o
@[simp] theorem B9T (b o : Nat) (K : Value → WP) : A0 PR (Instr.fieldAt 284 (.pointer (some ⟨b, o, none⟩)) 1) K = K (.pointer (some ⟨b, o + 1, none⟩)) := B5 (i := 1) A33 rfl ⟨_, _, _, _, H0⟩ b o
@[simp] theorem C0l (b o : Nat) (K : Value → WP) : A0 PR (Instr.fieldAt 39 (.pointer (some ⟨b, o, none⟩)) 0) K = K (.pointer (some ⟨b, o, none⟩)) := B5 (i := 0) A4x rfl ⟨_, _, _, _, A2a⟩ b o
@[simp] theorem C0u (b o : Nat) (K : Value → WP) : A0 PR (Instr.fieldAt 39 (.pointer (some ⟨b, o, none⟩)) 1) K = K (.pointer (some ⟨b, o + 5, none⟩)) := B5 (i := 1) A4x rfl ⟨_, _, _, _, B31⟩ b o
@[simp] theorem C0n (b o : Nat) (K : Value → WP) : A0 PR (Instr.fieldAt 39 (.pointer (some ⟨b, o, none⟩)) 2) K = K (.pointer (some ⟨b, o + 6, none⟩)) := B5 (i := 2) A4x rfl ⟨_, _, _, _, B4c⟩ b o
@[simp] theorem B9g (b o : Nat) (K : Value → WP) : A0 PR (Instr.fieldAt 39 (.pointer (some ⟨b, o, none⟩)) 3) K = K (.pointer (some ⟨b, o + 7, none⟩)) := B5 (i := 3) A4x rfl ⟨_, _, _, _, B4m⟩ b o
@[simp] theorem B95 (b o : Nat) (K : Value → WP) : A0 PR (Instr.fieldAt 39 (.pointer (some ⟨b, o, none⟩)) 4) K = K (.pointer (some ⟨b, o + 8, none⟩)) := B5 (i := 4) A4x rfl ⟨_, _, _, _, A9J⟩ b o
@[simp] theorem B9x (b o : Nat) (K : Value → WP) : A0 PR (Instr.fieldAt 39 (.pointer (some ⟨b, o, none⟩)) 5) K = K (.pointer (some ⟨b, o + 9, none⟩)) := B5 (i := 5) A4x rfl ⟨_, _, _, _, A3M⟩ b o
@[simp] theorem B9f (b o : Nat) (K : Value → WP) : A0 PR (Instr.fieldAt 39 (.pointer (some ⟨b, o, none⟩)) 6) K = K (.pointer (some ⟨b, o + 10, none⟩)) := B5 (i := 6) A4x rfl ⟨_, _, _, _, H0⟩ b o
@[simp] theorem C0c (b o : Nat) (K : Value → WP) : A0 PR (Instr.fieldAt 42 (.pointer (some ⟨b, o, none⟩)) 0) K = K (.pointer (some ⟨b, o, none⟩)) := B5 (i := 0) A5Q rfl ⟨_, _, _, _, ty4⟩ b o
@[simp] theorem B9Z (b o : Nat) (K : Value → WP) : A0 PR (Instr.fieldAt 42 (.pointer (some ⟨b, o, none⟩)) 2) K = K (.pointer (some ⟨b, o + 2, none⟩)) := B5 (i := 2) A5Q rfl ⟨_, _, _, _, ty4⟩ b o
@[simp] theorem C0a (b o : Nat) (K : Value → WP) : A0 PR (Instr.fieldAt 55 (.pointer (some ⟨b, o, none⟩)) 3) K = K (.pointer (some ⟨b, o + 3, none⟩)) := B5 (i := 3) A7l rfl ⟨_, _, _, _, H0⟩ b o
@[simp] theorem B9a (b o : Nat) (K : Value → WP) : A0 PR (Instr.fieldAt 64 (.pointer (some ⟨b, o, none⟩)) 0) K = K (.pointer (some ⟨b, o, none⟩)) := B5 (i := 0) A4y rfl ⟨_, _, _, _, H0⟩ b o
@[simp] theorem C0d (b o : Nat) (K : Value → WP) : A0 PR (Instr.fieldAt 64 (.pointer (some ⟨b, o, none⟩)) 2) K = K (.pointer (some ⟨b, o + 2, none⟩)) := B5 (i := 2) A4y rfl ⟨_, _, _, _, A6M⟩ b o
@[simp] theorem C0k (b o : Nat) (K : Value → WP) : A0 PR (Instr.fieldAt 64 (.pointer (some ⟨b, o, none⟩)) 3) K = K (.pointer (some ⟨b, o + 3, none⟩)) := B5 (i := 3) A4y rfl ⟨_, _, _, _, H0⟩ b o
theorem B6w {k1 : IntKind} {i : Int} {s : ByteArray} {b : UInt8} (h0 : 0 ≤ i) (h1 : s[i.toNat]? = some b) (K : Value → WP) : A0 PR (Instr.index 9 (.string s) (.int k1 i)) K = K (.int .u8 b.toNat) := B3k ty9 h0 h1
@[simp] theorem C1q {k : IntKind} {i : Int} (h0 : 0 ≤ i) (h1 : i < (2 : Nat)) (b o : Nat) (K : Value → WP) : A0 PR (Instr.indexAt 158 (.pointer (some ⟨b, o, none⟩)) (.int k i)) K = K (.pointer (some ⟨b, o + i.toNat, none⟩)) := (by simpa using A6r (K := K) A6j H0 h0 h1 b o)
@[simp] theorem C1Y {k : IntKind} {i : Int} (h0 : 0 ≤ i) (h1 : i < (8 : Nat)) (b o : Nat) (K : Value → WP) : A0 PR (Instr.indexAt 201 (.pointer (some ⟨b, o, none⟩)) (.int k i)) K = K (.pointer (some ⟨b, o + i.toNat * 2, none⟩)) := (A6r (K := K) B1m A0y h0 h1 b o)
@[simp] theorem C0y {k : IntKind} {i : Int} {len cap : Nat} (h0 : 0 ≤ i) (h1 : i < len) (b o : Nat) (K : Value → WP) : A0 PR (Instr.indexAt 228 (.slice (some ⟨b, o, none⟩) len cap) (.int k i)) K = K (.pointer (some ⟨b, o + i.toNat, none⟩)) := (by simpa using Q3 (K := K) B1k B1V h0 h1 b o)
theorem B1b : TI PR 266 Tryz.t265.desc 1 16 .nilIface := ⟨Tryz.underlying266, Tryz.t266, by kernel_rfl, rfl, rfl, rfl⟩
@[simp] theorem C1B {k : IntKind} {i : Int} {len cap : Nat} (h0 : 0 ≤ i) (h1 : i < len) (b o : Nat) (K : Value → WP) : A0 PR (Instr.indexAt 229 (.slice (some ⟨b, o, none⟩) len cap) (.int k i)) K = K (.pointer (some ⟨b, o + i.toNat, none⟩)) := (by simpa using Q3 (K := K) A6s B1b h0 h1 b o)
@[simp] theorem C1d {k : IntKind} {i : Int} {len cap : Nat} (h0 : 0 ≤ i) (h1 : i < len) (b o : Nat) (K : Value → WP) : A0 PR (Instr.indexAt 259 (.slice (some ⟨b, o, none⟩) len cap) (.int k i)) K = K (.pointer (some ⟨b, o + i.toNat * 2, none⟩)) := (Q3 (K := K) B1j A6j h0 h1 b o)
@[simp] theorem C1U {k : IntKind} {i : Int} {len cap : Nat} (h0 : 0 ≤ i) (h1 : i < len) (b o : Nat) (K : Value → WP) : A0 PR (Instr.indexAt 281 (.slice (some ⟨b, o, none⟩) len cap) (.int k i)) K = K (.pointer (some ⟨b, o + i.toNat * 2, none⟩)) := (Q3 (K := K) A89 A33 h0 h1 b o)
@[simp] theorem C1N {k : IntKind} {i : Int} {len cap : Nat} (h0 : 0 ≤ i) (h1 : i < len) (b o : Nat) (K : Value → WP) : A0 PR (Instr.indexAt 301 (.slice (some ⟨b, o, none⟩) len cap) (.int k i)) K = K (.pointer (some ⟨b, o + i.toNat, none⟩)) := (by simpa using Q3 (K := K) A9A ty5 h0 h1 b o)
@[simp] theorem C00 {k : IntKind} {i : Int} {len cap : Nat} (h0 : 0 ≤ i) (h1 : i < len) (b o : Nat) (K : Value → WP) : A0 PR (Instr.indexAt 324 (.slice (some ⟨b, o, none⟩) len cap) (.int k i)) K = K (.pointer (some ⟨b, o + i.toNat * 4, none⟩)) := (Q3 (K := K) B1u A2A h0 h1 b o)
@[simp] theorem C1x {k : IntKind} {i : Int} {len cap : Nat} (h0 : 0 ≤ i) (h1 : i < len) (b o : Nat) (K : Value → WP) : A0 PR (Instr.indexAt 36 (.slice (some ⟨b, o, none⟩) len cap) (.int k i)) K = K (.pointer (some ⟨b, o + i.toNat, none⟩)) := (by simpa using Q3 (K := K) A9J A4s h0 h1 b o)
@[simp] theorem C1z {k : IntKind} {i : Int} {len cap : Nat} (h0 : 0 ≤ i) (h1 : i < len) (b o : Nat) (K : Value → WP) : A0 PR (Instr.indexAt 37 (.slice (some ⟨b, o, none⟩) len cap) (.int k i)) K = K (.pointer (some ⟨b, o + i.toNat, none⟩)) := (by simpa using Q3 (K := K) A3M H0 h0 h1 b o)
@[simp] theorem C13 {k : IntKind} {i : Int} {len cap : Nat} (h0 : 0 ≤ i) (h1 : i < len) (b o : Nat) (K : Value → WP) : A0 PR (Instr.indexAt 58 (.slice (some ⟨b, o, none⟩) len cap) (.int k i)) K = K (.pointer (some ⟨b, o + i.toNat * 2, none⟩)) := (Q3 (K := K) A6M A32 h0 h1 b o)
@[simp] theorem C10 {k : IntKind} {i : Int} {len cap : Nat} (h0 : 0 ≤ i) (h1 : i < len) (b o : Nat) (K : Value → WP) : A0 PR (Instr.indexAt 84 (.slice (some ⟨b, o, none⟩) len cap) (.int k i)) K = K (.pointer (some ⟨b, o + i.toNat * 4, none⟩)) := (Q3 (K := K) A4s A2A h0 h1 b o)
@[simp] theorem B9n (a : Option Addr) (n c : Nat) (K : Value → WP) : A0 PR (A8 .len #[228] 0 [.slice a n c]) K = K (.int .i64 n) := A0J B1k a n c
@[simp] theorem B9c (a : Option Addr) (n c : Nat) (K : Value → WP) : A0 PR (A8 .len #[229] 0 [.slice a n c]) K = K (.int .i64 n) := A0J A6s a n c
@[simp] theorem C0m (a : Option Addr) (n c : Nat) (K : Value → WP) : A0 PR (A8 .len #[259] 0 [.slice a n c]) K = K (.int .i64 n) := A0J B1j a n c
@[simp] theorem C0M (a : Option Addr) (n c : Nat) (K : Value → WP) : A0 PR (A8 .len #[281] 0 [.slice a n c]) K = K (.int .i64 n) := A0J A89 a n c
@[simp] theorem C0A (a : Option Addr) (n c : Nat) (K : Value → WP) : A0 PR (A8 .len #[324] 0 [.slice a n c]) K = K (.int .i64 n) := A0J B1u a n c
@[simp] theorem C06 (a : Option Addr) (n c : Nat) (K : Value → WP) : A0 PR (A8 .len #[36] 0 [.slice a n c]) K = K (.int .i64 n) := A0J A9J a n c
@[simp] theorem C1j (a : Option Addr) (n c : Nat) (K : Value → WP) : A0 PR (A8 .len #[37] 0 [.slice a n c]) K = K (.int .i64 n) := A0J A3M a n c
theorem B9F : TI PR 443 Tryz.t443.desc 1 24 (.slice none 0 0) := ⟨Tryz.underlying443, Tryz.t443, by kernel_rfl, rfl, rfl, rfl⟩
@[simp] theorem C0P (a : Option Addr) (n c : Nat) (K : Value → WP) : A0 PR (A8 .len #[443] 0 [.slice a n c]) K = K (.int .i64 n) := A0J B9F a n c
@[simp] theorem C05 (a : Option Addr) (n c : Nat) (K : Value → WP) : A0 PR (A8 .len #[58] 0 [.slice a n c]) K = K (.int .i64 n) := A0J A6M a n c
@[simp] theorem C1S (a : Option Addr) (n c : Nat) (K : Value → WP) : A0 PR (A8 .len #[84] 0 [.slice a n c]) K = K (.int .i64 n) := A0J A4s a n c
@[simp] theorem C1s (s : ByteArray) (K : Value → WP) : A0 PR (A8 .len #[9] 0 [.string s]) K = K (.int .i64 s.size) := B6n ty9 s
@[simp] theorem C2E (a : Addr) (K : Value → WP) (w : World) : A6 PR (Instr.loadAt 3 (.pointer (some a))) K w = rdc (w.cell? a) K (far PR 3 a K) w := A9C H0 rfl a
@[simp] theorem C12 (a : Addr) (K : Value → WP) (w : World) : A6 PR (Instr.loadAt 89 (.pointer (some a))) K w = rdc (w.cell? a) K (far PR 89 a K) w := A9C A73 rfl a
theorem B8v : TI PR 161 Tryz.t161.desc 1 8 (.pointer none) := ⟨Tryz.underlying161, Tryz.t161, by kernel_rfl, rfl, rfl, rfl⟩
@[simp] theorem C1T (v : Value) (K : Value → WP) : A0 PR (Instr.makeInterface 161 v) K = K (.iface 161 v) := A0M B8v (by intro ms h; cases h) v
theorem B9H : TI PR 168 Tryz.t168.desc 1 8 (.pointer none) := ⟨Tryz.underlying168, Tryz.t168, by kernel_rfl, rfl, rfl, rfl⟩
@[simp] theorem C1p (v : Value) (K : Value → WP) : A0 PR (Instr.makeInterface 168 v) K = K (.iface 168 v) := A0M B9H (by intro ms h; cases h) v
theorem B7y : TI PR 171 Tryz.t171.desc 1 8 (.pointer none) := ⟨Tryz.underlying171, Tryz.t171, by kernel_rfl, rfl, rfl, rfl⟩
@[simp] theorem C1g (v : Value) (K : Value → WP) : A0 PR (Instr.makeInterface 171 v) K = K (.iface 171 v) := A0M B7y (by intro ms h; cases h) v
@[simp] theorem C04 (v : Value) (K : Value → WP) : A0 PR (Instr.makeInterface 195 v) K = K (.iface 195 v) := A0M B5Z (by intro ms h; cases h) v
@[simp] theorem C1E (v : Value) (K : Value → WP) : A0 PR (Instr.makeInterface 263 v) K = K (.iface 263 v) := A0M A5a (by intro ms h; cases h) v
@[simp] theorem B87 {k1 : IntKind} {hi : Int} (b o : Nat) (h0 : 0 ≤ hi) (h1 : hi ≤ (8 : Nat)) (K : Value → WP) : A0 PR (Instr.sliceAt 201 (.pointer (some ⟨b, o, none⟩)) none (some (.int k1 hi)) none) K = K (.slice (some ⟨b, o, none⟩) hi.toNat 8) := B2d B1m A0y b o h0 h1
theorem B5H : TI PR 156 Tryz.t156.desc 1 8 (.map none) := ⟨Tryz.underlying156, Tryz.t156, by kernel_rfl, rfl, rfl, rfl⟩
end Go.Proofs.YtjobgnabneddjaaGreat
namespace Go.Proofs.YtjobgnabneddjaaGreat
open Go
@[simp] theorem B2b (a b : ByteArray) : (a == b) = decide (a = b) := by
 obtain ⟨x⟩ := a; obtain ⟨y⟩ := b
 have h : ((⟨x⟩ : ByteArray) == ⟨y⟩) = (x == y) := rfl
 rw [h]
 by_cases e : x = y
 ·subst e; simp
 ·simp [e]
@[simp] theorem B8c (a : Array UInt8) : (ByteArray.mk a).size = a.size := rfl
theorem B0E (ns : List Int) : (A07 ns).data.toList = ns.map fun n => UInt8.ofNat n.toNat := by
 have : ∀ (l : List Int) (r : ByteArray), (l.foldl (fun r n => r.push (UInt8.ofNat n.toNat)) r).data.toList = r.data.toList ++ l.map fun n => UInt8.ofNat n.toNat := by
  intro l
  induction l with
  | nil => intro r; simp
  | cons x l ih => intro r; rw [List.foldl_cons, ih]; simp [ByteArray.push]
 have h := this ns ByteArray.empty
 rw [show ByteArray.empty.data.toList = [] from rfl, List.nil_append] at h
 exact h
@[simp] theorem B7Z (ns : List Int) : (A07 ns).size = ns.length := by
 have := congrArg List.length (B0E ns)
 rw [List.length_map] at this
 exact this
class TS (t : TypeId) (z : outParam Value) : Prop where
 ti : ∃ d m, TI PR t d 1 m z ∧ K3 d = false
class TG (t : TypeId) (n : outParam Nat) (z : outParam Value) : Prop where
 ti : ∃ d m, TI PR t d n m z ∧ K3 d = true
class TA (t : TypeId) (n : outParam Nat) (z : outParam Value) : Prop where
 ti : ∃ d m, TI PR t d n m z
class SL (t : TypeId) (e : outParam TypeId) (k by' : outParam Nat) (z : outParam Value) : Prop where
 ti : (∃ n m z', TI PR t (.slice e) n m z') ∧ (∃ d, TI PR e d k by' z) ∧ z.cells.size = k
instance TS.ta {t : TypeId} {z : Value} [h : TS t z] : TA t 1 z := ⟨let ⟨d, m, h, _⟩ := h.ti; ⟨d, m, h⟩⟩
instance TG.ta {t : TypeId} {n : Nat} {z : Value} [h : TG t n z] : TA t n z := ⟨let ⟨d, m, h, _⟩ := h.ti; ⟨d, m, h⟩⟩
def rdq (x : Option (List Value)) (G : List Value → WP) (F : WP) : WP := match x with | some l => G l | none => F
@[simp] theorem C02 (l : List Value) (G : List Value → WP) (F : WP) : rdq (some l) G F = G l := id rfl
@[congr] theorem B9r {x x' : Option (List Value)} {G : List Value → WP} {F : WP} (h : x = x') {q : Nat} (hq : Q6 = q) : rdq x G F = rdq x' G F := by rw [h]
@[simp] theorem C1C (xs : List Value) : U2 xs 0 0 = some [] := by simp [U2]
@[simp] theorem B88 (x : Value) (xs : List Value) (n : Nat) : U2 (x :: xs) 0 (n + 1) = (U2 xs 0 n).map (x :: ·) := by
 simp only [U2, Nat.zero_add, List.length_cons, List.drop_zero, List.take_succ_cons]
 by_cases h : n ≤ xs.length
 ·rw [if_pos h, if_pos (by omega)]; rfl
 ·rw [if_neg h, if_neg (by omega)]; rfl
theorem A8H {α : Type} {l : List α} {f : α → List Value} {k i : Nat} {x : α} (hk : ∀ x, (f x).length = k) (hx : l[i]? = some x) : U2 (l.flatMap f) (i * k) k = some (f x) := by
 obtain ⟨hlt, hx'⟩ := List.getElem?_eq_some_iff.1 hx
 have h1 : (i + 1) * k ≤ l.length * k := Nat.mul_le_mul_right k hlt
 rw [Nat.add_mul] at h1
 rw [U2, if_pos (by rw [K7 hk]; omega), A1r hk, List.drop_eq_getElem_cons hlt, List.flatMap_cons, hx']
 rw [List.take_left' (hk x)]
inductive Sel (r : Res) : List Res → List Res → Prop where
 | here {H : List Res} : Sel r (r :: H) H
 | there {x : Res} {H H' : List Res} : Sel r H H' → Sel r (x :: H) (x :: H')
theorem Sel.perm {r : Res} {H Hr : List Res} (h : Sel r H Hr) : H.Perm (r :: Hr) := by
 induction h with
 | here => exact .refl _
 | there _ ih => exact (ih.cons _).trans (.swap ..)
theorem Sel.sub {r : Res} {H Hr : List Res} (h : Sel r H Hr) : Hr.Sublist H := by
 induction h with
 | here => exact List.sublist_cons_self ..
 | there _ ih => exact ih.cons_cons _
theorem A1 {r : Res} {H : List Res} : r ∈ r :: H := List.mem_cons_self ..
theorem uH {r r' : Res} {H : List Res} : Up r r' (r :: H) (r' :: H) := Up.here
theorem uT {r r' x : Res} {H H' : List Res} (h : Up r r' H H') : Up r r' (x :: H) (x :: H') := Up.there h
theorem A2 {r x : Res} {H : List Res} (h : r ∈ H) : r ∈ x :: H := List.mem_cons_of_mem _ h
inductive Sels : List Res → List Res → Prop where
 | nil {H : List Res} : Sels [] H
 | cons {r : Res} {rs H Hr : List Res} : Sel r H Hr → Sels rs Hr → Sels (r :: rs) H
theorem Sels.sub {rs H : List Res} (h : Sels rs H) : ∃ H', H.Perm H' ∧ rs.Sublist H' := by
 induction h with
 | nil => exact ⟨_, .refl _, List.nil_sublist _⟩
 | cons h1 _ ih => obtain ⟨H', h2, h3⟩ := ih; exact ⟨_ :: H', h1.perm.trans (h2.cons _), h3.cons_cons _⟩
theorem Sels.lw {κ : Bool} {S : List Nat} {w0 w : World} {rs H : List Res} (h : Sels rs H) (hw : LW κ S w0 H w) : LW κ S w0 rs w := let ⟨_, h1, h2⟩ := h.sub; (hw.perm h1).sub h2
theorem Sels.tw {κ : Bool} {S : List Nat} {w0 : World} {rs H : List Res} {K : WP} (h : Sels rs H) (hk : TW κ S w0 rs K) : TW κ S w0 H K := fun w hw => hk w (h.lw hw)
inductive Part : List Res → List Res → List Res → Prop where
 | nil {H : List Res} : Part [] H H
 | cons {r : Res} {rs H H1 Hk : List Res} : Sel r H H1 → Part rs H1 Hk → Part (r :: rs) H Hk
theorem Part.perm {Hc H Hk : List Res} (h : Part Hc H Hk) : H.Perm (Hc ++ Hk) := by
 induction h with
 | nil => exact .refl _
 | cons h1 _ ih => exact h1.perm.trans (ih.cons _)
theorem B4 {κ : Bool} {X : Nat → Prop} {S : List Nat} {w0 : World} {H Hk Hc : List Res} {K : Value → WP} {f : FuncId} {args : List Value} {α : Type} {φ : α → Value → Prop} {Hn : α → List Res} (he : A9 PR f)
  (hf : ∀ w, LW κ S w0 (Hc ++ Hk) w → LW false (B2 Hc) w Hc w → Fn PR B8 f args.toArray w (Rn (B2 Hc) w φ Hn)) (hp : Part Hc H Hk) (hK : ∀ a v, φ a v → TW κ S w0 (Hn a ++ Hk) (K v)) : TW κ S w0 H (B6 PR X f args K) :=
 B2j he hp.perm (fun w hw => let h := hw.perm hp.perm; hf w h (h.sub (List.sublist_append_left _ _)).self) hK
theorem B0 {κ : Bool} {S : List Nat} {w0 : World} {H : List Res} {α : Type} {φ : α → Value → Prop} {Hn : α → List Res} {v : Value} (a : α) (h : φ a v) (hs : Sels (Hn a) H) : TW κ S w0 H (Rn S w0 φ Hn v) := fun w hw => ⟨a, h, hs.lw hw.low⟩
theorem B8m {κ : Bool} {S : List Nat} {w0 : World} {H : List Res} {F : Value → WP} {A : (Value → WP) → WP} {α : Type} (φ : α → Prop) (Hh : α → List Res) (v1 : α → Value) (hF : ∀ x, φ x → TW κ S w0 (Hh x) (F (v1 x)))
  (hA : ∀ J : Value → WP, (∀ x, φ x → TW κ S w0 (Hh x) (J (v1 x))) → TW κ S w0 H (A J)) : TW κ S w0 H (kt (n := 1) F A) := hA F hF
theorem G3.form {w : World} {v : Value} {n : Nat} {xs : List Value} (h : G3 w v n xs) : ∃ a c, v = .slice a n c ∧ (0 < n → ∃ b o, a = some ⟨b, o, none⟩ ∧ M5 w b o xs) := by
 rcases h with ⟨rfl, rfl, a, c, rfl⟩ | ⟨b, o, c, rfl, hr⟩
 ·exact ⟨a, c, rfl, fun h => absurd h (by omega)⟩
 ·exact ⟨_, c, rfl, fun _ => ⟨b, o, rfl, hr⟩⟩
theorem M5.at {w : World} {b o k : Nat} {α : Type} {l : List α} {f : α → List Value} (h : M5 w b o (l.flatMap f)) (hk : ∀ x, (f x).length = k) {i : Nat} {x : α} (hx : l[i]? = some x) : e9 w b (o + i * k) k = some (f x) := by
 have h1 : M5 w b (o + i * k) (f x) := fun j hj => by
  rw [hk] at hj
  have h2 := y8 hk l i j hj
  rw [hx] at h2
  have h3 : (l.flatMap f)[i * k + j]? = some ((f x)[j]'(by rw [hk]; exact hj)) := by rw [h2]; simp [List.getElem?_eq_getElem, hk, hj]
  rw [Nat.add_assoc, h.get h3]; simp [List.getElem?_eq_getElem, hk, hj]
 have := A7f h1
 rwa [hk] at this
theorem M5.one {w : World} {b o : Nat} {α : Type} {l : List α} {f : α → Value} (h : M5 w b o (l.map f)) {i : Nat} {x : α} (hx : l[i]? = some x) : w.cell? ⟨b, o + i, none⟩ = some (f x) := h.get (by simp [hx])
section
variable {κ : Bool} {X : Nat → Prop} {S : List Nat} {w0 : World} {H H' Hr : List Res} {K : Value → WP} {K0 : WP} {t e : TypeId} {n k by' : Nat} {z : Value}
theorem B8U {s : Sem Value} {v : Value} (h : ∀ w, LW κ S w0 H w → A6 PR s K w = K v w) : TW κ S w0 H (A6 PR s K) = TW κ S w0 H (K v) := TW.congr h
theorem A0G {v : Value} {q : Nat} {xs : List Value} (hm : Res.own e k v q xs ∈ H) (hq : 0 < q) (h : ∀ g c, v = .slice (some ⟨g, 0, none⟩) q c → TW κ S w0 H K0) : TW κ S w0 H K0 := fun w hw => by
 rcases (hw.hold _ hm).2 with ⟨_, rfl⟩ | ⟨g, c, _, rfl, _⟩
 ·omega
 ·exact h g c rfl w hw
@[simp] theorem C11 [h : TS t z] {b o : Nat} {c : Array Value} {T : TypeId} {f : Nat × Nat} (hm : Res.pt b (.cells c T f) ∈ H) :
  TW κ S w0 H (A6 PR (Instr.loadAt t (.pointer (some ⟨b, o, none⟩))) K) = TW κ S w0 H (rdc c[o]? K (far PR t ⟨b, o, none⟩ K)) := let ⟨_, _, h, hd⟩ := h.ti; B6U h hd hm
@[simp] theorem C1H [h : TS t z] {g o : Nat} {k q c : Nat} {xs : List Value} (hm : Res.own e k (.slice (some ⟨g, 0, none⟩) q c) q xs ∈ H) :
  TW κ S w0 H (A6 PR (Instr.loadAt t (.pointer (some ⟨g, o, none⟩))) K) = TW κ S w0 H (rdc xs[o]? K (A6 PR (Instr.loadAt t (.pointer (some ⟨g, o, none⟩))) K)) := by
 cases hv : xs[o]? with
 | none => rfl
 | some v => exact let ⟨_, _, h, hd⟩ := h.ti; B3y h hd hm hv
@[simp] theorem C1V [h : TS t z] {b o : Nat} {v : Value} (hc : w0.cell? ⟨b, o, none⟩ = some v) (hS : b ∉ S) :
  TW κ S w0 H (A6 PR (Instr.loadAt t (.pointer (some ⟨b, o, none⟩))) K) = TW κ S w0 H (K v) := let ⟨_, _, h, hd⟩ := h.ti; B4L h hd hc hS
@[simp] theorem C0v [h : TG t n z] {b o : Nat} {c : Array Value} {T : TypeId} {f : Nat × Nat} (hm : Res.pt b (.cells c T f) ∈ H) :
  TW κ S w0 H (A6 PR (Instr.loadAt t (.pointer (some ⟨b, o, none⟩))) K) = TW κ S w0 H (rdq (U2 c.toList o n) (fun l => K (.agg l.toArray)) (A6 PR (Instr.loadAt t (.pointer (some ⟨b, o, none⟩))) K)) := by
 cases hl : U2 c.toList o n with
 | none => rfl
 | some l => exact let ⟨_, _, h, hd⟩ := h.ti; B42 h hd hm hl
@[simp] theorem C0p [h : TG t n z] {g o : Nat} {k q c : Nat} {xs : List Value} (hm : Res.own e k (.slice (some ⟨g, 0, none⟩) q c) q xs ∈ H) :
  TW κ S w0 H (A6 PR (Instr.loadAt t (.pointer (some ⟨g, o, none⟩))) K) = TW κ S w0 H (rdq (U2 xs o n) (fun l => K (.agg l.toArray)) (A6 PR (Instr.loadAt t (.pointer (some ⟨g, o, none⟩))) K)) := by
 cases hl : U2 xs o n with
 | none => rfl
 | some l => exact let ⟨_, _, h, hd⟩ := h.ti; B3T h hd hm hl
@[simp] theorem B9k [h : TG t n z] {b o : Nat} {l : List Value} (hc : e9 w0 b o n = some l) (hS : b ∉ S) :
  TW κ S w0 H (A6 PR (Instr.loadAt t (.pointer (some ⟨b, o, none⟩))) K) = TW κ S w0 H (K (.agg l.toArray)) := let ⟨_, _, h, hd⟩ := h.ti; B3J h hd hc hS
@[simp] theorem B62 [h : TS t z] {b o : Nat} {c : Array Value} {T : TypeId} {f : Nat × Nat} (hm : Res.pt b (.cells c T f) ∈ H) {v : Value} (hv : c[o]? = some v) :
  TW κ S w0 H (A6 PR (F1 [.c t (.pointer (some ⟨b, o, none⟩))]) K) = TW κ S w0 H (K v) := let ⟨_, _, h, hd⟩ := h.ti; B65 h hd hm hv
@[simp] theorem C17 [h : TG t n z] {b o : Nat} {c : Array Value} {T : TypeId} {f : Nat × Nat} (hm : Res.pt b (.cells c T f) ∈ H) :
  TW κ S w0 H (A6 PR (F1 [.c t (.pointer (some ⟨b, o, none⟩))]) K) = TW κ S w0 H (rdq (U2 c.toList o n) (fun l => K (.agg l.toArray)) (A6 PR (F1 [.c t (.pointer (some ⟨b, o, none⟩))]) K)) := by
 cases hl : U2 c.toList o n with
 | none => rfl
 | some l => exact let ⟨_, _, h, hd⟩ := h.ti; B66 h hd hm hl
@[simp] theorem B8g [h : TS t z] {b o : Nat} {c : Array Value} {T : TypeId} {f : Nat × Nat} {v : Value} {l : List Rd} (hm : Res.pt b (.cells c T f) ∈ H) (hv : c[o]? = some v) :
  TW κ S w0 H (watch PR ((none, Instr.loadAt t (.pointer (some ⟨b, o, none⟩)), v) :: l) K0) = TW κ S w0 H (watch PR l K0) := let ⟨_, _, h, hd⟩ := h.ti; B05 fun w hw => n4 h hd (by rw [C8 (hw.pt hm)]; exact hv)
@[simp] theorem B7q [h : TS t z] {b o : Nat} {v : Value} {l : List Rd} (hc : w0.cell? ⟨b, o, none⟩ = some v) (hS : b ∉ S) :
  TW κ S w0 H (watch PR ((none, Instr.loadAt t (.pointer (some ⟨b, o, none⟩)), v) :: l) K0) = TW κ S w0 H (watch PR l K0) := let ⟨_, _, h, hd⟩ := h.ti; B05 fun w hw => n4 h hd (hw.ks.cell hS hc)
@[simp] theorem C1k [h : TA t n z] {v : Value} {b o : Nat} {c : Array Value} {T : TypeId} (hv : v.cells.size = n)
  (hu : Up (.pt b (.cells c T (0, 0))) (.pt b (.cells (D8 c o v.cells.toList) T (0, 0))) H H') (hs : o + n ≤ c.size) (hp : v.cells.toList.all plain = true) :
  TW κ S w0 H (C6 PR X (Instr.storeAt t (.pointer (some ⟨b, o, none⟩)) v) K0) = TW κ S w0 H' K0 := let ⟨_, _, h⟩ := h.ti; C1G h hv hu hs hp
theorem U1 [h : TA t n z] {v : Value} {g o q c : Nat} {xs : List Value} (hu : Up (.own e k (.slice (some ⟨g, 0, none⟩) q c) q xs) (.own e k (.slice (some ⟨g, 0, none⟩) q c) q (U0 xs o v.cells.toList)) H H')
  (hv : v.cells.size = n) (hs : o + n ≤ xs.length) (hp : v.cells.toList.all plain = true) (hK : TW κ S w0 H' K0) :
  TW κ S w0 H (C6 PR X (Instr.storeAt t (.pointer (some ⟨g, o, none⟩)) v) K0) := let ⟨_, _, h⟩ := h.ti; B5D h hv hu hs hp hK
theorem A4 [h : TA t n z] (hK : ∀ b, TW κ S w0 (.pt b (.cells z.cells t) :: H) (K (.pointer (some ⟨b, 0, none⟩)))) : TW κ S w0 H (B7 PR X (Instr.alloc t true (.tuple #[])) K) := let ⟨_, _, h⟩ := h.ti; C0z h hK
theorem A3N {k1 k2 : IntKind} {l : Int} [h : SL t e k by' z] (h0 : 0 ≤ l) (hb : l * by' ≤ 140737488355328) (hc : l ≤ 9223372036854775807) (hk : 0 < k)
  (hK : ∀ b, TW κ S w0 (.own e k (.slice (some ⟨b, 0, none⟩) l.toNat l.toNat) l.toNat (Builtin.zeroCells z.cells l.toNat).toList :: H) (K (.slice (some ⟨b, 0, none⟩) l.toNat l.toNat))) :
  TW κ S w0 H (B7 PR X (Instr.makeSlice t (.int k1 l) (.int k2 l)) K) := let ⟨⟨_, _, _, h1⟩, ⟨_, h2⟩, h3⟩ := h.ti; C1P h1 h2 h3 hk h0 rfl hb hc hK
theorem r6 [h : SL t e k by' z] (hK : ∀ b, TW κ S w0 (.own e k (.slice (some ⟨b, 0, none⟩) 0 0) 0 [] :: H) (K (.slice (some ⟨b, 0, none⟩) 0 0))) : TW κ S w0 H (B7 PR X (Instr.buildSlice t 0 #[]) K) :=
 let ⟨⟨_, _, _, h1⟩, ⟨_, h2⟩, h3⟩ := h.ti; B9M h1 h2 hK
theorem B4G {m n q : Nat} (hq : 0 < n) : ∀ (vs : List Value) (i : Nat) (cs : Array Value), (∀ v ∈ vs, v.cells.size = n) → (i + vs.length) * n ≤ cs.size →
  Instr.fill (fun i => some (i * n, n)) cs ((List.range' i vs.length).zip vs) = some (D8 cs (i * n) (vs.flatMap fun v => v.cells.toList)) := by
 intro vs
 induction vs with
 | nil => intro i cs _ _; simp [Instr.fill]
 | cons v vs ih =>
  intro i cs hv hs
  simp only [List.length_cons] at hs
  have hv0 : v.cells.size = n := hv v (by simp)
  have e1 : (i + (vs.length + 1)) * n = i * n + n + vs.length * n := by rw [Nat.add_mul, Nat.add_mul]; omega
  simp only [List.length_cons, List.range'_succ, List.zip_cons_cons]
  rw [C1 rfl hv0 (by omega), ih (i + 1) _ (fun u hu => hv u (by simp [hu])) (by rw [C7]; (have : (i + 1 + vs.length) * n = i * n + n + vs.length * n := by (rw [Nat.add_mul, Nat.add_mul]; omega)); omega)]
  have spl_spl : ∀ (l l' : List Value) (c : Array Value) (o : Nat), D8 (D8 c o l) (o + l.length) l' = D8 c o (l ++ l') := by
   intro l
   induction l with
   | nil => intro l' c o; simp
   | cons u l ih => intro l' c o; simp only [A3S, List.cons_append, List.length_cons]; rw [← ih]; congr 1; omega
  rw [List.flatMap_cons, ← spl_spl]
  congr 2
  have : v.cells.toList.length = n := by simp [hv0]
  rw [this, Nat.add_mul]; omega
theorem A9F {len : Nat} {parts : Array (Nat × Value)} (vs : List Value) [h : SL t e k by' z] (hk : 0 < k) (h0 : 0 < len) (hb : len * k ≤ 2 ^ 24) (hp : parts.toList = (List.range' 0 len).zip vs) (hl : vs.length = len) (hv : ∀ v ∈ vs, v.cells.size = k)
  (hK : ∀ b, TW κ S w0 (.own e k (.slice (some ⟨b, 0, none⟩) len len) len (vs.flatMap fun v => v.cells.toList) :: H) (K (.slice (some ⟨b, 0, none⟩) len len))) :
  TW κ S w0 H (B7 PR X (Instr.buildSlice t len parts) K) := by
 obtain ⟨⟨_, _, _, h1⟩, ⟨_, h2⟩, h3⟩ := h.ti
 have hlen : (vs.flatMap fun v => v.cells.toList).length = len * k := by
  rw [← hl]; clear hp hl hK hb h0
  induction vs with
  | nil => simp
  | cons v vs ih =>
   have := hv v (by simp)
   rw [List.flatMap_cons, List.length_append, ih fun u hu => hv u (by simp [hu])]
   simp only [Array.length_toList, List.length_cons, this]; rw [Nat.add_mul]; omega
 have hf := B4G (m := 0) (q := 0) hk vs 0 ((Array.range (len * k)).map (z.cells[· % z.cells.size]!)) hv (by simp [hl])
 rw [hl, ← hp] at hf
 have hz : D8 ((Array.range (len * k)).map (z.cells[· % z.cells.size]!)) (0 * k) (vs.flatMap fun v => v.cells.toList) = (vs.flatMap fun v => v.cells.toList).toArray := by
  apply Array.toList_inj.1
  rw [A0x _ _ _ (by simp [-List.length_flatMap, hlen])]
  simp only [Nat.zero_mul, List.take_zero, List.nil_append, hlen, Nat.zero_add]
  rw [List.drop_eq_nil_of_le (by simp)]; simp
 refine C1Z h1 h2 hb (by have : 0 < len * k := Nat.mul_pos h0 hk; omega) (hf.trans (by rw [hz])) (by simp [-List.length_flatMap, hlen]) ?_
 simpa using hK
theorem u9 {v0 : Value} [h : SL t e k by' z] (hk : 0 < k := by decide) (hb : 1 * k ≤ 2 ^ 24 := by decide) (h0 : v0.cells.size = k := by simp) (hK : ∀ b, TW κ S w0 (.own e k (.slice (some ⟨b, 0, none⟩) 1 1) 1 (v0.cells.toList) :: H) (K (.slice (some ⟨b, 0, none⟩) 1 1))) :
  TW κ S w0 H (B7 PR X (Instr.buildSlice t 1 #[(0, v0)]) K) := A9F [v0] hk (by omega) hb rfl rfl (by intro v hv; simp only [List.mem_cons, List.not_mem_nil, or_false] at hv; subst hv; assumption) (by simpa using hK)
theorem s0 {v0 v1 : Value} [h : SL t e k by' z] (hk : 0 < k := by decide) (hb : 2 * k ≤ 2 ^ 24 := by decide) (h0 : v0.cells.size = k := by simp) (h1 : v1.cells.size = k := by simp) (hK : ∀ b, TW κ S w0 (.own e k (.slice (some ⟨b, 0, none⟩) 2 2) 2 (v0.cells.toList ++ v1.cells.toList) :: H) (K (.slice (some ⟨b, 0, none⟩) 2 2))) :
  TW κ S w0 H (B7 PR X (Instr.buildSlice t 2 #[(0, v0), (1, v1)]) K) := A9F [v0, v1] hk (by omega) hb rfl rfl (by intro v hv; simp only [List.mem_cons, List.not_mem_nil, or_false] at hv; rcases hv with rfl | rfl <;> assumption) (by simpa using hK)
theorem x6 {v0 v1 v2 : Value} [h : SL t e k by' z] (hk : 0 < k := by decide) (hb : 3 * k ≤ 2 ^ 24 := by decide) (h0 : v0.cells.size = k := by simp) (h1 : v1.cells.size = k := by simp) (h2 : v2.cells.size = k := by simp) (hK : ∀ b, TW κ S w0 (.own e k (.slice (some ⟨b, 0, none⟩) 3 3) 3 (v0.cells.toList ++ v1.cells.toList ++ v2.cells.toList) :: H) (K (.slice (some ⟨b, 0, none⟩) 3 3))) :
  TW κ S w0 H (B7 PR X (Instr.buildSlice t 3 #[(0, v0), (1, v1), (2, v2)]) K) := A9F [v0, v1, v2] hk (by omega) hb rfl rfl (by intro v hv; simp only [List.mem_cons, List.not_mem_nil, or_false] at hv; rcases hv with rfl | rfl | rfl <;> assumption) (by simpa using hK)
theorem v6 {v0 v1 v2 v3 v4 : Value} [h : SL t e k by' z] (hk : 0 < k := by decide) (hb : 5 * k ≤ 2 ^ 24 := by decide) (h0 : v0.cells.size = k := by simp) (h1 : v1.cells.size = k := by simp) (h2 : v2.cells.size = k := by simp) (h3 : v3.cells.size = k := by simp) (h4 : v4.cells.size = k := by simp) (hK : ∀ b, TW κ S w0 (.own e k (.slice (some ⟨b, 0, none⟩) 5 5) 5 (v0.cells.toList ++ v1.cells.toList ++ v2.cells.toList ++ v3.cells.toList ++ v4.cells.toList) :: H) (K (.slice (some ⟨b, 0, none⟩) 5 5))) :
  TW κ S w0 H (B7 PR X (Instr.buildSlice t 5 #[(0, v0), (1, v1), (2, v2), (3, v3), (4, v4)]) K) := A9F [v0, v1, v2, v3, v4] hk (by omega) hb rfl rfl (by intro v hv; simp only [List.mem_cons, List.not_mem_nil, or_false] at hv; rcases hv with rfl | rfl | rfl | rfl | rfl <;> assumption) (by simpa using hK)
theorem s7 {v0 v1 v2 v3 v4 v5 : Value} [h : SL t e k by' z] (hk : 0 < k := by decide) (hb : 6 * k ≤ 2 ^ 24 := by decide) (h0 : v0.cells.size = k := by simp) (h1 : v1.cells.size = k := by simp) (h2 : v2.cells.size = k := by simp) (h3 : v3.cells.size = k := by simp) (h4 : v4.cells.size = k := by simp) (h5 : v5.cells.size = k := by simp) (hK : ∀ b, TW κ S w0 (.own e k (.slice (some ⟨b, 0, none⟩) 6 6) 6 (v0.cells.toList ++ v1.cells.toList ++ v2.cells.toList ++ v3.cells.toList ++ v4.cells.toList ++ v5.cells.toList) :: H) (K (.slice (some ⟨b, 0, none⟩) 6 6))) :
  TW κ S w0 H (B7 PR X (Instr.buildSlice t 6 #[(0, v0), (1, v1), (2, v2), (3, v3), (4, v4), (5, v5)]) K) := A9F [v0, v1, v2, v3, v4, v5] hk (by omega) hb rfl rfl (by intro v hv; simp only [List.mem_cons, List.not_mem_nil, or_false] at hv; rcases hv with rfl | rfl | rfl | rfl | rfl | rfl <;> assumption) (by simpa using hK)
theorem K9.form {w : World} {e : TypeId} {k n : Nat} {v : Value} {xs : List Value} (h : K9 w e k v n xs) : ∃ a c, v = .slice a n c := by
 rcases h.2 with ⟨rfl, rfl⟩ | ⟨g, cap, cur, rfl, _⟩
 ·exact ⟨_, _, rfl⟩
 ·exact ⟨_, _, rfl⟩
theorem B7G {q : Nat} {xs : List Value} {A : Value → WP} (h : ∀ a c, TW κ S w0 (.own e k (.slice a q c) q xs :: H) (A (.slice a q c))) (v : Value) : TW κ S w0 (.own e k v q xs :: H) (A v) := fun w hw => by
 obtain ⟨a, c, rfl⟩ := K9.form (hw.hold _ A1)
 exact h a c w hw
theorem A12 {ty : TypeId} {v x : Value} {q r : Nat} {xs news : List Value} [h : SL t e k by' z] (hs : Sel (.own e k v q xs) H Hr) (hx : P4 κ S w0 H x r news) (hk : 0 < k) (hl : news.length = r * k) (hp : news.all plain = true)
  (h63 : q + r ≤ maxLen) (hby : (q + r) * by' ≤ 140737488355328) (hK : ∀ a c, TW κ S w0 (.own e k (.slice a (q + r) c) (q + r) (xs ++ news) :: Hr) (K (.slice a (q + r) c))) : TW κ S w0 H (B7 PR X (A8 .append #[t, t] ty [v, x]) K) := by
 obtain ⟨⟨_, _, _, h1⟩, ⟨_, h2⟩, h3⟩ := h.ti
 refine TW.perm ?_ hs.perm
 exact B8z (H'' := fun v' => .own e k v' (q + r) (xs ++ news) :: Hr) h1 h2 h3 hk (fun v' => .here) (fun w hw => hx w (hw.perm hs.perm.symm)) hl hp h63 hby (B7G hK)
end
end Go.Proofs.YtjobgnabneddjaaGreat
namespace Go.Proofs.YtjobgnabneddjaaGreat
open Go
instance : TS 3 (.int .i64 0) := ⟨_, _, H0, rfl⟩
instance : TS 4 (.bool false) := ⟨_, _, ty4, rfl⟩
instance : TS 5 (.int .u8 0) := ⟨_, _, ty5, rfl⟩
instance : TS 9 (.string (ByteArray.mk #[])) := ⟨_, _, ty9, rfl⟩
instance : TG 23 5 (.agg #[(.int .i64 0), (.int .i64 0), (.int .i64 0), (.int .i64 0), (.int .i64 0)]) := ⟨_, _, A2a, rfl⟩
instance : TS 27 (.int .i64 0) := ⟨_, _, B4f, rfl⟩
instance : TS 33 (.pointer none) := ⟨_, _, B31, rfl⟩
instance : TS 34 (.pointer none) := ⟨_, _, B4c, rfl⟩
instance : TS 35 (.pointer none) := ⟨_, _, B4m, rfl⟩
instance : TS 36 (.slice none 0 0) := ⟨_, _, A9J, rfl⟩
instance : SL 36 84 1 24 (.slice none 0 0) := ⟨⟨_, _, _, A9J⟩, ⟨_, A4s⟩, rfl⟩
instance : TS 37 (.slice none 0 0) := ⟨_, _, A3M, rfl⟩
instance : SL 37 3 1 8 (.int .i64 0) := ⟨⟨_, _, _, A3M⟩, ⟨_, H0⟩, rfl⟩
instance : TG 42 3 (.agg #[(.bool false), (.bool false), (.bool false)]) := ⟨_, _, A5Q, rfl⟩
instance : TG 55 4 (.agg #[(.int .i64 0), (.int .i64 0), (.bool false), (.int .i64 0)]) := ⟨_, _, A7l, rfl⟩
instance : TS 58 (.slice none 0 0) := ⟨_, _, A6M, rfl⟩
instance : SL 58 155 2 16 (.agg #[(.int .i64 0), (.int .i64 0)]) := ⟨⟨_, _, _, A6M⟩, ⟨_, A32⟩, rfl⟩
instance : TG 64 4 (.agg #[(.int .i64 0), (.string (ByteArray.mk #[])), (.slice none 0 0), (.int .i64 0)]) := ⟨_, _, A4y, rfl⟩
instance : TS 84 (.slice none 0 0) := ⟨_, _, A4s, rfl⟩
instance : SL 84 218 4 40 (.agg #[(.int .i64 0), (.string (ByteArray.mk #[])), (.int .i64 0), (.int .i64 0)]) := ⟨⟨_, _, _, A4s⟩, ⟨_, A2A⟩, rfl⟩
instance : TS 89 (.int .u64 0) := ⟨_, _, A73, rfl⟩
instance : TS 124 .nilFunc := ⟨_, _, B1V, rfl⟩
instance : TG 155 2 (.agg #[(.int .i64 0), (.int .i64 0)]) := ⟨_, _, A32, rfl⟩
instance : TG 158 2 (.agg #[(.int .i64 0), (.int .i64 0)]) := ⟨_, _, A6j, rfl⟩
instance : TG 160 6 (.agg #[(.int .i64 0), (.int .i64 0), (.int .i64 0), (.int .i64 0), (.bool false), (.int .i64 0)]) := ⟨_, _, A2B, rfl⟩
instance : TS 165 .nilIface := ⟨_, _, B5J, rfl⟩
instance : SL 193 290 2 16 (.agg #[(.int .u64 0), (.int .i64 0)]) := ⟨⟨_, _, _, B74⟩, ⟨_, B8N⟩, rfl⟩
instance : TG 200 2 (.agg #[(.int .i64 0), (.int .i64 0)]) := ⟨_, _, A0y, rfl⟩
instance : TG 218 4 (.agg #[(.int .i64 0), (.string (ByteArray.mk #[])), (.int .i64 0), (.int .i64 0)]) := ⟨_, _, A2A, rfl⟩
instance : SL 228 124 1 8 .nilFunc := ⟨⟨_, _, _, B1k⟩, ⟨_, B1V⟩, rfl⟩
instance : TS 229 (.slice none 0 0) := ⟨_, _, A6s, rfl⟩
instance : SL 229 266 1 16 .nilIface := ⟨⟨_, _, _, A6s⟩, ⟨_, B1b⟩, rfl⟩
instance : SL 259 158 2 16 (.agg #[(.int .i64 0), (.int .i64 0)]) := ⟨⟨_, _, _, B1j⟩, ⟨_, A6j⟩, rfl⟩
instance : TG 263 0 (.agg #[]) := ⟨_, _, A5a, rfl⟩
instance : TS 266 .nilIface := ⟨_, _, B1b, rfl⟩
instance : TS 281 (.slice none 0 0) := ⟨_, _, A89, rfl⟩
instance : SL 281 284 2 16 (.agg #[(.int .u64 0), (.int .i64 0)]) := ⟨⟨_, _, _, A89⟩, ⟨_, A33⟩, rfl⟩
instance : TG 284 2 (.agg #[(.int .u64 0), (.int .i64 0)]) := ⟨_, _, A33, rfl⟩
instance : TS 301 (.slice none 0 0) := ⟨_, _, A9A, rfl⟩
instance : SL 301 5 1 1 (.int .u8 0) := ⟨⟨_, _, _, A9A⟩, ⟨_, ty5⟩, rfl⟩
instance : TS 324 (.slice none 0 0) := ⟨_, _, B1u, rfl⟩
instance : TS 326 .nilFunc := ⟨_, _, B72, rfl⟩
instance : TS 368 .nilFunc := ⟨_, _, B76, rfl⟩
instance : TS 370 (.int .u64 0) := ⟨_, _, B5K, rfl⟩
@[simp] theorem B7x (a : Option Addr) (x y : Operand) (K : Value → WP) : A6 PR (F3 .eql 131 x y (.pointer a) (.pointer none)) K = K (.bool a.isNone) := funext fun w => B1P a x y K w
@[simp] theorem C0G (a0 b0 : Int) (a1 b1 : Int) (x y : Operand) (K : Value → WP) : A6 PR (F3 .eql 200 x y (.agg #[.int .i64 a0, .int .i64 a1]) (.agg #[.int .i64 b0, .int .i64 b1])) K = K (.bool (decide (a0 = b0) && (decide (a1 = b1) && true))) := funext fun w => B3N a0 b0 a1 b1 x y K w
@[simp] theorem B96 (a : Option Addr) (x y : Operand) (K : Value → WP) : A6 PR (F3 .eql 26 x y (.pointer a) (.pointer none)) K = K (.bool a.isNone) := funext fun w => B21 a x y K w
@[simp] theorem C09 (a0 b0 : Bool) (a1 b1 : Bool) (a2 b2 : Bool) (x y : Operand) (K : Value → WP) : A6 PR (F3 .eql 42 x y (.agg #[.bool a0, .bool a1, .bool a2]) (.agg #[.bool b0, .bool b1, .bool b2])) K = K (.bool ((a0 == b0) && ((a1 == b1) && ((a2 == b2) && true)))) := funext fun w => B37 a0 b0 a1 b1 a2 b2 x y K w
@[simp] theorem C0x (a0 b0 : Int) (a1 b1 : Int) (a2 b2 : Bool) (a3 b3 : Int) (x y : Operand) (K : Value → WP) : A6 PR (F3 .eql 55 x y (.agg #[.int .i64 a0, .int .i64 a1, .bool a2, .int .i64 a3]) (.agg #[.int .i64 b0, .int .i64 b1, .bool b2, .int .i64 b3])) K = K (.bool (decide (a0 = b0) && (decide (a1 = b1) && ((a2 == b2) && (decide (a3 = b3) && true))))) := funext fun w => B4K a0 b0 a1 b1 a2 b2 a3 b3 x y K w
@[simp] theorem B9s (a : Option Addr) (x y : Operand) (K : Value → WP) : A6 PR (F3 .eql 61 x y (.pointer a) (.pointer none)) K = K (.bool a.isNone) := funext fun w => B2z a x y K w
@[simp] theorem B9J (a : Option Addr) (x y : Operand) (K : Value → WP) : A6 PR (F3 .neq 131 x y (.pointer a) (.pointer none)) K = K (.bool (!a.isNone)) := funext fun w => B1M a x y K w
@[simp] theorem B9v (a : Option Addr) (x y : Operand) (K : Value → WP) : A6 PR (F3 .neq 26 x y (.pointer a) (.pointer none)) K = K (.bool (!a.isNone)) := funext fun w => B2Z a x y K w
@[simp] theorem C0J (a : Option Addr) (x y : Operand) (K : Value → WP) : A6 PR (F3 .neq 33 x y (.pointer a) (.pointer none)) K = K (.bool (!a.isNone)) := funext fun w => B3M a x y K w
@[simp] theorem B9p (a : Option Addr) (x y : Operand) (K : Value → WP) : A6 PR (F3 .neq 34 x y (.pointer a) (.pointer none)) K = K (.bool (!a.isNone)) := funext fun w => B2u a x y K w
@[simp] theorem B9u (a : Option Addr) (x y : Operand) (K : Value → WP) : A6 PR (F3 .neq 35 x y (.pointer a) (.pointer none)) K = K (.bool (!a.isNone)) := funext fun w => B2s a x y K w
@[simp] theorem C0b (a : Option Addr) (x y : Operand) (K : Value → WP) : A6 PR (F3 .neq 61 x y (.pointer a) (.pointer none)) K = K (.bool (!a.isNone)) := funext fun w => B2e a x y K w
end Go.Proofs.YtjobgnabneddjaaGreat
namespace Go.Proofs.YtjobgnabneddjaaGreat
open Go
def B1p (n i : Nat) : List Value := [.int .i64 (i : Int), .int .u64 (8 * ((n : Int) - 1 - i))]
abbrev B2H (b : Nat) : Value := .func (.func 243) #[] #[.pointer (some ⟨b, 0, none⟩)]
theorem B38 (w : World) (n : Int) : Fn PR B8 199 #[.int .i64 n] w (Rn [] w (fun b v => v = B2H b) fun b => [.pt b (.cells #[.int .i64 n] 3)]) := by
 refine A7x (TW.go (κ := false) (S := []) ?_)
 unfold A3H
 (have zz:=trivial;repeat((first|clear zz|with_reducible first|refine A3 ?_|refine A5 fun _=>?_|refine A4 fun _=>?_);try simp(disch:=first|omega|assumption|((repeat(first|exact A1|exact uH|apply A2|apply uT));first|done|fail)|(simp;first|done|omega|fail))[]))
 rename_i b
 exact A1G b rfl (by simp)
theorem B34 (b : Nat) {n : Nat} (hn : n ≤ 8) : A1z (B2H b) [.pt b (.cells #[.int .i64 (n : Int)] 3)] (fun _ _ => True) ((List.range n).map (B1p n)) := by
 refine ⟨_, _, _, rfl, fun l J E hJ hE stJ stE hy w0 h0 => ?_⟩
 refine A5u (A5z (TW.at (κ := true) ?_ (hJ _ _ _ h0).1))
 unfold A0p
 (have zz:=trivial;repeat((first|clear zz|with_reducible first|refine A3 ?_|refine A5 fun _=>?_|refine A4 fun _=>?_);try simp(disch:=first|omega|assumption|((repeat(first|exact A1|exact uH|apply A2|apply uT));first|done|fail)|(simp;first|done|omega|fail))[]))
 refine A0P n (fun i => i) (fun _ => _) hJ stJ h0 fun i a hi hJi _ L hL => ?_
 by_cases hlt : i < n
 ·(have zz:=trivial;repeat((first|clear zz|with_reducible first|refine A3 ?_|refine A5 fun _=>?_|refine A4 fun _=>?_);try simp(disch:=first|omega|assumption|((repeat(first|exact A1|exact uH|apply A2|apply uT));first|done|fail)|(simp;first|done|omega|fail))[hlt]))
  refine A3a hJ hE stJ hy hJi (by simpa using hlt) (by simp [B1p]) (fun w3 h => ?_) (fun w3 h => ?_)
  ·(have zz:=trivial;repeat((first|clear zz|with_reducible first|refine A3 ?_|refine A5 fun _=>?_|refine A4 fun _=>?_);try simp(disch:=first|omega|assumption|((repeat(first|exact A1|exact uH|apply A2|apply uT));first|done|fail)|(simp;first|done|omega|fail))[]))
   exact fun w' hw' => hL hlt w' (stJ _ _ _ _ _ h hw')
  ·(have zz:=trivial;repeat((first|clear zz|with_reducible first|refine A3 ?_|refine A5 fun _=>?_|refine A4 fun _=>?_);try simp(disch:=first|omega|assumption|((repeat(first|exact A1|exact uH|apply A2|apply uT));first|done|fail)|(simp;first|done|omega|fail))[]))
   exact A1J stE h
 ·obtain rfl : i = n := by omega
  (have zz:=trivial;repeat((first|clear zz|with_reducible first|refine A3 ?_|refine A5 fun _=>?_|refine A4 fun _=>?_);try simp(disch:=first|omega|assumption|((repeat(first|exact A1|exact uH|apply A2|apply uT));first|done|fail)|(simp;first|done|omega|fail))[]))
  exact A1M stJ (by simpa using hJi)
def u3 (s : ByteArray) (i : Nat) : Nat := (s.data.getD i 0).toNat
def beV (s : ByteArray) (a : Nat) : Nat → Nat
 | 0 => 0
 | i + 1 => beV s a i * 256 + u3 s (a + i)
theorem B3G (s : ByteArray) (i : Nat) : u3 s i < 256 := (s.data.getD i 0).toNat_lt
theorem B4k {s : ByteArray} {i : Nat} (h : i < s.size) : ∃ b : UInt8, s[i]? = some b ∧ b.toNat = u3 s i := by
 refine ⟨s[i], by simp [h], ?_⟩
 have h' : i < s.data.size := h
 have e : s.data.getD i 0 = s[i] := by rw [Array.getD_eq_getD_getElem?, Array.getElem?_eq_getElem h']; rfl
 rw [u3, e]
def A86 (v : Int) (n i : Nat) : Int := IntKind.u8.wrap (v.fdiv (2 ^ min (8 * ((n : Int) - 1 - i)).toNat IntKind.u64.bits))
def l5 (v : Int) (n i : Nat) : List Int := (List.range n).map fun j => if j < i then A86 v n j else 0
def A4u (v n : Int) : ByteArray := if 1 ≤ n ∧ n ≤ 8 then A07 (l5 v n.toNat n.toNat) else ByteArray.mk #[]
theorem B4Z (v : Int) {n i : Nat} (h : i < n) : (l5 v n i).set i (A86 v n i) = l5 v n (i + 1) := by
 apply List.ext_getElem (by simp [l5])
 intro j h1 h2
 simp only [l5, List.length_set, List.length_map, List.length_range] at h1
 rw [List.getElem_set]
 simp only [l5, List.getElem_map, List.getElem_range]
 by_cases hij : i = j
 ·subst hij; simp
 ·by_cases hj : j < i
  ·simp [hij, hj, Nat.lt_succ_of_lt hj]
  ·have : ¬ j < i + 1 := by omega
   simp [hij, hj, this]
def A2N (v : Int) (n i : Nat) : Array Value := ((l5 v n i).map (Value.int .u8)).toArray
theorem B3C (v : Int) {m : Nat} (h : m ≤ 8) : Builtin.zeroCells (Value.int .u8 0).cells m = A2N v m 0 := by
 have : m = 0 ∨ m = 1 ∨ m = 2 ∨ m = 3 ∨ m = 4 ∨ m = 5 ∨ m = 6 ∨ m = 7 ∨ m = 8 := by omega
 rcases this with rfl | rfl | rfl | rfl | rfl | rfl | rfl | rfl | rfl <;>
  (apply Array.ext'; simp [Builtin.zeroCells, A2N, l5, List.range, List.range.loop])
@[simp] theorem C0e {v n : Int} (h1 : 1 ≤ n) (h2 : n ≤ 8) : (A4u v n).size = n.toNat := by simp [A4u, h1, h2, l5]
theorem A9V (w : World) (v n : Int) :
  Fn PR B8 176 #[.int .u64 v, .int .i64 n] w (fun u w' => u = .string (A4u v n) ∧ D0 [] w w') := by
 refine Fn.pure (A99 (TW.go (κ := false) (S := []) ?_))
 unfold A4d
 by_cases hok : 1 ≤ n ∧ n ≤ 8
 case neg =>
  have hv : A4u v n = ByteArray.mk #[] := if_neg hok
  rw [hv]
  by_cases h1 : n < 1
  ·(have zz:=trivial;repeat((first|clear zz|with_reducible first|refine A3 ?_|refine A5 fun _=>?_|refine A4 fun _=>?_);try simp(disch:=first|omega|assumption|((repeat(first|exact A1|exact uH|apply A2|apply uT));first|done|fail)|(simp;first|done|omega|fail))[h1])); exact B9 rfl
  ·have h2 : 8 < n := by omega
   (have zz:=trivial;repeat((first|clear zz|with_reducible first|refine A3 ?_|refine A5 fun _=>?_|refine A4 fun _=>?_);try simp(disch:=first|omega|assumption|((repeat(first|exact A1|exact uH|apply A2|apply uT));first|done|fail)|(simp;first|done|omega|fail))[h1, h2])); exact B9 rfl
 have hv : A4u v n = A07 (l5 v n.toNat n.toNat) := if_pos hok
 rw [hv]
 obtain ⟨m, rfl⟩ : ∃ m : Nat, n = m := ⟨n.toNat, by omega⟩
 have h1 : ¬ (m : Int) < 1 := by omega
 have h2 : ¬ 8 < (m : Int) := by omega
 (have zz:=trivial;repeat((first|clear zz|with_reducible first|refine A3 ?_|refine A5 fun _=>?_|refine A4 fun _=>?_);try simp(disch:=first|omega|assumption|((repeat(first|exact A1|exact uH|apply A2|apply uT));first|done|fail)|(simp;first|done|omega|fail))[h1, h2]))
 refine A3N (by omega) (by omega) (by omega) (by omega) fun bs => ?_
 rw [Int.toNat_natCast, B3C v (by omega)]
 (have zz:=trivial;repeat((first|clear zz|with_reducible first|refine A3 ?_|refine A5 fun _=>?_|refine A4 fun _=>?_);try simp(disch:=first|omega|assumption|((repeat(first|exact A1|exact uH|apply A2|apply uT));first|done|fail)|(simp;first|done|omega|fail))[h1, h2]))
 rename_i bv bb
 refine N4 A6y (fun w' _ => B38 w' m) ?_
 rintro b v rfl
 refine A17 (B34 b (n := m) (by omega)) (by simp [B1p]) (fun _ (_ : Unit) => True) (fun i _ => [.pt bb (.cells #[.slice (some ⟨bs, 0, none⟩) m m] 301),
   .own 5 1 (.slice (some ⟨bs, 0, none⟩) m m) m (A2N v m i).toList, .pt bv (.cells #[.int .u64 v] 89)])
  (fun _ (_ : Unit) => False) (fun _ => []) () trivial ?_ ?_ ?_ ?_ (by simp)
 ·intros; trivial
 ·rintro i hi _ F _ K' hK _
  have hi' : i < m := by simpa using hi
  have hsh : (0 : Int) ≤ 8 * ((m : Int) - 1 - i) := by omega
  simp only [List.getElem_map, List.getElem_range, B1p, VF.app]
  (have zz:=trivial;repeat((first|clear zz|with_reducible first|refine A3 ?_|refine A5 fun _=>?_|refine A4 fun _=>?_);try simp(disch:=first|omega|assumption|((repeat(first|exact A1|exact uH|apply A2|apply uT));first|done|fail)|(simp;first|done|omega|fail))[]))
  refine U1 (by (repeat constructor)) (by simp) (by simp [A2N, l5]; omega) (by simp) ?_
  refine TW.eqH ?_ (hK () trivial)
  have e : U0 (A2N v m i).toList i [.int .u8 (A86 v m i)] = (A2N v m (i + 1)).toList := by
   rw [B0A (by simp [A2N, l5]; omega)]; simp [A2N, ← B4Z v hi', List.map_set]
  rw [← e]; simp [A86]
 ·rintro _ _
  (have zz:=trivial;repeat((first|clear zz|with_reducible first|refine A3 ?_|refine A5 fun _=>?_|refine A4 fun _=>?_);try simp(disch:=first|omega|assumption|((repeat(first|exact A1|exact uH|apply A2|apply uT));first|done|fail)|(simp;first|done|omega|fail))[]))
  have hlen : (l5 v m m).length = m := by simp [l5]
  have := fun w' K (hr : M5 w' bs 0 ((l5 v m m).map (Value.int .u8))) => @B0Y K w' bs 0 m _ hr
  rw [hlen] at this
  rw [B8U fun w' hw' => this w' _ (by simpa [A2N] using hw'.ownr (e := 5) (k := 1) (q := m) (c := m) (xs := (A2N v m m).toList) (by (repeat constructor)))]
  simp only [B86]
  exact B9 rfl
 ·rintro _ _ h; exact h.elim
end Go.Proofs.YtjobgnabneddjaaGreat
