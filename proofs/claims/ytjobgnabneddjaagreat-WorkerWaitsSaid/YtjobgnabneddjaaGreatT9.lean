/- The proof of a given statement, a part of it (ShStd ShOctet Ins Tc Tn Oct). No condition but what each lemma says. -/
import Derived.Test.YtjobgnabneddjaaGreatT8
set_option linter.unusedVariables false
set_option linter.unusedSimpArgs false
namespace Go.Proofs.YtjobgnabneddjaaGreat
open Go
def P6 (X : Nat → Prop) (t0 : Value) (R : Value → WP) : WP :=
 jn (n := 1) (fun t2 =>
 B1 PR X (Instr.buildSlice 84 0 #[]) fun t5 =>
 B1 PR X (A8 .append #[84, 84] 84 [t5, t0]) fun t7 =>
 R t7) fun J1 =>
 A6 PR (G0 .eql 84 (.tmp 3) (.const (.slice none 0 0)) t0 (.slice none 0 0)) fun t4 =>
 D4 t4 (
 R (.slice none 0 0)) (
 J1 (.slice none 0 0))
theorem Z7 : B0 PR 122 := A7 Tryz.func122 (by kernel_rfl) rfl
theorem b9 {X : Nat → Prop} {t0 : Value} {R : Value → WP} {w : World} (h : P6 X t0 R w) : Fn PR X 122 #[t0] w R := C4 (args := [t0]) mixed Tryz.func122 (by kernel_rfl) h
def T9 (X : Nat → Prop) (t0 t1 : Value) (R : Value → WP) : WP :=
 B5 PR X 232 [t0] fun t7 =>
 A0 PR (B8 t0) fun t10 =>
 A0 PR (Instr.fieldAt 303 t10 1) fun t11 =>
 A6 PR (Instr.loadAt 301 t11) fun t12 =>
 B1 PR X (A8 .append #[301, 9] 301 [t12, t1]) fun t14 =>
 A0 PR (B8 t0) fun t15 =>
 A0 PR (Instr.fieldAt 303 t15 1) fun t16 =>
 C1 PR X (Instr.storeAt 301 t16 t14) <|
 A0 PR (A8 .len #[9] 0 [t1]) fun t18 =>
 R (.tuple #[t18, .nilIface])
theorem H7 : B0 PR 173 := A7 Tryz.func173 (by kernel_rfl) rfl
theorem n5 {X : Nat → Prop} {t0 t1 : Value} {R : Value → WP} {w : World} (h : T9 X t0 t1 R w) : Fn PR X 173 #[t0, t1] w R := C4 (args := [t0, t1]) mixed Tryz.func173 (by kernel_rfl) h
def Y3 (X : Nat → Prop) (t0 : Value) (R : Value → WP) : WP :=
 drw <|
 A0 PR (B8 t0) fun t4 =>
 A0 PR (Instr.fieldAt 303 t4 1) fun t5 =>
 A6 PR (Instr.loadAt 301 t5) fun t6 =>
 A0 PR (B8 t0) fun t9 =>
 A0 PR (Instr.fieldAt 303 t9 1) fun t10 =>
 A6 PR (Instr.loadAt 301 t10) fun t11 =>
 A0 PR (A8 .len #[301] 0 [t11]) fun t12 =>
 B1 PR X (A8 .unsafeSliceData #[301] 363 [t6]) fun t7 =>
 watch PR [(none, (Instr.loadAt 301 t10), t11)] <|
 B1 PR X (A8 .unsafeString #[363, 3] 9 [t7, t12]) fun t13 =>
 R t13
theorem A0f : B0 PR 174 := A7 Tryz.func174 (by kernel_rfl) rfl
theorem A00 {X : Nat → Prop} {t0 : Value} {R : Value → WP} {w : World} (h : Y3 X t0 R w) : Fn PR X 174 #[t0] w R := C4 (args := [t0]) mixed Tryz.func174 (by kernel_rfl) h
def Z4 (X : Nat → Prop) (t0 t1 : Value) (R : Value → WP) : WP :=
 A0 PR (B8 t0) fun t6 =>
 A0 PR (Instr.fieldAt 137 t6 2) fun t7 =>
 B5 PR X 234 [t7, t1] fun t9 =>
 R t9
theorem A0z : B0 PR 178 := A7 Tryz.func178 (by kernel_rfl) rfl
theorem A1K {X : Nat → Prop} {t0 t1 : Value} {R : Value → WP} {w : World} (h : Z4 X t0 t1 R w) : Fn PR X 178 #[t0, t1] w R := C4 (args := [t0, t1]) mixed Tryz.func178 (by kernel_rfl) h
def A3l (X : Nat → Prop) (t0 t1 : Value) (R : Value → WP) : WP :=
 jn (n := 2) (fun t5 t6 =>
 R t5) fun J1 =>
 lp (n := 2) (fun L2 t5_1 t6_1 =>
 jn (n := 0) (
 A0 PR (binOp .add 3 t5_1 t6_1) fun t14 =>
 A0 PR (convert 3 242 t14) fun t15 =>
 A0 PR (binOp .shr 242 t15 (.int .u64 1)) fun t16 =>
 A0 PR (convert 242 3 t16) fun t17 =>
 G8 PR X t1 [t17] fun t20 =>
 A0 PR (Op.unary .not t20) fun t21 =>
 D4 t21 (
 A0 PR (binOp .add 3 t17 (.int .i64 1)) fun t23 =>
 L2 t23 t6_1) (
 L2 t5_1 t17)) fun J3 =>
 A0 PR (binOp .lss 3 t5_1 t6_1) fun t11 =>
 D4 t11 (
 J3) (
 J1 t5_1 t6_1)) (.int .i64 0) t0
theorem A8p : B0 PR 210 := A7 Tryz.func210 (by kernel_rfl) rfl
theorem A88 {X : Nat → Prop} {t0 t1 : Value} {R : Value → WP} {w : World} (h : A3l X t0 t1 R w) : Fn PR X 210 #[t0, t1] w R := C4 (args := [t0, t1]) mixed Tryz.func210 (by kernel_rfl) h
def V3 (X : Nat → Prop) (t0 : Value) (R : Value → WP) : WP :=
 A0 PR (B8 t0) fun t3 =>
 A0 PR (Instr.fieldAt 303 t3 0) fun t4 =>
 A6 PR (Instr.loadAt 300 t4) fun t5 =>
 A6 PR (G0 .eql 300 (.tmp 5) (.const (.pointer none)) t5 (.pointer none)) fun t6 =>
 D4 t6 (
 A6 PR (convert 300 391 t0) fun t9 =>
 B5 PR X 264 [t9] fun t10 =>
 A6 PR (convert 391 300 t10) fun t11 =>
 A0 PR (B8 t0) fun t12 =>
 A0 PR (Instr.fieldAt 303 t12 0) fun t13 =>
 C1 PR X (Instr.storeAt 300 t13 t11) <|
 R (.tuple #[])) (
 A0 PR (B8 t0) fun t15 =>
 A0 PR (Instr.fieldAt 303 t15 0) fun t16 =>
 A6 PR (Instr.loadAt 300 t16) fun t17 =>
 A6 PR (G0 .neq 300 (.tmp 17) (.tmp 18) t17 t0) fun t19 =>
 D4 t19 (
 F5) (
 R (.tuple #[])))
theorem s9 : B0 PR 232 := A7 Tryz.func232 (by kernel_rfl) rfl
theorem y2 {X : Nat → Prop} {t0 : Value} {R : Value → WP} {w : World} (h : V3 X t0 R w) : Fn PR X 232 #[t0] w R := C4 (args := [t0]) mixed Tryz.func232 (by kernel_rfl) h
def L8 (X : Nat → Prop) (t0 t1 : Value) (R : Value → WP) : WP :=
 jn (n := 2) (fun t4 t8 =>
 R (.int .i64 (-1))) fun J1 =>
 A0 PR (A8 .len #[58] 0 [t0]) fun t7 =>
 lp (n := 2) (fun L2 t4_1 t8_1 =>
 A0 PR (binOp .lss 3 t8_1 t7) fun t9 =>
 jn (n := 0) (
 jn (n := 1) (fun t4_2 =>
 A0 PR (binOp .add 3 t8_1 (.int .i64 1)) fun t18 =>
 L2 t4_2 t18) fun J3 =>
 A0 PR (Instr.indexAt 58 t0 t8_1) fun t14 =>
 A6 PR (Instr.loadAt 155 t14) fun t15 =>
 G8 PR X t1 [t15] fun t16 =>
 D4 t16 (
 R t8_1) (
 J3 t4_1)) fun J4 =>
 D4 t9 (
 J4) (
 J1 t4_1 t8_1)) (.int .i64 0) (.int .i64 0)
theorem U1 : B0 PR 266 := A7 Tryz.func266 (by kernel_rfl) rfl
theorem U8 {X : Nat → Prop} {t0 t1 : Value} {R : Value → WP} {w : World} (h : L8 X t0 t1 R w) : Fn PR X 266 #[t0, t1] w R := C4 (args := [t0, t1]) mixed Tryz.func266 (by kernel_rfl) h
theorem A0J : B0 PR 341 := A7 Tryz.func341 (by kernel_rfl) rfl
end Go.Proofs.YtjobgnabneddjaaGreat
namespace Go.Proofs.YtjobgnabneddjaaGreat
open Go
def A5U (X : Nat → Prop) (t0 t1 t2 : Value) (R : Value → WP) : WP :=
 B1 PR X (Instr.box 9 t0) fun t3 =>
 B1 PR X (Instr.box 3 t1) fun t4 =>
 jn (n := 2) (fun t6 t7 =>
 B1 PR X (Instr.alloc 89 true (.tuple #[])) fun t8 =>
 jn (n := 0) (
 A6 PR (Instr.loadAt 89 t8) fun t43 =>
 V7 (R (.tuple #[t43, (.bool true)]))) fun J1 =>
 B5 PR X 199 [t2] fun t30 =>
 rng (N := 2) PR X (fun t31 t32 K2 =>
 bgn <|
 drw <|
 A6 PR (Instr.loadAt 89 t8) fun t33 =>
 A6 PR (Instr.loadAt 9 t3) fun t34 =>
 A6 PR (Instr.loadAt 3 t4) fun t35 =>
 A0 PR (binOp .add 3 t35 t31) fun t37 =>
 A0 PR (Instr.index 9 t34 t37) fun t38 =>
 A0 PR (convert 5 89 t38) fun t39 =>
 A0 PR (binOp .shl 89 t39 t32) fun t41 =>
 A0 PR (binOp .or 89 t33 t41) fun t42 =>
 C1 PR (fun _ => False) (Instr.storeAt 89 t8 t42) <|
 K2 none) t30 (fun j => match j with | none => (J1) | some (.exit i) => (match Nat.beq i 0 with | true => (J1) | false => (F5)) | some .ret => (V7 (R (.tuple #[t6, t7]))) | some _ => F5)) fun J3 =>
 A0 PR (binOp .lss 3 t2 (.int .i64 1)) fun t12 =>
 gj t12 false (fun J => J t2) fun t14 =>
 gj t12 false (fun J => A0 PR (binOp .gtr 3 t14 (.int .i64 8)) J) fun t15 =>
 A0 PR (do pure (if ← asBool t12 then (.bool true) else t15)) fun t16 =>
 gj t16 false (fun J => A6 PR (Instr.loadAt 3 t4) J) fun t18 =>
 gj t16 false (fun J => A0 PR (binOp .lss 3 t18 (.int .i64 0)) J) fun t19 =>
 A0 PR (do pure (if ← asBool t16 then (.bool true) else t19)) fun t20 =>
 gj t20 false (fun J => A6 PR (Instr.loadAt 3 t4) J) fun t22 =>
 gj t20 false (fun J => A6 PR (Instr.loadAt 9 t3) J) fun t23 =>
 gj t20 false (fun J => A0 PR (A8 .len #[9] 0 [t23]) J) fun t24 =>
 gj t20 false (fun J => J t2) fun t25 =>
 gj t20 false (fun J => A0 PR (binOp .sub 3 t24 t25) J) fun t26 =>
 gj t20 false (fun J => A0 PR (binOp .gtr 3 t22 t26) J) fun t27 =>
 A0 PR (do pure (if ← asBool t20 then (.bool true) else t27)) fun t28 =>
 D4 t28 (
 V7 (R (.tuple #[(.int .u64 0), (.bool false)]))) (
 J3 (.int .u64 0) (.bool false))
theorem N1 : B0 PR 145 := A7 Tryz.func145 (by kernel_rfl) rfl
theorem B2a {X : Nat → Prop} {t0 t1 t2 : Value} {R : Value → WP} {w : World} (h : A5U X t0 t1 t2 R w) : Fn PR X 145 #[t0, t1, t2] w R := C4 (args := [t0, t1, t2]) mixed Tryz.func145 (by kernel_rfl) h
def A5m (X : Nat → Prop) (t0 t1 : Value) (R : Value → WP) : WP :=
 B1 PR X (Instr.box 89 t0) fun t2 =>
 jn (n := 1) (fun t4 =>
 B1 PR X (Instr.makeSlice 301 t1 t1) fun t15 =>
 B1 PR X (Instr.alloc 301 true (.tuple #[])) fun t5 =>
 C1 PR X (Instr.storeAt 301 t5 t15) <|
 jn (n := 0) (
 A6 PR (Instr.loadAt 301 t5) fun t27 =>
 A6 PR (convert 301 9 t27) fun t28 =>
 V7 (R t28)) fun J1 =>
 B5 PR X 199 [t1] fun t17 =>
 rng (N := 2) PR X (fun t18 t19 K2 =>
 bgn <|
 A6 PR (Instr.loadAt 301 t5) fun t20 =>
 A6 PR (Instr.loadAt 89 t2) fun t22 =>
 A0 PR (binOp .shr 89 t22 t19) fun t24 =>
 A0 PR (convert 89 5 t24) fun t25 =>
 A0 PR (Instr.indexAt 301 t20 t18) fun t26 =>
 C1 PR (fun _ => False) (Instr.storeAt 5 t26 t25) <|
 K2 none) t17 (fun j => match j with | none => (J1) | some (.exit i) => (match Nat.beq i 0 with | true => (J1) | false => (F5)) | some .ret => (V7 (R t4)) | some _ => F5)) fun J3 =>
 A0 PR (binOp .lss 3 t1 (.int .i64 1)) fun t9 =>
 gj t9 false (fun J => J t1) fun t11 =>
 gj t9 false (fun J => A0 PR (binOp .gtr 3 t11 (.int .i64 8)) J) fun t12 =>
 A0 PR (do pure (if ← asBool t9 then (.bool true) else t12)) fun t13 =>
 D4 t13 (
 V7 (R (.string (ByteArray.mk #[])))) (
 J3 (.string (ByteArray.mk #[])))
theorem G7 : B0 PR 176 := A7 Tryz.func176 (by kernel_rfl) rfl
theorem B1N {X : Nat → Prop} {t0 t1 : Value} {R : Value → WP} {w : World} (h : A5m X t0 t1 R w) : Fn PR X 176 #[t0, t1] w R := C4 (args := [t0, t1]) mixed Tryz.func176 (by kernel_rfl) h
def A3K (X : Nat → Prop) (t0 : Value) (R : Value → WP) : WP :=
 B1 PR X (Instr.box 3 t0) fun t1 =>
 A0 PR (Instr.makeFunc (.func 243) #[] #[t1]) fun t3 =>
 R t3
theorem A18 : B0 PR 199 := A7 Tryz.func199 (by kernel_rfl) rfl
theorem A9H {X : Nat → Prop} {t0 : Value} {R : Value → WP} {w : World} (h : A3K X t0 R w) : Fn PR X 199 #[t0] w R := C4 (args := [t0]) mixed Tryz.func199 (by kernel_rfl) h
def A0r (X : Nat → Prop) (t0 t1 : Value) (R : Value → WP) : WP :=
 A6 PR (Instr.loadAt 3 t1) fun t4 =>
 lp (n := 1) (fun L1 t5 =>
 A0 PR (binOp .lss 3 t5 t4) fun t6 =>
 jn (n := 0) (
 jn (n := 0) (
 A0 PR (binOp .add 3 t5 (.int .i64 1)) fun t18 =>
 L1 t18) fun J2 =>
 A6 PR (Instr.loadAt 3 t1) fun t10 =>
 A0 PR (binOp .sub 3 t10 (.int .i64 1)) fun t11 =>
 A0 PR (binOp .sub 3 t11 t5) fun t13 =>
 A0 PR (binOp .mul 3 (.int .i64 8) t13) fun t14 =>
 A0 PR (convert 3 242 t14) fun t15 =>
 G8 PR X t0 [t5, t15] fun t16 =>
 A0 PR (Op.unary .not t16) fun t17 =>
 D4 t17 (
 R (.tuple #[])) (
 J2)) fun J3 =>
 D4 t6 (
 J3) (
 R (.tuple #[]))) (.int .i64 0)
theorem A6B : B0 PR 243 := A7 Tryz.func243 (by kernel_rfl) rfl
theorem A6p {X : Nat → Prop} {t0 t1 : Value} {R : Value → WP} {w : World} (h : A0r X t0 t1 R w) : Fn PR X 243 #[t0, t1] w R := C4 (args := [t0, t1]) mixed Tryz.func243 (by kernel_rfl) h
theorem A6s {X : Nat → Prop} {t0 t1 : Value} {K : Value → WP} {w : World} (h : Fn PR X 243 #[t0, t1] w K) : y6 PR X 243 [t0, t1] K w := ⟨A6B, h⟩
end Go.Proofs.YtjobgnabneddjaaGreat
namespace Go.Proofs.YtjobgnabneddjaaGreat
open Go
theorem B8m : TI PR 144 Tryz.t144.desc 10 80 (.agg #[.nilFunc, .nilFunc, .nilFunc, .nilFunc, .nilFunc, .nilFunc, .nilFunc, .nilFunc, .nilFunc, .nilFunc]) := ⟨Tryz.underlying144, Tryz.t144, by kernel_rfl, rfl, rfl, rfl⟩
theorem A3z : TI PR 148 Tryz.t147.desc 3 24 (.agg #[(.int .i64 0), (.int .i64 0), (.int .i64 0)]) := ⟨Tryz.underlying148, Tryz.t148, by kernel_rfl, rfl, rfl, rfl⟩
theorem B4Y : TI PR 155 Tryz.t154.desc 2 16 (.agg #[(.int .i64 0), (.int .i64 0)]) := ⟨Tryz.underlying155, Tryz.t155, by kernel_rfl, rfl, rfl, rfl⟩
theorem C3L : TI PR 180 Tryz.t180.desc 1 8 .nilFunc := ⟨Tryz.underlying180, Tryz.t180, by kernel_rfl, rfl, rfl, rfl⟩
theorem A6Y : TI PR 195 Tryz.t194.desc 2 48 (.agg #[(.slice none 0 0), (.slice none 0 0)]) := ⟨Tryz.underlying195, Tryz.t195, by kernel_rfl, rfl, rfl, rfl⟩
theorem A0B : TI PR 218 Tryz.t217.desc 4 40 (.agg #[(.int .i64 0), (.string (ByteArray.mk #[])), (.int .i64 0), (.int .i64 0)]) := ⟨Tryz.underlying218, Tryz.t218, by kernel_rfl, rfl, rfl, rfl⟩
theorem A6j : TI PR 224 Tryz.t223.desc 3 40 (.agg #[(.string (ByteArray.mk #[])), (.string (ByteArray.mk #[])), (.int .i64 0)]) := ⟨Tryz.underlying224, Tryz.t224, by kernel_rfl, rfl, rfl, rfl⟩
theorem A6a : TI PR 226 Tryz.t223.desc 3 40 (.agg #[(.string (ByteArray.mk #[])), (.string (ByteArray.mk #[])), (.int .i64 0)]) := ⟨Tryz.underlying226, Tryz.t226, by kernel_rfl, rfl, rfl, rfl⟩
theorem B09 : TI PR 27 Tryz.t3.desc 1 8 (.int .i64 0) := ⟨Tryz.underlying27, Tryz.t27, by kernel_rfl, rfl, rfl, rfl⟩
theorem L4 : TI PR 3 Tryz.t3.desc 1 8 (.int .i64 0) := ⟨Tryz.underlying3, Tryz.t3, by kernel_rfl, rfl, rfl, rfl⟩
theorem A04 : TI PR 301 Tryz.t301.desc 1 24 (.slice none 0 0) := ⟨Tryz.underlying301, Tryz.t301, by kernel_rfl, rfl, rfl, rfl⟩
theorem A6U : TI PR 303 Tryz.t302.desc 2 32 (.agg #[(.pointer none), (.slice none 0 0)]) := ⟨Tryz.underlying303, Tryz.t303, by kernel_rfl, rfl, rfl, rfl⟩
theorem B82 : TI PR 305 Tryz.t304.desc 2 32 (.agg #[(.pointer none), (.slice none 0 0)]) := ⟨Tryz.underlying305, Tryz.t305, by kernel_rfl, rfl, rfl, rfl⟩
theorem B4F : TI PR 324 Tryz.t84.desc 1 24 (.slice none 0 0) := ⟨Tryz.underlying324, Tryz.t324, by kernel_rfl, rfl, rfl, rfl⟩
theorem A6m : TI PR 330 Tryz.t329.desc 2 16 (.agg #[.nilFunc, (.int .i64 0)]) := ⟨Tryz.underlying330, Tryz.t330, by kernel_rfl, rfl, rfl, rfl⟩
theorem B4B : TI PR 355 Tryz.t355.desc 38 38 (.agg #[(.int .u8 0), (.int .u8 0), (.int .u8 0), (.int .u8 0), (.int .u8 0), (.int .u8 0), (.int .u8 0), (.int .u8 0), (.int .u8 0), (.int .u8 0), (.int .u8 0), (.int .u8 0), (.int .u8 0), (.int .u8 0), (.int .u8 0), (.int .u8 0), (.int .u8 0), (.int .u8 0), (.int .u8 0), (.int .u8 0), (.int .u8 0), (.int .u8 0), (.int .u8 0), (.int .u8 0), (.int .u8 0), (.int .u8 0), (.int .u8 0), (.int .u8 0), (.int .u8 0), (.int .u8 0), (.int .u8 0), (.int .u8 0), (.int .u8 0), (.int .u8 0), (.int .u8 0), (.int .u8 0), (.int .u8 0), (.int .u8 0)]) := ⟨Tryz.underlying355, Tryz.t355, by kernel_rfl, rfl, rfl, rfl⟩
theorem C3N : TI PR 368 Tryz.t368.desc 1 8 .nilFunc := ⟨Tryz.underlying368, Tryz.t368, by kernel_rfl, rfl, rfl, rfl⟩
theorem B8s : TI PR 370 Tryz.t89.desc 1 8 (.int .u64 0) := ⟨Tryz.underlying370, Tryz.t370, by kernel_rfl, rfl, rfl, rfl⟩
theorem A7b : TI PR 42 Tryz.t41.desc 3 3 (.agg #[(.bool false), (.bool false), (.bool false)]) := ⟨Tryz.underlying42, Tryz.t42, by kernel_rfl, rfl, rfl, rfl⟩
theorem A1N : TI PR 45 Tryz.t44.desc 6 64 (.agg #[(.int .i64 0), (.string (ByteArray.mk #[])), (.string (ByteArray.mk #[])), (.int .i64 0), (.int .i64 0), (.int .i64 0)]) := ⟨Tryz.underlying45, Tryz.t45, by kernel_rfl, rfl, rfl, rfl⟩
theorem A9M : TI PR 47 Tryz.t46.desc 7 72 (.agg #[(.int .i64 0), (.string (ByteArray.mk #[])), (.string (ByteArray.mk #[])), (.int .i64 0), (.int .i64 0), (.int .i64 0), (.int .i64 0)]) := ⟨Tryz.underlying47, Tryz.t47, by kernel_rfl, rfl, rfl, rfl⟩
theorem B38 : TI PR 51 Tryz.t51.desc 1 24 (.slice none 0 0) := ⟨Tryz.underlying51, Tryz.t51, by kernel_rfl, rfl, rfl, rfl⟩
theorem A7j : TI PR 55 Tryz.t54.desc 4 32 (.agg #[(.int .i64 0), (.int .i64 0), (.bool false), (.int .i64 0)]) := ⟨Tryz.underlying55, Tryz.t55, by kernel_rfl, rfl, rfl, rfl⟩
theorem A5Y : TI PR 84 Tryz.t84.desc 1 24 (.slice none 0 0) := ⟨Tryz.underlying84, Tryz.t84, by kernel_rfl, rfl, rfl, rfl⟩
theorem A9k : TI PR 89 Tryz.t89.desc 1 8 (.int .u64 0) := ⟨Tryz.underlying89, Tryz.t89, by kernel_rfl, rfl, rfl, rfl⟩
theorem B8z : TI PR 193 Tryz.t193.desc 1 24 (.slice none 0 0) := ⟨Tryz.underlying193, Tryz.t193, by kernel_rfl, rfl, rfl, rfl⟩
theorem B4d : TI PR 290 Tryz.t283.desc 2 16 (.agg #[(.int .u64 0), (.int .i64 0)]) := ⟨Tryz.underlying290, Tryz.t290, by kernel_rfl, rfl, rfl, rfl⟩
theorem B07 : TI PR 36 Tryz.t36.desc 1 24 (.slice none 0 0) := ⟨Tryz.underlying36, Tryz.t36, by kernel_rfl, rfl, rfl, rfl⟩
theorem A7J : TI PR 37 Tryz.t37.desc 1 24 (.slice none 0 0) := ⟨Tryz.underlying37, Tryz.t37, by kernel_rfl, rfl, rfl, rfl⟩
theorem m4 : TI PR 9 Tryz.t9.desc 1 16 (.string (ByteArray.mk #[])) := ⟨Tryz.underlying9, Tryz.t9, by kernel_rfl, rfl, rfl, rfl⟩
theorem C1C : TI PR 58 Tryz.t58.desc 1 24 (.slice none 0 0) := ⟨Tryz.underlying58, Tryz.t58, by kernel_rfl, rfl, rfl, rfl⟩
theorem A6W : TI PR 128 Tryz.t127.desc 4 48 (.agg #[(.string (ByteArray.mk #[])), (.string (ByteArray.mk #[])), (.int .i64 0), (.bool false)]) := ⟨Tryz.underlying128, Tryz.t128, by kernel_rfl, rfl, rfl, rfl⟩
@[simp] theorem C2r {v0 : Value} (h0 : v0.cells.size = 1) (K : Value → WP) : A0 PR (Instr.build 128 #[(0, v0)]) K = K (.agg (E3 #[(.string (ByteArray.mk #[])), (.string (ByteArray.mk #[])), (.int .i64 0), (.bool false)] 0 v0.cells.toList)) := F2 (pl := #[(0, 1), (1, 1), (2, 1), (3, 1)]) A6W (fun w => by kernel_rfl) (by rw [B6 rfl h0 (by simp [C0])]; rfl)
theorem A02 : TI PR 130 Tryz.t129.desc 14 144 (.agg #[(.string (ByteArray.mk #[])), (.string (ByteArray.mk #[])), (.int .i64 0), (.bool false), (.int .i64 0), (.int .i64 0), (.int .i64 0), (.int .i64 0), (.int .i64 0), (.slice none 0 0), (.int .i64 0), (.int .i64 0), (.bool false), (.int .i64 0)]) := ⟨Tryz.underlying130, Tryz.t130, by kernel_rfl, rfl, rfl, rfl⟩
@[simp] theorem C0e {v0 v1 : Value} (h0 : v0.cells.size = 4) (h1 : v1.cells.size = 1) (K : Value → WP) : A0 PR (Instr.build 130 #[(0, v0), (1, v1)]) K = K (.agg (E3 (E3 #[(.string (ByteArray.mk #[])), (.string (ByteArray.mk #[])), (.int .i64 0), (.bool false), (.int .i64 0), (.int .i64 0), (.int .i64 0), (.int .i64 0), (.int .i64 0), (.slice none 0 0), (.int .i64 0), (.int .i64 0), (.bool false), (.int .i64 0)] 0 v0.cells.toList) 4 v1.cells.toList)) := F2 (pl := #[(0, 4), (4, 1), (5, 1), (6, 1), (7, 1), (8, 1), (9, 1), (10, 4)]) A02 (fun w => by kernel_rfl) (by rw [B6 rfl h0 (by simp [C0]), B6 rfl h1 (by simp [C0])]; rfl)
theorem B0u : TI PR 141 Tryz.t140.desc 3 56 (.agg #[(.int .i64 0), (.slice none 0 0), (.slice none 0 0)]) := ⟨Tryz.underlying141, Tryz.t141, by kernel_rfl, rfl, rfl, rfl⟩
@[simp] theorem C0q {v0 v1 : Value} (h0 : v0.cells.size = 1) (h1 : v1.cells.size = 1) (K : Value → WP) : A0 PR (Instr.build 141 #[(1, v0), (2, v1)]) K = K (.agg (E3 (E3 #[(.int .i64 0), (.slice none 0 0), (.slice none 0 0)] 1 v0.cells.toList) 2 v1.cells.toList)) := F2 (pl := #[(0, 1), (1, 1), (2, 1)]) B0u (fun w => by kernel_rfl) (by rw [B6 rfl h0 (by simp [C0]), B6 rfl h1 (by simp [C0])]; rfl)
@[simp] theorem C38  (K : Value → WP) : A0 PR (Instr.build 148 #[]) K = K (.agg #[(.int .i64 0), (.int .i64 0), (.int .i64 0)]) := F2 (pl := #[(0, 1), (1, 1), (2, 1)]) A3z (fun w => by kernel_rfl) rfl
@[simp] theorem C0z {v0 v1 : Value} (h0 : v0.cells.size = 1) (h1 : v1.cells.size = 1) (K : Value → WP) : A0 PR (Instr.build 148 #[(0, v0), (1, v1)]) K = K (.agg (E3 (E3 #[(.int .i64 0), (.int .i64 0), (.int .i64 0)] 0 v0.cells.toList) 1 v1.cells.toList)) := F2 (pl := #[(0, 1), (1, 1), (2, 1)]) A3z (fun w => by kernel_rfl) (by rw [B6 rfl h0 (by simp [C0]), B6 rfl h1 (by simp [C0])]; rfl)
@[simp] theorem C0L {v0 v1 v2 : Value} (h0 : v0.cells.size = 1) (h1 : v1.cells.size = 1) (h2 : v2.cells.size = 1) (K : Value → WP) : A0 PR (Instr.build 148 #[(0, v0), (1, v1), (2, v2)]) K = K (.agg (E3 (E3 (E3 #[(.int .i64 0), (.int .i64 0), (.int .i64 0)] 0 v0.cells.toList) 1 v1.cells.toList) 2 v2.cells.toList)) := F2 (pl := #[(0, 1), (1, 1), (2, 1)]) A3z (fun w => by kernel_rfl) (by rw [B6 rfl h0 (by simp [C0]), B6 rfl h1 (by simp [C0]), B6 rfl h2 (by simp [C0])]; rfl)
theorem C2F : TI PR 203 Tryz.t202.desc 17 136 (.agg #[(.int .i64 0), (.int .i64 0), (.int .i64 0), (.int .i64 0), (.int .i64 0), (.int .i64 0), (.int .i64 0), (.int .i64 0), (.int .i64 0), (.int .i64 0), (.int .i64 0), (.int .i64 0), (.int .i64 0), (.int .i64 0), (.int .i64 0), (.int .i64 0), (.int .i64 0)]) := ⟨Tryz.underlying203, Tryz.t203, by kernel_rfl, rfl, rfl, rfl⟩
@[simp] theorem C2P {v0 : Value} (h0 : v0.cells.size = 1) (K : Value → WP) : A0 PR (Instr.build 203 #[(1, v0)]) K = K (.agg (E3 #[(.int .i64 0), (.int .i64 0), (.int .i64 0), (.int .i64 0), (.int .i64 0), (.int .i64 0), (.int .i64 0), (.int .i64 0), (.int .i64 0), (.int .i64 0), (.int .i64 0), (.int .i64 0), (.int .i64 0), (.int .i64 0), (.int .i64 0), (.int .i64 0), (.int .i64 0)] 16 v0.cells.toList)) := F2 (pl := #[(0, 16), (16, 1)]) C2F (fun w => by kernel_rfl) (by rw [B6 rfl h0 (by simp [C0])]; rfl)
@[simp] theorem B8G {v0 v1 v2 v3 : Value} (h0 : v0.cells.size = 1) (h1 : v1.cells.size = 1) (h2 : v2.cells.size = 1) (h3 : v3.cells.size = 1) (K : Value → WP) : A0 PR (Instr.build 218 #[(0, v0), (1, v1), (2, v2), (3, v3)]) K = K (.agg (E3 (E3 (E3 (E3 #[(.int .i64 0), (.string (ByteArray.mk #[])), (.int .i64 0), (.int .i64 0)] 0 v0.cells.toList) 1 v1.cells.toList) 2 v2.cells.toList) 3 v3.cells.toList)) := F2 (pl := #[(0, 1), (1, 1), (2, 1), (3, 1)]) A0B (fun w => by kernel_rfl) (by rw [B6 rfl h0 (by simp [C0]), B6 rfl h1 (by simp [C0]), B6 rfl h2 (by simp [C0]), B6 rfl h3 (by simp [C0])]; rfl)
@[simp] theorem C2w {v0 : Value} (h0 : v0.cells.size = 1) (K : Value → WP) : A0 PR (Instr.build 218 #[(0, v0)]) K = K (.agg (E3 #[(.int .i64 0), (.string (ByteArray.mk #[])), (.int .i64 0), (.int .i64 0)] 0 v0.cells.toList)) := F2 (pl := #[(0, 1), (1, 1), (2, 1), (3, 1)]) A0B (fun w => by kernel_rfl) (by rw [B6 rfl h0 (by simp [C0])]; rfl)
@[simp] theorem C5A  (K : Value → WP) : A0 PR (Instr.build 224 #[]) K = K (.agg #[(.string (ByteArray.mk #[])), (.string (ByteArray.mk #[])), (.int .i64 0)]) := F2 (pl := #[(0, 1), (1, 1), (2, 1)]) A6j (fun w => by kernel_rfl) rfl
@[simp] theorem B9s {v0 v1 v2 : Value} (h0 : v0.cells.size = 1) (h1 : v1.cells.size = 1) (h2 : v2.cells.size = 1) (K : Value → WP) : A0 PR (Instr.build 224 #[(0, v0), (1, v1), (2, v2)]) K = K (.agg (E3 (E3 (E3 #[(.string (ByteArray.mk #[])), (.string (ByteArray.mk #[])), (.int .i64 0)] 0 v0.cells.toList) 1 v1.cells.toList) 2 v2.cells.toList)) := F2 (pl := #[(0, 1), (1, 1), (2, 1)]) A6j (fun w => by kernel_rfl) (by rw [B6 rfl h0 (by simp [C0]), B6 rfl h1 (by simp [C0]), B6 rfl h2 (by simp [C0])]; rfl)
@[simp] theorem C4H  (K : Value → WP) : A0 PR (Instr.build 226 #[]) K = K (.agg #[(.string (ByteArray.mk #[])), (.string (ByteArray.mk #[])), (.int .i64 0)]) := F2 (pl := #[(0, 1), (1, 1), (2, 1)]) A6a (fun w => by kernel_rfl) rfl
@[simp] theorem B9e {v0 v1 v2 : Value} (h0 : v0.cells.size = 1) (h1 : v1.cells.size = 1) (h2 : v2.cells.size = 1) (K : Value → WP) : A0 PR (Instr.build 226 #[(0, v0), (1, v1), (2, v2)]) K = K (.agg (E3 (E3 (E3 #[(.string (ByteArray.mk #[])), (.string (ByteArray.mk #[])), (.int .i64 0)] 0 v0.cells.toList) 1 v1.cells.toList) 2 v2.cells.toList)) := F2 (pl := #[(0, 1), (1, 1), (2, 1)]) A6a (fun w => by kernel_rfl) (by rw [B6 rfl h0 (by simp [C0]), B6 rfl h1 (by simp [C0]), B6 rfl h2 (by simp [C0])]; rfl)
theorem A2g : TI PR 23 Tryz.t22.desc 5 40 (.agg #[(.int .i64 0), (.int .i64 0), (.int .i64 0), (.int .i64 0), (.int .i64 0)]) := ⟨Tryz.underlying23, Tryz.t23, by kernel_rfl, rfl, rfl, rfl⟩
@[simp] theorem B60 {v0 v1 v2 v3 v4 : Value} (h0 : v0.cells.size = 1) (h1 : v1.cells.size = 1) (h2 : v2.cells.size = 1) (h3 : v3.cells.size = 1) (h4 : v4.cells.size = 1) (K : Value → WP) : A0 PR (Instr.build 23 #[(0, v0), (1, v1), (2, v2), (3, v3), (4, v4)]) K = K (.agg (E3 (E3 (E3 (E3 (E3 #[(.int .i64 0), (.int .i64 0), (.int .i64 0), (.int .i64 0), (.int .i64 0)] 0 v0.cells.toList) 1 v1.cells.toList) 2 v2.cells.toList) 3 v3.cells.toList) 4 v4.cells.toList)) := F2 (pl := #[(0, 1), (1, 1), (2, 1), (3, 1), (4, 1)]) A2g (fun w => by kernel_rfl) (by rw [B6 rfl h0 (by simp [C0]), B6 rfl h1 (by simp [C0]), B6 rfl h2 (by simp [C0]), B6 rfl h3 (by simp [C0]), B6 rfl h4 (by simp [C0])]; rfl)
theorem B80 : TI PR 231 Tryz.t230.desc 1 24 (.agg #[(.slice none 0 0)]) := ⟨Tryz.underlying231, Tryz.t231, by kernel_rfl, rfl, rfl, rfl⟩
@[simp] theorem C2d {v0 : Value} (h0 : v0.cells.size = 1) (K : Value → WP) : A0 PR (Instr.build 231 #[(0, v0)]) K = K (.agg (E3 #[(.slice none 0 0)] 0 v0.cells.toList)) := F2 (pl := #[(0, 1)]) B80 (fun w => by kernel_rfl) (by rw [B6 rfl h0 (by simp [C0])]; rfl)
@[simp] theorem C0j {v0 v1 : Value} (h0 : v0.cells.size = 1) (h1 : v1.cells.size = 1) (K : Value → WP) : A0 PR (Instr.build 330 #[(0, v0), (1, v1)]) K = K (.agg (E3 (E3 #[.nilFunc, (.int .i64 0)] 0 v0.cells.toList) 1 v1.cells.toList)) := F2 (pl := #[(0, 1), (1, 1)]) A6m (fun w => by kernel_rfl) (by rw [B6 rfl h0 (by simp [C0]), B6 rfl h1 (by simp [C0])]; rfl)
theorem B84 : TI PR 333 Tryz.t133.desc 0 0 (.agg #[]) := ⟨Tryz.underlying333, Tryz.t333, by kernel_rfl, rfl, rfl, rfl⟩
@[simp] theorem C4B  (K : Value → WP) : A0 PR (Instr.build 333 #[]) K = K (.agg #[]) := F2 (pl := #[]) B84 (fun w => by kernel_rfl) rfl
theorem B89 : TI PR 334 Tryz.t133.desc 0 0 (.agg #[]) := ⟨Tryz.underlying334, Tryz.t334, by kernel_rfl, rfl, rfl, rfl⟩
@[simp] theorem C3v  (K : Value → WP) : A0 PR (Instr.build 334 #[]) K = K (.agg #[]) := F2 (pl := #[]) B89 (fun w => by kernel_rfl) rfl
theorem A6Q : TI PR 39 Tryz.t38.desc 11 120 (.agg #[(.int .i64 0), (.int .i64 0), (.int .i64 0), (.int .i64 0), (.int .i64 0), (.pointer none), (.pointer none), (.pointer none), (.slice none 0 0), (.slice none 0 0), (.int .i64 0)]) := ⟨Tryz.underlying39, Tryz.t39, by kernel_rfl, rfl, rfl, rfl⟩
@[simp] theorem C44 {v0 : Value} (h0 : v0.cells.size = 5) (K : Value → WP) : A0 PR (Instr.build 39 #[(0, v0)]) K = K (.agg (E3 #[(.int .i64 0), (.int .i64 0), (.int .i64 0), (.int .i64 0), (.int .i64 0), (.pointer none), (.pointer none), (.pointer none), (.slice none 0 0), (.slice none 0 0), (.int .i64 0)] 0 v0.cells.toList)) := F2 (pl := #[(0, 5), (5, 1), (6, 1), (7, 1), (8, 1), (9, 1), (10, 1)]) A6Q (fun w => by kernel_rfl) (by rw [B6 rfl h0 (by simp [C0])]; rfl)
@[simp] theorem C5S  (K : Value → WP) : A0 PR (Instr.build 42 #[]) K = K (.agg #[(.bool false), (.bool false), (.bool false)]) := F2 (pl := #[(0, 1), (1, 1), (2, 1)]) A7b (fun w => by kernel_rfl) rfl
@[simp] theorem C1q {v0 v1 : Value} (h0 : v0.cells.size = 1) (h1 : v1.cells.size = 1) (K : Value → WP) : A0 PR (Instr.build 42 #[(0, v0), (1, v1)]) K = K (.agg (E3 (E3 #[(.bool false), (.bool false), (.bool false)] 0 v0.cells.toList) 1 v1.cells.toList)) := F2 (pl := #[(0, 1), (1, 1), (2, 1)]) A7b (fun w => by kernel_rfl) (by rw [B6 rfl h0 (by simp [C0]), B6 rfl h1 (by simp [C0])]; rfl)
@[simp] theorem C4d {v0 : Value} (h0 : v0.cells.size = 1) (K : Value → WP) : A0 PR (Instr.build 42 #[(0, v0)]) K = K (.agg (E3 #[(.bool false), (.bool false), (.bool false)] 0 v0.cells.toList)) := F2 (pl := #[(0, 1), (1, 1), (2, 1)]) A7b (fun w => by kernel_rfl) (by rw [B6 rfl h0 (by simp [C0])]; rfl)
@[simp] theorem C4Q {v0 : Value} (h0 : v0.cells.size = 1) (K : Value → WP) : A0 PR (Instr.build 42 #[(1, v0)]) K = K (.agg (E3 #[(.bool false), (.bool false), (.bool false)] 1 v0.cells.toList)) := F2 (pl := #[(0, 1), (1, 1), (2, 1)]) A7b (fun w => by kernel_rfl) (by rw [B6 rfl h0 (by simp [C0])]; rfl)
@[simp] theorem C4M {v0 : Value} (h0 : v0.cells.size = 1) (K : Value → WP) : A0 PR (Instr.build 42 #[(2, v0)]) K = K (.agg (E3 #[(.bool false), (.bool false), (.bool false)] 2 v0.cells.toList)) := F2 (pl := #[(0, 1), (1, 1), (2, 1)]) A7b (fun w => by kernel_rfl) (by rw [B6 rfl h0 (by simp [C0])]; rfl)
@[simp] theorem C5T  (K : Value → WP) : A0 PR (Instr.build 45 #[]) K = K (.agg #[(.int .i64 0), (.string (ByteArray.mk #[])), (.string (ByteArray.mk #[])), (.int .i64 0), (.int .i64 0), (.int .i64 0)]) := F2 (pl := #[(0, 1), (1, 1), (2, 1), (3, 1), (4, 1), (5, 1)]) A1N (fun w => by kernel_rfl) rfl
@[simp] theorem B5A {v0 v1 v2 v3 v4 v5 : Value} (h0 : v0.cells.size = 1) (h1 : v1.cells.size = 1) (h2 : v2.cells.size = 1) (h3 : v3.cells.size = 1) (h4 : v4.cells.size = 1) (h5 : v5.cells.size = 1) (K : Value → WP) : A0 PR (Instr.build 45 #[(0, v0), (1, v1), (2, v2), (3, v3), (4, v4), (5, v5)]) K = K (.agg (E3 (E3 (E3 (E3 (E3 (E3 #[(.int .i64 0), (.string (ByteArray.mk #[])), (.string (ByteArray.mk #[])), (.int .i64 0), (.int .i64 0), (.int .i64 0)] 0 v0.cells.toList) 1 v1.cells.toList) 2 v2.cells.toList) 3 v3.cells.toList) 4 v4.cells.toList) 5 v5.cells.toList)) := F2 (pl := #[(0, 1), (1, 1), (2, 1), (3, 1), (4, 1), (5, 1)]) A1N (fun w => by kernel_rfl) (by rw [B6 rfl h0 (by simp [C0]), B6 rfl h1 (by simp [C0]), B6 rfl h2 (by simp [C0]), B6 rfl h3 (by simp [C0]), B6 rfl h4 (by simp [C0]), B6 rfl h5 (by simp [C0])]; rfl)
@[simp] theorem B8q {v0 v1 v2 v3 : Value} (h0 : v0.cells.size = 1) (h1 : v1.cells.size = 1) (h2 : v2.cells.size = 1) (h3 : v3.cells.size = 1) (K : Value → WP) : A0 PR (Instr.build 45 #[(0, v0), (1, v1), (2, v2), (5, v3)]) K = K (.agg (E3 (E3 (E3 (E3 #[(.int .i64 0), (.string (ByteArray.mk #[])), (.string (ByteArray.mk #[])), (.int .i64 0), (.int .i64 0), (.int .i64 0)] 0 v0.cells.toList) 1 v1.cells.toList) 2 v2.cells.toList) 5 v3.cells.toList)) := F2 (pl := #[(0, 1), (1, 1), (2, 1), (3, 1), (4, 1), (5, 1)]) A1N (fun w => by kernel_rfl) (by rw [B6 rfl h0 (by simp [C0]), B6 rfl h1 (by simp [C0]), B6 rfl h2 (by simp [C0]), B6 rfl h3 (by simp [C0])]; rfl)
@[simp] theorem C5v  (K : Value → WP) : A0 PR (Instr.build 47 #[]) K = K (.agg #[(.int .i64 0), (.string (ByteArray.mk #[])), (.string (ByteArray.mk #[])), (.int .i64 0), (.int .i64 0), (.int .i64 0), (.int .i64 0)]) := F2 (pl := #[(0, 6), (6, 1)]) A9M (fun w => by kernel_rfl) rfl
@[simp] theorem C1m {v0 v1 : Value} (h0 : v0.cells.size = 6) (h1 : v1.cells.size = 1) (K : Value → WP) : A0 PR (Instr.build 47 #[(0, v0), (1, v1)]) K = K (.agg (E3 (E3 #[(.int .i64 0), (.string (ByteArray.mk #[])), (.string (ByteArray.mk #[])), (.int .i64 0), (.int .i64 0), (.int .i64 0), (.int .i64 0)] 0 v0.cells.toList) 6 v1.cells.toList)) := F2 (pl := #[(0, 6), (6, 1)]) A9M (fun w => by kernel_rfl) (by rw [B6 rfl h0 (by simp [C0]), B6 rfl h1 (by simp [C0])]; rfl)
@[simp] theorem C35 {v0 : Value} (h0 : v0.cells.size = 6) (K : Value → WP) : A0 PR (Instr.build 47 #[(0, v0)]) K = K (.agg (E3 #[(.int .i64 0), (.string (ByteArray.mk #[])), (.string (ByteArray.mk #[])), (.int .i64 0), (.int .i64 0), (.int .i64 0), (.int .i64 0)] 0 v0.cells.toList)) := F2 (pl := #[(0, 6), (6, 1)]) A9M (fun w => by kernel_rfl) (by rw [B6 rfl h0 (by simp [C0])]; rfl)
@[simp] theorem C4P {v0 : Value} (h0 : v0.cells.size = 1) (K : Value → WP) : A0 PR (Instr.build 55 #[(0, v0)]) K = K (.agg (E3 #[(.int .i64 0), (.int .i64 0), (.bool false), (.int .i64 0)] 0 v0.cells.toList)) := F2 (pl := #[(0, 1), (1, 1), (2, 1), (3, 1)]) A7j (fun w => by kernel_rfl) (by rw [B6 rfl h0 (by simp [C0])]; rfl)
@[simp] theorem C1l {v0 v1 : Value} (h0 : v0.cells.size = 1) (h1 : v1.cells.size = 1) (K : Value → WP) : A0 PR (Instr.build 55 #[(1, v0), (2, v1)]) K = K (.agg (E3 (E3 #[(.int .i64 0), (.int .i64 0), (.bool false), (.int .i64 0)] 1 v0.cells.toList) 2 v1.cells.toList)) := F2 (pl := #[(0, 1), (1, 1), (2, 1), (3, 1)]) A7j (fun w => by kernel_rfl) (by rw [B6 rfl h0 (by simp [C0]), B6 rfl h1 (by simp [C0])]; rfl)
@[simp] theorem C30 {v0 : Value} (h0 : v0.cells.size = 1) (K : Value → WP) : A0 PR (Instr.build 55 #[(1, v0)]) K = K (.agg (E3 #[(.int .i64 0), (.int .i64 0), (.bool false), (.int .i64 0)] 1 v0.cells.toList)) := F2 (pl := #[(0, 1), (1, 1), (2, 1), (3, 1)]) A7j (fun w => by kernel_rfl) (by rw [B6 rfl h0 (by simp [C0])]; rfl)
theorem B4C : TI PR 228 Tryz.t228.desc 1 24 (.slice none 0 0) := ⟨Tryz.underlying228, Tryz.t228, by kernel_rfl, rfl, rfl, rfl⟩
theorem B43 : TI PR 124 Tryz.t124.desc 1 8 .nilFunc := ⟨Tryz.underlying124, Tryz.t124, by kernel_rfl, rfl, rfl, rfl⟩
theorem ty5 : TI PR 5 Tryz.t5.desc 1 1 (.int .u8 0) := ⟨Tryz.underlying5, Tryz.t5, by kernel_rfl, rfl, rfl, rfl⟩
theorem B4c : TI PR 375 Tryz.t375.desc 1 24 (.slice none 0 0) := ⟨Tryz.underlying375, Tryz.t375, by kernel_rfl, rfl, rfl, rfl⟩
theorem B8x : TI PR 242 Tryz.t242.desc 1 8 (.int .u64 0) := ⟨Tryz.underlying242, Tryz.t242, by kernel_rfl, rfl, rfl, rfl⟩
@[simp] theorem C25 {k : IntKind} (a : Int) (K : Value → WP) : A0 PR (convert 242 3 (.int k a)) K = K (.int .i64 (IntKind.i64.wrap a)) := A0P L4 B8x
@[simp] theorem C16 {k : IntKind} (a : Int) (K : Value → WP) : A0 PR (convert 3 242 (.int k a)) K = K (.int .u64 (IntKind.u64.wrap a)) := A0P B8x L4
@[simp] theorem C4a {k : IntKind} (a : Int) (K : Value → WP) : A0 PR (convert 3 89 (.int k a)) K = K (.int .u64 (IntKind.u64.wrap a)) := A0P A9k L4
theorem B2x {K : Value → WP} {w : World} {b o cap : Nat} {ns : List Int} (hr : L5 w b o (ns.map (Value.int .u8))) : A6 PR (convert 301 9 (.slice (some ⟨b, o, none⟩) ns.length cap)) K w = K (.string (A08 ns)) w := C3b A04 ty5 m4 hr
@[simp] theorem C5a {k : IntKind} (a : Int) (K : Value → WP) : A0 PR (convert 5 3 (.int k a)) K = K (.int .i64 (IntKind.i64.wrap a)) := A0P L4 ty5
@[simp] theorem C3V {k : IntKind} (a : Int) (K : Value → WP) : A0 PR (convert 5 370 (.int k a)) K = K (.int .u64 (IntKind.u64.wrap a)) := A0P B8s ty5
@[simp] theorem C5D {k : IntKind} (a : Int) (K : Value → WP) : A0 PR (convert 5 89 (.int k a)) K = K (.int .u64 (IntKind.u64.wrap a)) := A0P A9k ty5
@[simp] theorem C37 {k : IntKind} (a : Int) (K : Value → WP) : A0 PR (convert 89 3 (.int k a)) K = K (.int .i64 (IntKind.i64.wrap a)) := A0P L4 A9k
@[simp] theorem C4N {k : IntKind} (a : Int) (K : Value → WP) : A0 PR (convert 89 5 (.int k a)) K = K (.int .u8 (IntKind.u8.wrap a)) := A0P ty5 A9k
theorem B88 : TI PR 131 Tryz.t131.desc 1 8 (.pointer none) := ⟨Tryz.underlying131, Tryz.t131, by kernel_rfl, rfl, rfl, rfl⟩
@[simp] theorem B4S (a : Option Addr) (x y : Operand) (K : Value → WP) (w : World) : A6 PR (G0 .eql 131 x y (.pointer a) (.pointer none)) K w = K (.bool a.isNone) w := A6Z B88
theorem B8W : TI PR 26 Tryz.t26.desc 1 8 (.pointer none) := ⟨Tryz.underlying26, Tryz.t26, by kernel_rfl, rfl, rfl, rfl⟩
@[simp] theorem B5y (a : Option Addr) (x y : Operand) (K : Value → WP) (w : World) : A6 PR (G0 .eql 26 x y (.pointer a) (.pointer none)) K w = K (.bool a.isNone) w := A6Z B8W
theorem C0b : TI PR 30 Tryz.t30.desc 1 8 (.pointer none) := ⟨Tryz.underlying30, Tryz.t30, by kernel_rfl, rfl, rfl, rfl⟩
@[simp] theorem B6B (a : Option Addr) (x y : Operand) (K : Value → WP) (w : World) : A6 PR (G0 .eql 30 x y (.pointer a) (.pointer none)) K w = K (.bool a.isNone) w := A6Z C0b
theorem B0r : TI PR 300 Tryz.t300.desc 1 8 (.pointer none) := ⟨Tryz.underlying300, Tryz.t300, by kernel_rfl, rfl, rfl, rfl⟩
@[simp] theorem B4q (a : Option Addr) (x y : Operand) (K : Value → WP) (w : World) : A6 PR (G0 .eql 300 x y (.pointer a) (.pointer none)) K w = K (.bool a.isNone) w := A6Z B0r
theorem ty4 : TI PR 4 Tryz.t4.desc 1 1 (.bool false) := ⟨Tryz.underlying4, Tryz.t4, by kernel_rfl, rfl, rfl, rfl⟩
@[simp] theorem B7a (a0 b0 : Bool) (a1 b1 : Bool) (a2 b2 : Bool) (x y : Operand) (K : Value → WP) (w : World) : A6 PR (G0 .eql 42 x y (.agg #[.bool a0, .bool a1, .bool a2]) (.agg #[.bool b0, .bool b1, .bool b2])) K w = K (.bool ((a0 == b0) && ((a1 == b1) && ((a2 == b2) && true)))) w := B9B (by kernel_rfl) (A8c (e := 9999) A7b (by kernel_rfl) (j7 rfl ty4 rfl rfl rfl (A3v (e := 9998) ty4) (j7 rfl ty4 rfl rfl rfl (A3v (e := 9998) ty4) (j7 rfl ty4 rfl rfl rfl (A3v (e := 9998) ty4) (B3b)))))
@[simp] theorem B8M (a0 b0 : Int) (a1 b1 : Int) (a2 b2 : Bool) (a3 b3 : Int) (x y : Operand) (K : Value → WP) (w : World) : A6 PR (G0 .eql 55 x y (.agg #[.int .i64 a0, .int .i64 a1, .bool a2, .int .i64 a3]) (.agg #[.int .i64 b0, .int .i64 b1, .bool b2, .int .i64 b3])) K w = K (.bool (decide (a0 = b0) && (decide (a1 = b1) && ((a2 == b2) && (decide (a3 = b3) && true))))) w := B9B (by kernel_rfl) (A8c (e := 9999) A7j (by kernel_rfl) (j7 rfl B09 rfl rfl rfl (A9C (e := 9998) B09) (j7 rfl L4 rfl rfl rfl (A9C (e := 9998) L4) (j7 rfl ty4 rfl rfl rfl (A3v (e := 9998) ty4) (j7 rfl L4 rfl rfl rfl (A9C (e := 9998) L4) (B3b))))))
@[simp] theorem B47 (a : Option Addr) (x y : Operand) (K : Value → WP) (w : World) : A6 PR (G0 .neq 131 x y (.pointer a) (.pointer none)) K w = K (.bool (!a.isNone)) w := A3H B88
@[simp] theorem B6n (a : Option Addr) (x y : Operand) (K : Value → WP) (w : World) : A6 PR (G0 .neq 26 x y (.pointer a) (.pointer none)) K w = K (.bool (!a.isNone)) w := A3H B8W
theorem B7w : TI PR 33 Tryz.t33.desc 1 8 (.pointer none) := ⟨Tryz.underlying33, Tryz.t33, by kernel_rfl, rfl, rfl, rfl⟩
@[simp] theorem B6z (a : Option Addr) (x y : Operand) (K : Value → WP) (w : World) : A6 PR (G0 .neq 33 x y (.pointer a) (.pointer none)) K w = K (.bool (!a.isNone)) w := A3H B7w
theorem B8C : TI PR 34 Tryz.t34.desc 1 8 (.pointer none) := ⟨Tryz.underlying34, Tryz.t34, by kernel_rfl, rfl, rfl, rfl⟩
@[simp] theorem B56 (a : Option Addr) (x y : Operand) (K : Value → WP) (w : World) : A6 PR (G0 .neq 34 x y (.pointer a) (.pointer none)) K w = K (.bool (!a.isNone)) w := A3H B8C
theorem B7z : TI PR 35 Tryz.t35.desc 1 8 (.pointer none) := ⟨Tryz.underlying35, Tryz.t35, by kernel_rfl, rfl, rfl, rfl⟩
@[simp] theorem B50 (a : Option Addr) (x y : Operand) (K : Value → WP) (w : World) : A6 PR (G0 .neq 35 x y (.pointer a) (.pointer none)) K w = K (.bool (!a.isNone)) w := A3H B7z
theorem B5H {cs : Array Value} {v : Value} (h : cs[0]? = some v) (K : Value → WP) : A0 PR (Instr.field 55 (.agg cs) 0) K = K v := B61 (i := 0) A7j rfl B09 rfl h
@[simp] theorem C3S (b o : Nat) (K : Value → WP) : A0 PR (Instr.fieldAt 128 (.pointer (some ⟨b, o, none⟩)) 0) K = K (.pointer (some ⟨b, o, none⟩)) := B2 (i := 0) A6W rfl ⟨_, _, _, _, m4⟩ b o
@[simp] theorem C3J (b o : Nat) (K : Value → WP) : A0 PR (Instr.fieldAt 128 (.pointer (some ⟨b, o, none⟩)) 1) K = K (.pointer (some ⟨b, o + 1, none⟩)) := B2 (i := 1) A6W rfl ⟨_, _, _, _, m4⟩ b o
@[simp] theorem C10 (b o : Nat) (K : Value → WP) : A0 PR (Instr.fieldAt 128 (.pointer (some ⟨b, o, none⟩)) 2) K = K (.pointer (some ⟨b, o + 2, none⟩)) := B2 (i := 2) A6W rfl ⟨_, _, _, _, L4⟩ b o
@[simp] theorem C17 (b o : Nat) (K : Value → WP) : A0 PR (Instr.fieldAt 128 (.pointer (some ⟨b, o, none⟩)) 3) K = K (.pointer (some ⟨b, o + 3, none⟩)) := B2 (i := 3) A6W rfl ⟨_, _, _, _, ty4⟩ b o
@[simp] theorem C11 (b o : Nat) (K : Value → WP) : A0 PR (Instr.fieldAt 130 (.pointer (some ⟨b, o, none⟩)) 0) K = K (.pointer (some ⟨b, o, none⟩)) := B2 (i := 0) A02 rfl ⟨_, _, _, _, A6W⟩ b o
@[simp] theorem C2g (b o : Nat) (K : Value → WP) : A0 PR (Instr.fieldAt 130 (.pointer (some ⟨b, o, none⟩)) 1) K = K (.pointer (some ⟨b, o + 4, none⟩)) := B2 (i := 1) A02 rfl ⟨_, _, _, _, L4⟩ b o
@[simp] theorem C2S (b o : Nat) (K : Value → WP) : A0 PR (Instr.fieldAt 130 (.pointer (some ⟨b, o, none⟩)) 2) K = K (.pointer (some ⟨b, o + 5, none⟩)) := B2 (i := 2) A02 rfl ⟨_, _, _, _, L4⟩ b o
@[simp] theorem C2j (b o : Nat) (K : Value → WP) : A0 PR (Instr.fieldAt 130 (.pointer (some ⟨b, o, none⟩)) 3) K = K (.pointer (some ⟨b, o + 6, none⟩)) := B2 (i := 3) A02 rfl ⟨_, _, _, _, L4⟩ b o
@[simp] theorem C23 (b o : Nat) (K : Value → WP) : A0 PR (Instr.fieldAt 130 (.pointer (some ⟨b, o, none⟩)) 4) K = K (.pointer (some ⟨b, o + 7, none⟩)) := B2 (i := 4) A02 rfl ⟨_, _, _, _, L4⟩ b o
@[simp] theorem C1u (b o : Nat) (K : Value → WP) : A0 PR (Instr.fieldAt 130 (.pointer (some ⟨b, o, none⟩)) 5) K = K (.pointer (some ⟨b, o + 8, none⟩)) := B2 (i := 5) A02 rfl ⟨_, _, _, _, L4⟩ b o
@[simp] theorem C2b (b o : Nat) (K : Value → WP) : A0 PR (Instr.fieldAt 130 (.pointer (some ⟨b, o, none⟩)) 6) K = K (.pointer (some ⟨b, o + 9, none⟩)) := B2 (i := 6) A02 rfl ⟨_, _, _, _, A5Y⟩ b o
@[simp] theorem C3l (b o : Nat) (K : Value → WP) : A0 PR (Instr.fieldAt 130 (.pointer (some ⟨b, o, none⟩)) 7) K = K (.pointer (some ⟨b, o + 10, none⟩)) := B2 (i := 7) A02 rfl ⟨_, _, _, _, A7j⟩ b o
theorem B8y : TI PR 137 Tryz.t136.desc 1 8 (.agg #[(.int .i64 0)]) := ⟨Tryz.underlying137, Tryz.t137, by kernel_rfl, rfl, rfl, rfl⟩
theorem ty2 : TI PR 2 Tryz.t2.desc 1 8 (.int .i64 0) := ⟨Tryz.underlying2, Tryz.t2, by kernel_rfl, rfl, rfl, rfl⟩
@[simp] theorem C3G (b o : Nat) (K : Value → WP) : A0 PR (Instr.fieldAt 137 (.pointer (some ⟨b, o, none⟩)) 2) K = K (.pointer (some ⟨b, o, none⟩)) := B2 (i := 2) B8y rfl ⟨_, _, _, _, ty2⟩ b o
theorem B9E : TI PR 139 Tryz.t138.desc 1 8 (.agg #[(.int .i64 0)]) := ⟨Tryz.underlying139, Tryz.t139, by kernel_rfl, rfl, rfl, rfl⟩
@[simp] theorem C2u (b o : Nat) (K : Value → WP) : A0 PR (Instr.fieldAt 139 (.pointer (some ⟨b, o, none⟩)) 0) K = K (.pointer (some ⟨b, o, none⟩)) := B2 (i := 0) B9E rfl ⟨_, _, _, _, B8y⟩ b o
@[simp] theorem C3E (b o : Nat) (K : Value → WP) : A0 PR (Instr.fieldAt 141 (.pointer (some ⟨b, o, none⟩)) 0) K = K (.pointer (some ⟨b, o, none⟩)) := B2 (i := 0) B0u rfl ⟨_, _, _, _, B9E⟩ b o
@[simp] theorem C2J (b o : Nat) (K : Value → WP) : A0 PR (Instr.fieldAt 141 (.pointer (some ⟨b, o, none⟩)) 1) K = K (.pointer (some ⟨b, o + 1, none⟩)) := B2 (i := 1) B0u rfl ⟨_, _, _, _, A7J⟩ b o
@[simp] theorem C2W (b o : Nat) (K : Value → WP) : A0 PR (Instr.fieldAt 141 (.pointer (some ⟨b, o, none⟩)) 2) K = K (.pointer (some ⟨b, o + 2, none⟩)) := B2 (i := 2) B0u rfl ⟨_, _, _, _, A7J⟩ b o
@[simp] theorem C2T (b o : Nat) (K : Value → WP) : A0 PR (Instr.fieldAt 148 (.pointer (some ⟨b, o, none⟩)) 0) K = K (.pointer (some ⟨b, o, none⟩)) := B2 (i := 0) A3z rfl ⟨_, _, _, _, L4⟩ b o
@[simp] theorem C3a (b o : Nat) (K : Value → WP) : A0 PR (Instr.fieldAt 148 (.pointer (some ⟨b, o, none⟩)) 1) K = K (.pointer (some ⟨b, o + 1, none⟩)) := B2 (i := 1) A3z rfl ⟨_, _, _, _, L4⟩ b o
@[simp] theorem C2Z (b o : Nat) (K : Value → WP) : A0 PR (Instr.fieldAt 148 (.pointer (some ⟨b, o, none⟩)) 2) K = K (.pointer (some ⟨b, o + 2, none⟩)) := B2 (i := 2) A3z rfl ⟨_, _, _, _, L4⟩ b o
@[simp] theorem C20 (b o : Nat) (K : Value → WP) : A0 PR (Instr.fieldAt 155 (.pointer (some ⟨b, o, none⟩)) 0) K = K (.pointer (some ⟨b, o, none⟩)) := B2 (i := 0) B4Y rfl ⟨_, _, _, _, L4⟩ b o
theorem B4V : TI PR 192 Tryz.t58.desc 1 24 (.slice none 0 0) := ⟨Tryz.underlying192, Tryz.t192, by kernel_rfl, rfl, rfl, rfl⟩
@[simp] theorem C2L (b o : Nat) (K : Value → WP) : A0 PR (Instr.fieldAt 195 (.pointer (some ⟨b, o, none⟩)) 0) K = K (.pointer (some ⟨b, o, none⟩)) := B2 (i := 0) A6Y rfl ⟨_, _, _, _, B4V⟩ b o
@[simp] theorem C2D (b o : Nat) (K : Value → WP) : A0 PR (Instr.fieldAt 195 (.pointer (some ⟨b, o, none⟩)) 1) K = K (.pointer (some ⟨b, o + 1, none⟩)) := B2 (i := 1) A6Y rfl ⟨_, _, _, _, B8z⟩ b o
@[simp] theorem C3B (b o : Nat) (K : Value → WP) : A0 PR (Instr.fieldAt 218 (.pointer (some ⟨b, o, none⟩)) 0) K = K (.pointer (some ⟨b, o, none⟩)) := B2 (i := 0) A0B rfl ⟨_, _, _, _, L4⟩ b o
@[simp] theorem C3Q (b o : Nat) (K : Value → WP) : A0 PR (Instr.fieldAt 218 (.pointer (some ⟨b, o, none⟩)) 1) K = K (.pointer (some ⟨b, o + 1, none⟩)) := B2 (i := 1) A0B rfl ⟨_, _, _, _, m4⟩ b o
@[simp] theorem C14 (b o : Nat) (K : Value → WP) : A0 PR (Instr.fieldAt 218 (.pointer (some ⟨b, o, none⟩)) 2) K = K (.pointer (some ⟨b, o + 2, none⟩)) := B2 (i := 2) A0B rfl ⟨_, _, _, _, L4⟩ b o
@[simp] theorem C3m (b o : Nat) (K : Value → WP) : A0 PR (Instr.fieldAt 218 (.pointer (some ⟨b, o, none⟩)) 3) K = K (.pointer (some ⟨b, o + 3, none⟩)) := B2 (i := 3) A0B rfl ⟨_, _, _, _, L4⟩ b o
@[simp] theorem C2n (b o : Nat) (K : Value → WP) : A0 PR (Instr.fieldAt 224 (.pointer (some ⟨b, o, none⟩)) 0) K = K (.pointer (some ⟨b, o, none⟩)) := B2 (i := 0) A6j rfl ⟨_, _, _, _, m4⟩ b o
@[simp] theorem C3Z (b o : Nat) (K : Value → WP) : A0 PR (Instr.fieldAt 224 (.pointer (some ⟨b, o, none⟩)) 1) K = K (.pointer (some ⟨b, o + 1, none⟩)) := B2 (i := 1) A6j rfl ⟨_, _, _, _, m4⟩ b o
@[simp] theorem C2G (b o : Nat) (K : Value → WP) : A0 PR (Instr.fieldAt 224 (.pointer (some ⟨b, o, none⟩)) 2) K = K (.pointer (some ⟨b, o + 2, none⟩)) := B2 (i := 2) A6j rfl ⟨_, _, _, _, L4⟩ b o
@[simp] theorem C2M (b o : Nat) (K : Value → WP) : A0 PR (Instr.fieldAt 226 (.pointer (some ⟨b, o, none⟩)) 0) K = K (.pointer (some ⟨b, o, none⟩)) := B2 (i := 0) A6a rfl ⟨_, _, _, _, m4⟩ b o
@[simp] theorem C2z (b o : Nat) (K : Value → WP) : A0 PR (Instr.fieldAt 226 (.pointer (some ⟨b, o, none⟩)) 1) K = K (.pointer (some ⟨b, o + 1, none⟩)) := B2 (i := 1) A6a rfl ⟨_, _, _, _, m4⟩ b o
@[simp] theorem C2m (b o : Nat) (K : Value → WP) : A0 PR (Instr.fieldAt 226 (.pointer (some ⟨b, o, none⟩)) 2) K = K (.pointer (some ⟨b, o + 2, none⟩)) := B2 (i := 2) A6a rfl ⟨_, _, _, _, L4⟩ b o
@[simp] theorem C3p (b o : Nat) (K : Value → WP) : A0 PR (Instr.fieldAt 23 (.pointer (some ⟨b, o, none⟩)) 0) K = K (.pointer (some ⟨b, o, none⟩)) := B2 (i := 0) A2g rfl ⟨_, _, _, _, L4⟩ b o
@[simp] theorem C4J (b o : Nat) (K : Value → WP) : A0 PR (Instr.fieldAt 23 (.pointer (some ⟨b, o, none⟩)) 1) K = K (.pointer (some ⟨b, o + 1, none⟩)) := B2 (i := 1) A2g rfl ⟨_, _, _, _, L4⟩ b o
@[simp] theorem C45 (b o : Nat) (K : Value → WP) : A0 PR (Instr.fieldAt 23 (.pointer (some ⟨b, o, none⟩)) 2) K = K (.pointer (some ⟨b, o + 2, none⟩)) := B2 (i := 2) A2g rfl ⟨_, _, _, _, L4⟩ b o
@[simp] theorem C4L (b o : Nat) (K : Value → WP) : A0 PR (Instr.fieldAt 23 (.pointer (some ⟨b, o, none⟩)) 3) K = K (.pointer (some ⟨b, o + 3, none⟩)) := B2 (i := 3) A2g rfl ⟨_, _, _, _, L4⟩ b o
@[simp] theorem C33 (b o : Nat) (K : Value → WP) : A0 PR (Instr.fieldAt 23 (.pointer (some ⟨b, o, none⟩)) 4) K = K (.pointer (some ⟨b, o + 4, none⟩)) := B2 (i := 4) A2g rfl ⟨_, _, _, _, L4⟩ b o
theorem A8z : TI PR 229 Tryz.t229.desc 1 24 (.slice none 0 0) := ⟨Tryz.underlying229, Tryz.t229, by kernel_rfl, rfl, rfl, rfl⟩
@[simp] theorem C2x (b o : Nat) (K : Value → WP) : A0 PR (Instr.fieldAt 231 (.pointer (some ⟨b, o, none⟩)) 0) K = K (.pointer (some ⟨b, o, none⟩)) := B2 (i := 0) B80 rfl ⟨_, _, _, _, A8z⟩ b o
@[simp] theorem C2l (b o : Nat) (K : Value → WP) : A0 PR (Instr.fieldAt 290 (.pointer (some ⟨b, o, none⟩)) 0) K = K (.pointer (some ⟨b, o, none⟩)) := B2 (i := 0) B4d rfl ⟨_, _, _, _, A9k⟩ b o
@[simp] theorem C3K (b o : Nat) (K : Value → WP) : A0 PR (Instr.fieldAt 290 (.pointer (some ⟨b, o, none⟩)) 1) K = K (.pointer (some ⟨b, o + 1, none⟩)) := B2 (i := 1) B4d rfl ⟨_, _, _, _, L4⟩ b o
@[simp] theorem C3M (b o : Nat) (K : Value → WP) : A0 PR (Instr.fieldAt 303 (.pointer (some ⟨b, o, none⟩)) 0) K = K (.pointer (some ⟨b, o, none⟩)) := B2 (i := 0) A6U rfl ⟨_, _, _, _, B0r⟩ b o
@[simp] theorem C1x (b o : Nat) (K : Value → WP) : A0 PR (Instr.fieldAt 303 (.pointer (some ⟨b, o, none⟩)) 1) K = K (.pointer (some ⟨b, o + 1, none⟩)) := B2 (i := 1) A6U rfl ⟨_, _, _, _, A04⟩ b o
@[simp] theorem C3D (b o : Nat) (K : Value → WP) : A0 PR (Instr.fieldAt 305 (.pointer (some ⟨b, o, none⟩)) 0) K = K (.pointer (some ⟨b, o, none⟩)) := B2 (i := 0) B82 rfl ⟨_, _, _, _, A6U⟩ b o
theorem C08 : TI PR 24 Tryz.t24.desc 1 8 .nilFunc := ⟨Tryz.underlying24, Tryz.t24, by kernel_rfl, rfl, rfl, rfl⟩
@[simp] theorem C29 (b o : Nat) (K : Value → WP) : A0 PR (Instr.fieldAt 330 (.pointer (some ⟨b, o, none⟩)) 0) K = K (.pointer (some ⟨b, o, none⟩)) := B2 (i := 0) A6m rfl ⟨_, _, _, _, C08⟩ b o
@[simp] theorem C2s (b o : Nat) (K : Value → WP) : A0 PR (Instr.fieldAt 330 (.pointer (some ⟨b, o, none⟩)) 1) K = K (.pointer (some ⟨b, o + 1, none⟩)) := B2 (i := 1) A6m rfl ⟨_, _, _, _, B09⟩ b o
@[simp] theorem C4E (b o : Nat) (K : Value → WP) : A0 PR (Instr.fieldAt 39 (.pointer (some ⟨b, o, none⟩)) 0) K = K (.pointer (some ⟨b, o, none⟩)) := B2 (i := 0) A6Q rfl ⟨_, _, _, _, A2g⟩ b o
@[simp] theorem C4x (b o : Nat) (K : Value → WP) : A0 PR (Instr.fieldAt 39 (.pointer (some ⟨b, o, none⟩)) 1) K = K (.pointer (some ⟨b, o + 5, none⟩)) := B2 (i := 1) A6Q rfl ⟨_, _, _, _, B7w⟩ b o
@[simp] theorem C4c (b o : Nat) (K : Value → WP) : A0 PR (Instr.fieldAt 39 (.pointer (some ⟨b, o, none⟩)) 2) K = K (.pointer (some ⟨b, o + 6, none⟩)) := B2 (i := 2) A6Q rfl ⟨_, _, _, _, B8C⟩ b o
@[simp] theorem C36 (b o : Nat) (K : Value → WP) : A0 PR (Instr.fieldAt 39 (.pointer (some ⟨b, o, none⟩)) 3) K = K (.pointer (some ⟨b, o + 7, none⟩)) := B2 (i := 3) A6Q rfl ⟨_, _, _, _, B7z⟩ b o
@[simp] theorem C5E (b o : Nat) (K : Value → WP) : A0 PR (Instr.fieldAt 39 (.pointer (some ⟨b, o, none⟩)) 4) K = K (.pointer (some ⟨b, o + 8, none⟩)) := B2 (i := 4) A6Q rfl ⟨_, _, _, _, B07⟩ b o
@[simp] theorem C5B (b o : Nat) (K : Value → WP) : A0 PR (Instr.fieldAt 39 (.pointer (some ⟨b, o, none⟩)) 5) K = K (.pointer (some ⟨b, o + 9, none⟩)) := B2 (i := 5) A6Q rfl ⟨_, _, _, _, A7J⟩ b o
@[simp] theorem C4m (b o : Nat) (K : Value → WP) : A0 PR (Instr.fieldAt 39 (.pointer (some ⟨b, o, none⟩)) 6) K = K (.pointer (some ⟨b, o + 10, none⟩)) := B2 (i := 6) A6Q rfl ⟨_, _, _, _, L4⟩ b o
@[simp] theorem C4V (b o : Nat) (K : Value → WP) : A0 PR (Instr.fieldAt 45 (.pointer (some ⟨b, o, none⟩)) 0) K = K (.pointer (some ⟨b, o, none⟩)) := B2 (i := 0) A1N rfl ⟨_, _, _, _, L4⟩ b o
@[simp] theorem C3z (b o : Nat) (K : Value → WP) : A0 PR (Instr.fieldAt 45 (.pointer (some ⟨b, o, none⟩)) 1) K = K (.pointer (some ⟨b, o + 1, none⟩)) := B2 (i := 1) A1N rfl ⟨_, _, _, _, m4⟩ b o
@[simp] theorem C39 (b o : Nat) (K : Value → WP) : A0 PR (Instr.fieldAt 45 (.pointer (some ⟨b, o, none⟩)) 2) K = K (.pointer (some ⟨b, o + 2, none⟩)) := B2 (i := 2) A1N rfl ⟨_, _, _, _, m4⟩ b o
@[simp] theorem C4l (b o : Nat) (K : Value → WP) : A0 PR (Instr.fieldAt 45 (.pointer (some ⟨b, o, none⟩)) 3) K = K (.pointer (some ⟨b, o + 3, none⟩)) := B2 (i := 3) A1N rfl ⟨_, _, _, _, L4⟩ b o
@[simp] theorem C4C (b o : Nat) (K : Value → WP) : A0 PR (Instr.fieldAt 45 (.pointer (some ⟨b, o, none⟩)) 4) K = K (.pointer (some ⟨b, o + 4, none⟩)) := B2 (i := 4) A1N rfl ⟨_, _, _, _, L4⟩ b o
@[simp] theorem C4Z (b o : Nat) (K : Value → WP) : A0 PR (Instr.fieldAt 45 (.pointer (some ⟨b, o, none⟩)) 5) K = K (.pointer (some ⟨b, o + 5, none⟩)) := B2 (i := 5) A1N rfl ⟨_, _, _, _, L4⟩ b o
@[simp] theorem C4W (b o : Nat) (K : Value → WP) : A0 PR (Instr.fieldAt 47 (.pointer (some ⟨b, o, none⟩)) 0) K = K (.pointer (some ⟨b, o, none⟩)) := B2 (i := 0) A9M rfl ⟨_, _, _, _, A1N⟩ b o
@[simp] theorem C4q (b o : Nat) (K : Value → WP) : A0 PR (Instr.fieldAt 47 (.pointer (some ⟨b, o, none⟩)) 1) K = K (.pointer (some ⟨b, o + 6, none⟩)) := B2 (i := 1) A9M rfl ⟨_, _, _, _, L4⟩ b o
theorem T5 {k1 : IntKind} {i : Int} {s : ByteArray} {b : UInt8} (h0 : 0 ≤ i) (h1 : s[i.toNat]? = some b) (K : Value → WP) : A0 PR (Instr.index 9 (.string s) (.int k1 i)) K = K (.int .u8 b.toNat) := B7C m4 h0 h1
theorem B9G : TI PR 143 Tryz.t143.desc 1 8 .nilFunc := ⟨Tryz.underlying143, Tryz.t143, by kernel_rfl, rfl, rfl, rfl⟩
@[simp] theorem C5M {k : IntKind} {i : Int} (h0 : 0 ≤ i) (h1 : i < (10 : Nat)) (b o : Nat) (K : Value → WP) : A0 PR (Instr.indexAt 144 (.pointer (some ⟨b, o, none⟩)) (.int k i)) K = K (.pointer (some ⟨b, o + i.toNat, none⟩)) := (by simpa using B4N (K := K) B8m B9G h0 h1 b o)
@[simp] theorem C5b {k : IntKind} {i : Int} {len cap : Nat} (h0 : 0 ≤ i) (h1 : i < len) (b o : Nat) (K : Value → WP) : A0 PR (Instr.indexAt 228 (.slice (some ⟨b, o, none⟩) len cap) (.int k i)) K = K (.pointer (some ⟨b, o + i.toNat, none⟩)) := (by simpa using P1 (K := K) B4C B43 h0 h1 b o)
theorem B41 : TI PR 266 Tryz.t265.desc 1 16 .nilIface := ⟨Tryz.underlying266, Tryz.t266, by kernel_rfl, rfl, rfl, rfl⟩
@[simp] theorem C5W {k : IntKind} {i : Int} {len cap : Nat} (h0 : 0 ≤ i) (h1 : i < len) (b o : Nat) (K : Value → WP) : A0 PR (Instr.indexAt 229 (.slice (some ⟨b, o, none⟩) len cap) (.int k i)) K = K (.pointer (some ⟨b, o + i.toNat, none⟩)) := (by simpa using P1 (K := K) A8z B41 h0 h1 b o)
theorem B4y : TI PR 279 Tryz.t193.desc 1 24 (.slice none 0 0) := ⟨Tryz.underlying279, Tryz.t279, by kernel_rfl, rfl, rfl, rfl⟩
@[simp] theorem C5y {k : IntKind} {i : Int} {len cap : Nat} (h0 : 0 ≤ i) (h1 : i < len) (b o : Nat) (K : Value → WP) : A0 PR (Instr.indexAt 279 (.slice (some ⟨b, o, none⟩) len cap) (.int k i)) K = K (.pointer (some ⟨b, o + i.toNat * 2, none⟩)) := (P1 (K := K) B4y B4d h0 h1 b o)
@[simp] theorem C5z {k : IntKind} {i : Int} {len cap : Nat} (h0 : 0 ≤ i) (h1 : i < len) (b o : Nat) (K : Value → WP) : A0 PR (Instr.indexAt 301 (.slice (some ⟨b, o, none⟩) len cap) (.int k i)) K = K (.pointer (some ⟨b, o + i.toNat, none⟩)) := (by simpa using P1 (K := K) A04 ty5 h0 h1 b o)
@[simp] theorem C5L {k : IntKind} {i : Int} {len cap : Nat} (h0 : 0 ≤ i) (h1 : i < len) (b o : Nat) (K : Value → WP) : A0 PR (Instr.indexAt 324 (.slice (some ⟨b, o, none⟩) len cap) (.int k i)) K = K (.pointer (some ⟨b, o + i.toNat * 4, none⟩)) := (P1 (K := K) B4F A0B h0 h1 b o)
@[simp] theorem C6A {k : IntKind} {i : Int} {len cap : Nat} (h0 : 0 ≤ i) (h1 : i < len) (b o : Nat) (K : Value → WP) : A0 PR (Instr.indexAt 36 (.slice (some ⟨b, o, none⟩) len cap) (.int k i)) K = K (.pointer (some ⟨b, o + i.toNat, none⟩)) := (by simpa using P1 (K := K) B07 A5Y h0 h1 b o)
@[simp] theorem C6H {k : IntKind} {i : Int} {len cap : Nat} (h0 : 0 ≤ i) (h1 : i < len) (b o : Nat) (K : Value → WP) : A0 PR (Instr.indexAt 37 (.slice (some ⟨b, o, none⟩) len cap) (.int k i)) K = K (.pointer (some ⟨b, o + i.toNat, none⟩)) := (by simpa using P1 (K := K) A7J L4 h0 h1 b o)
@[simp] theorem C5j {k : IntKind} {i : Int} {len cap : Nat} (h0 : 0 ≤ i) (h1 : i < len) (b o : Nat) (K : Value → WP) : A0 PR (Instr.indexAt 375 (.slice (some ⟨b, o, none⟩) len cap) (.int k i)) K = K (.pointer (some ⟨b, o + i.toNat * 2, none⟩)) := (P1 (K := K) B4c A6m h0 h1 b o)
@[simp] theorem C6C {k : IntKind} {i : Int} {len cap : Nat} (h0 : 0 ≤ i) (h1 : i < len) (b o : Nat) (K : Value → WP) : A0 PR (Instr.indexAt 51 (.slice (some ⟨b, o, none⟩) len cap) (.int k i)) K = K (.pointer (some ⟨b, o + i.toNat, none⟩)) := (by simpa using P1 (K := K) B38 m4 h0 h1 b o)
@[simp] theorem C59 {k : IntKind} {i : Int} {len cap : Nat} (h0 : 0 ≤ i) (h1 : i < len) (b o : Nat) (K : Value → WP) : A0 PR (Instr.indexAt 58 (.slice (some ⟨b, o, none⟩) len cap) (.int k i)) K = K (.pointer (some ⟨b, o + i.toNat * 2, none⟩)) := (P1 (K := K) C1C B4Y h0 h1 b o)
@[simp] theorem C58 {k : IntKind} {i : Int} {len cap : Nat} (h0 : 0 ≤ i) (h1 : i < len) (b o : Nat) (K : Value → WP) : A0 PR (Instr.indexAt 84 (.slice (some ⟨b, o, none⟩) len cap) (.int k i)) K = K (.pointer (some ⟨b, o + i.toNat * 4, none⟩)) := (P1 (K := K) A5Y A0B h0 h1 b o)
@[simp] theorem C3w (a : Option Addr) (n c : Nat) (K : Value → WP) : A0 PR (A8 .len #[192] 0 [.slice a n c]) K = K (.int .i64 n) := j4 B4V a n c
@[simp] theorem C4e (a : Option Addr) (n c : Nat) (K : Value → WP) : A0 PR (A8 .len #[228] 0 [.slice a n c]) K = K (.int .i64 n) := j4 B4C a n c
@[simp] theorem C4v (a : Option Addr) (n c : Nat) (K : Value → WP) : A0 PR (A8 .len #[229] 0 [.slice a n c]) K = K (.int .i64 n) := j4 A8z a n c
@[simp] theorem C4y (a : Option Addr) (n c : Nat) (K : Value → WP) : A0 PR (A8 .len #[279] 0 [.slice a n c]) K = K (.int .i64 n) := j4 B4y a n c
@[simp] theorem C4U (a : Option Addr) (n c : Nat) (K : Value → WP) : A0 PR (A8 .len #[301] 0 [.slice a n c]) K = K (.int .i64 n) := j4 A04 a n c
@[simp] theorem C4p (a : Option Addr) (n c : Nat) (K : Value → WP) : A0 PR (A8 .len #[324] 0 [.slice a n c]) K = K (.int .i64 n) := j4 B4F a n c
@[simp] theorem C5Z (a : Option Addr) (n c : Nat) (K : Value → WP) : A0 PR (A8 .len #[36] 0 [.slice a n c]) K = K (.int .i64 n) := j4 B07 a n c
@[simp] theorem C5Y (a : Option Addr) (n c : Nat) (K : Value → WP) : A0 PR (A8 .len #[37] 0 [.slice a n c]) K = K (.int .i64 n) := j4 A7J a n c
@[simp] theorem C4F (a : Option Addr) (n c : Nat) (K : Value → WP) : A0 PR (A8 .len #[375] 0 [.slice a n c]) K = K (.int .i64 n) := j4 B4c a n c
@[simp] theorem C5k (a : Option Addr) (n c : Nat) (K : Value → WP) : A0 PR (A8 .len #[51] 0 [.slice a n c]) K = K (.int .i64 n) := j4 B38 a n c
@[simp] theorem C5N (a : Option Addr) (n c : Nat) (K : Value → WP) : A0 PR (A8 .len #[58] 0 [.slice a n c]) K = K (.int .i64 n) := j4 C1C a n c
@[simp] theorem C5r (a : Option Addr) (n c : Nat) (K : Value → WP) : A0 PR (A8 .len #[84] 0 [.slice a n c]) K = K (.int .i64 n) := j4 A5Y a n c
@[simp] theorem C6B (s : ByteArray) (K : Value → WP) : A0 PR (A8 .len #[9] 0 [.string s]) K = K (.int .i64 s.size) := C0a m4 s
@[simp] theorem C5s (v : Value) (K : Value → WP) : A0 PR (Instr.makeInterface 333 v) K = K (.iface 333 v) := A9v B84 (by intro ms h; cases h) v
@[simp] theorem C5u (v : Value) (K : Value → WP) : A0 PR (Instr.makeInterface 334 v) K = K (.iface 334 v) := A9v B89 (by intro ms h; cases h) v
@[simp] theorem C15 (b o : Nat) (K : Value → WP) : A0 PR (Instr.sliceAt 355 (.pointer (some ⟨b, o, none⟩)) none none none) K = K (.slice (some ⟨b, o, none⟩) 38 38) := B6M B4B ty5 b o
@[simp] theorem C6N {k1 : IntKind} {hi : Int} {s : ByteArray} (h0 : 0 ≤ hi) (h1 : hi ≤ s.size) (K : Value → WP) : A0 PR (Instr.sliceAt 9 (.string s) none (some (.int k1 hi)) none) K = K (.string (s.extract 0 hi.toNat)) := B5P m4 h0 h1
@[simp] theorem C6P {k1 : IntKind} {lo : Int} {s : ByteArray} (h0 : 0 ≤ lo) (h1 : lo ≤ s.size) (K : Value → WP) : A0 PR (Instr.sliceAt 9 (.string s) (some (.int k1 lo)) none none) K = K (.string (s.extract lo.toNat s.size)) := B59 m4 h0 h1
@[simp] theorem C6S {k1 k2 : IntKind} {lo hi : Int} {s : ByteArray} (h0 : 0 ≤ lo) (h1 : lo ≤ hi) (h2 : hi ≤ s.size) (K : Value → WP) : A0 PR (Instr.sliceAt 9 (.string s) (some (.int k1 lo)) (some (.int k2 hi)) none) K = K (.string (s.extract lo.toNat hi.toNat)) := B8Z m4 h0 h1 h2
theorem B0y : TI PR 250 Tryz.t249.desc 1 16 .nilIface := ⟨Tryz.underlying250, Tryz.t250, by kernel_rfl, rfl, rfl, rfl⟩
theorem B0z : TI PR 251 Tryz.t251.desc 1 8 (.map none) := ⟨Tryz.underlying251, Tryz.t251, by kernel_rfl, rfl, rfl, rfl⟩
end Go.Proofs.YtjobgnabneddjaaGreat
namespace Go.Proofs.YtjobgnabneddjaaGreat
open Go
@[simp] theorem B6p (a b : ByteArray) : (a == b) = decide (a = b) := by
 obtain ⟨x⟩ := a; obtain ⟨y⟩ := b
 have h : ((⟨x⟩ : ByteArray) == ⟨y⟩) = (x == y) := rfl
 rw [h]
 by_cases e : x = y
 ·subst e; simp
 ·simp [e]
@[simp] theorem C3c (a : Array UInt8) : (ByteArray.mk a).size = a.size := rfl
theorem B2d (ns : List Int) : (A08 ns).data.toList = ns.map fun n => UInt8.ofNat n.toNat := by
 have : ∀ (l : List Int) (r : ByteArray), (l.foldl (fun r n => r.push (UInt8.ofNat n.toNat)) r).data.toList = r.data.toList ++ l.map fun n => UInt8.ofNat n.toNat := by
  intro l
  induction l with
  | nil => intro r; simp
  | cons x l ih => intro r; rw [List.foldl_cons, ih]; simp [ByteArray.push]
 have h := this ns ByteArray.empty
 rw [show ByteArray.empty.data.toList = [] from rfl, List.nil_append] at h
 exact h
@[simp] theorem C1e (ns : List Int) : (A08 ns).size = ns.length := by
 have := congrArg List.length (B2d ns)
 rw [List.length_map] at this
 exact this
class TS (t : TypeId) (z : outParam Value) : Prop where
 ti : ∃ d m, TI PR t d 1 m z ∧ M2 d = false
class TG (t : TypeId) (n : outParam Nat) (z : outParam Value) : Prop where
 ti : ∃ d m, TI PR t d n m z ∧ M2 d = true
class TA (t : TypeId) (n : outParam Nat) (z : outParam Value) : Prop where
 ti : ∃ d m, TI PR t d n m z
class SL (t : TypeId) (e : outParam TypeId) (k by' : outParam Nat) (z : outParam Value) : Prop where
 ti : (∃ n m z', TI PR t (.slice e) n m z') ∧ (∃ d, TI PR e d k by' z) ∧ z.cells.size = k
instance TS.ta {t : TypeId} {z : Value} [h : TS t z] : TA t 1 z := ⟨let ⟨d, m, h, _⟩ := h.ti; ⟨d, m, h⟩⟩
instance TG.ta {t : TypeId} {n : Nat} {z : Value} [h : TG t n z] : TA t n z := ⟨let ⟨d, m, h, _⟩ := h.ti; ⟨d, m, h⟩⟩
def rdq (x : Option (List Value)) (G : List Value → WP) (F : WP) : WP := match x with | some l => G l | none => F
@[simp] theorem B1q (l : List Value) (G : List Value → WP) (F : WP) : rdq (some l) G F = G l := id rfl
@[congr] theorem C32 {x x' : Option (List Value)} {G : List Value → WP} {F : WP} (h : x = x') {q : Nat} (hq : S4 = q) : rdq x G F = rdq x' G F := by rw [h]
@[simp] theorem C5l (xs : List Value) : Y2 xs 0 0 = some [] := by simp [Y2]
@[simp] theorem C3j (x : Value) (xs : List Value) (n : Nat) : Y2 (x :: xs) 0 (n + 1) = (Y2 xs 0 n).map (x :: ·) := by
 simp only [Y2, Nat.zero_add, List.length_cons, List.drop_zero, List.take_succ_cons]
 by_cases h : n ≤ xs.length
 ·rw [if_pos h, if_pos (by omega)]; rfl
 ·rw [if_neg h, if_neg (by omega)]; rfl
inductive Sel (r : Res) : List Res → List Res → Prop where
 | here {H : List Res} : Sel r (r :: H) H
 | there {x : Res} {H H' : List Res} : Sel r H H' → Sel r (x :: H) (x :: H')
theorem Sel.perm {r : Res} {H Hr : List Res} (h : Sel r H Hr) : H.Perm (r :: Hr) := by
 induction h with
 | here => exact .refl _
 | there _ ih => exact (ih.cons _).trans (.swap ..)
theorem Sel.sub {r : Res} {H Hr : List Res} (h : Sel r H Hr) : Hr.Sublist H := by
 induction h with
 | here => exact List.sublist_cons_self ..
 | there _ ih => exact ih.cons_cons _
theorem A1 {r : Res} {H : List Res} : r ∈ r :: H := List.mem_cons_self ..
theorem uH {r r' : Res} {H : List Res} : Up r r' (r :: H) (r' :: H) := Up.here
theorem uT {r r' x : Res} {H H' : List Res} (h : Up r r' H H') : Up r r' (x :: H) (x :: H') := Up.there h
theorem A2 {r x : Res} {H : List Res} (h : r ∈ H) : r ∈ x :: H := List.mem_cons_of_mem _ h
inductive Sels : List Res → List Res → Prop where
 | nil {H : List Res} : Sels [] H
 | cons {r : Res} {rs H Hr : List Res} : Sel r H Hr → Sels rs Hr → Sels (r :: rs) H
theorem Sels.sub {rs H : List Res} (h : Sels rs H) : ∃ H', H.Perm H' ∧ rs.Sublist H' := by
 induction h with
 | nil => exact ⟨_, .refl _, List.nil_sublist _⟩
 | cons h1 _ ih => obtain ⟨H', h2, h3⟩ := ih; exact ⟨_ :: H', h1.perm.trans (h2.cons _), h3.cons_cons _⟩
theorem Sels.lw {κ : Bool} {S : List Nat} {w0 w : World} {rs H : List Res} (h : Sels rs H) (hw : LW κ S w0 H w) : LW κ S w0 rs w := let ⟨_, h1, h2⟩ := h.sub; (hw.perm h1).sub h2
theorem Sels.tw {κ : Bool} {S : List Nat} {w0 : World} {rs H : List Res} {K : WP} (h : Sels rs H) (hk : TW κ S w0 rs K) : TW κ S w0 H K := fun w hw => hk w (h.lw hw)
inductive Part : List Res → List Res → List Res → Prop where
 | nil {H : List Res} : Part [] H H
 | cons {r : Res} {rs H H1 Hk : List Res} : Sel r H H1 → Part rs H1 Hk → Part (r :: rs) H Hk
theorem Part.perm {Hc H Hk : List Res} (h : Part Hc H Hk) : H.Perm (Hc ++ Hk) := by
 induction h with
 | nil => exact .refl _
 | cons h1 _ ih => exact h1.perm.trans (ih.cons _)
theorem C6 {κ : Bool} {X : Nat → Prop} {S : List Nat} {w0 : World} {H Hk Hc : List Res} {K : Value → WP} {f : FuncId} {args : List Value} {α : Type} {φ : α → Value → Prop} {Hn : α → List Res} (he : B0 PR f)
  (hf : ∀ w, LW κ S w0 (Hc ++ Hk) w → LW false (B3 Hc) w Hc w → Fn PR B7 f args.toArray w (Rn (B3 Hc) w φ Hn)) (hp : Part Hc H Hk) (hK : ∀ a v, φ a v → TW κ S w0 (Hn a ++ Hk) (K v)) : TW κ S w0 H (B5 PR X f args K) :=
 A74 he hp.perm (fun w hw => let h := hw.perm hp.perm; hf w h (h.sub (List.sublist_append_left _ _)).self) hK
theorem B4 {κ : Bool} {S : List Nat} {w0 : World} {H : List Res} {α : Type} {φ : α → Value → Prop} {Hn : α → List Res} {v : Value} (a : α) (h : φ a v) (hs : Sels (Hn a) H) : TW κ S w0 H (Rn S w0 φ Hn v) := fun w hw => ⟨a, h, hs.lw hw.low⟩
theorem C2H {κ : Bool} {S : List Nat} {w0 : World} {H : List Res} {F : Value → WP} {A : (Value → WP) → WP} {α : Type} (φ : α → Prop) (Hh : α → List Res) (v1 : α → Value) (hF : ∀ x, φ x → TW κ S w0 (Hh x) (F (v1 x)))
  (hA : ∀ J : Value → WP, (∀ x, φ x → TW κ S w0 (Hh x) (J (v1 x))) → TW κ S w0 H (A J)) : TW κ S w0 H (kt (n := 1) F A) := hA F hF
theorem C2a {κ : Bool} {S : List Nat} {w0 : World} {H : List Res} {F : Value → Value → WP} {A : (Value → Value → WP) → WP} {α : Type} (φ : α → Prop) (Hh : α → List Res) (v1 v2 : α → Value) (hF : ∀ x, φ x → TW κ S w0 (Hh x) (F (v1 x) (v2 x)))
  (hA : ∀ J : Value → Value → WP, (∀ x, φ x → TW κ S w0 (Hh x) (J (v1 x) (v2 x))) → TW κ S w0 H (A J)) : TW κ S w0 H (kt (n := 2) F A) := hA F hF
theorem K4.form {w : World} {v : Value} {n : Nat} {xs : List Value} (h : K4 w v n xs) : ∃ a c, v = .slice a n c ∧ (0 < n → ∃ b o, a = some ⟨b, o, none⟩ ∧ L5 w b o xs) := by
 rcases h with ⟨rfl, rfl, a, c, rfl⟩ | ⟨b, o, c, rfl, hr⟩
 ·exact ⟨a, c, rfl, fun h => absurd h (by omega)⟩
 ·exact ⟨_, c, rfl, fun _ => ⟨b, o, rfl, hr⟩⟩
theorem L5.at {w : World} {b o k : Nat} {α : Type} {l : List α} {f : α → List Value} (h : L5 w b o (l.flatMap f)) (hk : ∀ x, (f x).length = k) {i : Nat} {x : α} (hx : l[i]? = some x) : V8 w b (o + i * k) k = some (f x) := by
 have h1 : L5 w b (o + i * k) (f x) := fun j hj => by
  rw [hk] at hj
  have h2 := A1W hk l i j hj
  rw [hx] at h2
  have h3 : (l.flatMap f)[i * k + j]? = some ((f x)[j]'(by rw [hk]; exact hj)) := by rw [h2]; simp [List.getElem?_eq_getElem, hk, hj]
  rw [Nat.add_assoc, h.get h3]; simp [List.getElem?_eq_getElem, hk, hj]
 have := A3U h1
 rwa [hk] at this
theorem L5.cellAt {w : World} {b o k : Nat} {α : Type} {l : List α} {f : α → List Value} (h : L5 w b o (l.flatMap f)) (hk : ∀ x, (f x).length = k) {i j : Nat} {x : α} {u : Value} (hx : l[i]? = some x) (hu : (f x)[j]? = some u) : w.cell? ⟨b, o + i * k + j, none⟩ = some u := by
 have hj : j < k := by rw [← hk x]; exact (List.getElem?_eq_some_iff.1 hu).1
 have h2 := A1W hk l i j hj
 rw [hx] at h2
 rw [Nat.add_assoc]
 exact h.get (by rw [h2]; exact hu)
theorem L5.one {w : World} {b o : Nat} {α : Type} {l : List α} {f : α → Value} (h : L5 w b o (l.map f)) {i : Nat} {x : α} (hx : l[i]? = some x) : w.cell? ⟨b, o + i, none⟩ = some (f x) := h.get (by simp [hx])
section
variable {κ : Bool} {X : Nat → Prop} {S : List Nat} {w0 : World} {H H' Hr : List Res} {K : Value → WP} {K0 : WP} {t e : TypeId} {n k by' : Nat} {z : Value}
theorem C3Y {s : Sem Value} {v : Value} (h : ∀ w, LW κ S w0 H w → A6 PR s K w = K v w) : TW κ S w0 H (A6 PR s K) = TW κ S w0 H (K v) := TW.congr h
theorem B5j {s : Sem Value} {v : Value} (hK : TW κ S w0 H (K v)) (h : ∀ w, LW κ S w0 H w → A6 PR s K w = K v w) : TW κ S w0 H (A6 PR s K) := fun w hw => by rw [h w hw]; exact hK w hw
theorem A30 {v : Value} {q : Nat} {xs : List Value} (hm : Res.own e k v q xs ∈ H) (hq : 0 < q) (h : ∀ g c, v = .slice (some ⟨g, 0, none⟩) q c → TW κ S w0 H K0) : TW κ S w0 H K0 := fun w hw => by
 rcases (hw.hold _ hm).2 with ⟨_, rfl⟩ | ⟨g, c, _, rfl, _⟩
 ·omega
 ·exact h g c rfl w hw
@[simp] theorem C6F [h : TS t z] {b o : Nat} {c : Array Value} {T : TypeId} {f : Nat × Nat} (hm : Res.pt b (.cells c T f) ∈ H) :
  TW κ S w0 H (A6 PR (Instr.loadAt t (.pointer (some ⟨b, o, none⟩))) K) = TW κ S w0 H (rdc c[o]? K (far PR t ⟨b, o, none⟩ K)) := let ⟨_, _, h, hd⟩ := h.ti; C0E h hd hm
@[simp] theorem C5g [h : TS t z] {g o : Nat} {k q c : Nat} {xs : List Value} (hm : Res.own e k (.slice (some ⟨g, 0, none⟩) q c) q xs ∈ H) :
  TW κ S w0 H (A6 PR (Instr.loadAt t (.pointer (some ⟨g, o, none⟩))) K) = TW κ S w0 H (rdc xs[o]? K (A6 PR (Instr.loadAt t (.pointer (some ⟨g, o, none⟩))) K)) := by
 cases hv : xs[o]? with
 | none => rfl
 | some v => exact let ⟨_, _, h, hd⟩ := h.ti; B7Y h hd hm hv
@[simp] theorem C5x [h : TS t z] {b o : Nat} {v : Value} (hc : w0.cell? ⟨b, o, none⟩ = some v) (hS : b ∉ S) :
  TW κ S w0 H (A6 PR (Instr.loadAt t (.pointer (some ⟨b, o, none⟩))) K) = TW κ S w0 H (K v) := let ⟨_, _, h, hd⟩ := h.ti; B7A h hd hc hS
@[simp] theorem C52 [h : TG t n z] {b o : Nat} {c : Array Value} {T : TypeId} {f : Nat × Nat} (hm : Res.pt b (.cells c T f) ∈ H) :
  TW κ S w0 H (A6 PR (Instr.loadAt t (.pointer (some ⟨b, o, none⟩))) K) = TW κ S w0 H (rdq (Y2 c.toList o n) (fun l => K (.agg l.toArray)) (A6 PR (Instr.loadAt t (.pointer (some ⟨b, o, none⟩))) K)) := by
 cases hl : Y2 c.toList o n with
 | none => rfl
 | some l => exact let ⟨_, _, h, hd⟩ := h.ti; B7M h hd hm hl
@[simp] theorem C49 [h : TG t n z] {b o : Nat} {l : List Value} (hc : V8 w0 b o n = some l) (hS : b ∉ S) :
  TW κ S w0 H (A6 PR (Instr.loadAt t (.pointer (some ⟨b, o, none⟩))) K) = TW κ S w0 H (K (.agg l.toArray)) := let ⟨_, _, h, hd⟩ := h.ti; B6Y h hd hc hS
@[simp] theorem C0k [h : TS t z] {b o : Nat} {c : Array Value} {T : TypeId} {f : Nat × Nat} (hm : Res.pt b (.cells c T f) ∈ H) {v : Value} (hv : c[o]? = some v) :
  TW κ S w0 H (A6 PR (E7 [.c t (.pointer (some ⟨b, o, none⟩))]) K) = TW κ S w0 H (K v) := let ⟨_, _, h, hd⟩ := h.ti; C1M h hd hm hv
@[simp] theorem C6c [h : TG t n z] {b o : Nat} {c : Array Value} {T : TypeId} {f : Nat × Nat} (hm : Res.pt b (.cells c T f) ∈ H) :
  TW κ S w0 H (A6 PR (E7 [.c t (.pointer (some ⟨b, o, none⟩))]) K) = TW κ S w0 H (rdq (Y2 c.toList o n) (fun l => K (.agg l.toArray)) (A6 PR (E7 [.c t (.pointer (some ⟨b, o, none⟩))]) K)) := by
 cases hl : Y2 c.toList o n with
 | none => rfl
 | some l => exact let ⟨_, _, h, hd⟩ := h.ti; C1J h hd hm hl
@[simp] theorem C6E [h : TG t n z] {b o : Nat} {c : Array Value} {T : TypeId} {f : Nat × Nat} {x : Value} (hm : Res.pt b (.cells c T f) ∈ H) :
  TW κ S w0 H (A6 PR (E7 [.c t (.pointer (some ⟨b, o, none⟩)), .v x]) K) = TW κ S w0 H (rdq (Y2 c.toList o n) (fun l => K (.tuple #[.agg l.toArray, x])) (A6 PR (E7 [.c t (.pointer (some ⟨b, o, none⟩)), .v x]) K)) := by
 cases hl : Y2 c.toList o n with
 | none => rfl
 | some l =>
   obtain ⟨_, _, h, hd⟩ := h.ti
   refine TW.congr fun w hw => ?_
   rw [B1q]
   have hr := A06 hl (L5.bl (hw.pt hm)); have h2 := x8 hr
   refine N6 ?_ K
   have := A2U h hd h2.1 h2.2
   simp only [Instr.loadAt, Instr.sureAddr, Sem.run_bind, Sem.run_pure, Result.andThen_ok] at this
   simp [E7, A1Q, RV.sem, asAddr, this, one]
@[simp] theorem C6D [h : TG t n z] {b o : Nat} {c : Array Value} {T : TypeId} {f : Nat × Nat} {x y : Value} (hm : Res.pt b (.cells c T f) ∈ H) :
  TW κ S w0 H (A6 PR (E7 [.c t (.pointer (some ⟨b, o, none⟩)), .v x, .v y]) K) = TW κ S w0 H (rdq (Y2 c.toList o n) (fun l => K (.tuple #[.agg l.toArray, x, y])) (A6 PR (E7 [.c t (.pointer (some ⟨b, o, none⟩)), .v x, .v y]) K)) := by
 cases hl : Y2 c.toList o n with
 | none => rfl
 | some l =>
   obtain ⟨_, _, h, hd⟩ := h.ti
   refine TW.congr fun w hw => ?_
   rw [B1q]
   have hr := A06 hl (L5.bl (hw.pt hm)); have h2 := x8 hr
   refine N6 ?_ K
   have := A2U h hd h2.1 h2.2
   simp only [Instr.loadAt, Instr.sureAddr, Sem.run_bind, Sem.run_pure, Result.andThen_ok] at this
   simp [E7, A1Q, RV.sem, asAddr, this, one]
@[simp] theorem C3F [h : TS t z] {b o : Nat} {c : Array Value} {T : TypeId} {f : Nat × Nat} {v : Value} {l : List Rd} (hm : Res.pt b (.cells c T f) ∈ H) (hv : c[o]? = some v) :
  TW κ S w0 H (watch PR ((none, Instr.loadAt t (.pointer (some ⟨b, o, none⟩)), v) :: l) K0) = TW κ S w0 H (watch PR l K0) := let ⟨_, _, h, hd⟩ := h.ti; A9G fun w hw => A6P h hd (by rw [D8 (hw.pt hm)]; exact hv)
@[simp] theorem C1p [h : TS t z] {b o : Nat} {v : Value} {l : List Rd} (hc : w0.cell? ⟨b, o, none⟩ = some v) (hS : b ∉ S) :
  TW κ S w0 H (watch PR ((none, Instr.loadAt t (.pointer (some ⟨b, o, none⟩)), v) :: l) K0) = TW κ S w0 H (watch PR l K0) := let ⟨_, _, h, hd⟩ := h.ti; A9G fun w hw => A6P h hd (hw.ks.cell hS hc)
@[simp] theorem C60 [h : TA t n z] {v : Value} {b o : Nat} {c : Array Value} {T : TypeId} (hv : v.cells.size = n)
  (hu : Up (.pt b (.cells c T (0, 0))) (.pt b (.cells (E3 c o v.cells.toList) T (0, 0))) H H') (hs : o + n ≤ c.size) (hp : v.cells.toList.all plain = true) :
  TW κ S w0 H (C1 PR X (Instr.storeAt t (.pointer (some ⟨b, o, none⟩)) v) K0) = TW κ S w0 H' K0 := let ⟨_, _, h⟩ := h.ti; C5U h hv hu hs hp
theorem k7 [h : TA t n z] {v : Value} {g o q c : Nat} {xs : List Value} (hu : Up (.own e k (.slice (some ⟨g, 0, none⟩) q c) q xs) (.own e k (.slice (some ⟨g, 0, none⟩) q c) q (Z5 xs o v.cells.toList)) H H')
  (hv : v.cells.size = n) (hs : o + n ≤ xs.length) (hp : v.cells.toList.all plain = true) (hK : TW κ S w0 H' K0) :
  TW κ S w0 H (C1 PR X (Instr.storeAt t (.pointer (some ⟨g, o, none⟩)) v) K0) := let ⟨_, _, h⟩ := h.ti; B7G h hv hu hs hp hK
theorem A4 [h : TA t n z] (hK : ∀ b, TW κ S w0 (.pt b (.cells z.cells t) :: H) (K (.pointer (some ⟨b, 0, none⟩)))) : TW κ S w0 H (B1 PR X (Instr.alloc t true (.tuple #[])) K) := let ⟨_, _, h⟩ := h.ti; C5e h hK
theorem A39 {k1 k2 : IntKind} {l : Int} [h : SL t e k by' z] (h0 : 0 ≤ l) (hb : l * by' ≤ 140737488355328) (hc : l ≤ 9223372036854775807) (hk : 0 < k)
  (hK : ∀ b, TW κ S w0 (.own e k (.slice (some ⟨b, 0, none⟩) l.toNat l.toNat) l.toNat (Builtin.zeroCells z.cells l.toNat).toList :: H) (K (.slice (some ⟨b, 0, none⟩) l.toNat l.toNat))) :
  TW κ S w0 H (B1 PR X (Instr.makeSlice t (.int k1 l) (.int k2 l)) K) := let ⟨⟨_, _, _, h1⟩, ⟨_, h2⟩, h3⟩ := h.ti; C53 h1 h2 h3 hk h0 rfl hb hc hK
theorem C8 [h : SL t e k by' z] (hK : ∀ b, TW κ S w0 (.own e k (.slice (some ⟨b, 0, none⟩) 0 0) 0 [] :: H) (K (.slice (some ⟨b, 0, none⟩) 0 0))) : TW κ S w0 H (B1 PR X (Instr.buildSlice t 0 #[]) K) :=
 let ⟨⟨_, _, _, h1⟩, ⟨_, h2⟩, h3⟩ := h.ti; C1w h1 h2 hK
theorem B68 {m n q : Nat} (hq : 0 < n) : ∀ (vs : List Value) (i : Nat) (cs : Array Value), (∀ v ∈ vs, v.cells.size = n) → (i + vs.length) * n ≤ cs.size →
  Instr.fill (fun i => some (i * n, n)) cs ((List.range' i vs.length).zip vs) = some (E3 cs (i * n) (vs.flatMap fun v => v.cells.toList)) := by
 intro vs
 induction vs with
 | nil => intro i cs _ _; simp [Instr.fill]
 | cons v vs ih =>
  intro i cs hv hs
  simp only [List.length_cons] at hs
  have hv0 : v.cells.size = n := hv v (by simp)
  have e1 : (i + (vs.length + 1)) * n = i * n + n + vs.length * n := by rw [Nat.add_mul, Nat.add_mul]; omega
  simp only [List.length_cons, List.range'_succ, List.zip_cons_cons]
  rw [B6 rfl hv0 (by omega), ih (i + 1) _ (fun u hu => hv u (by simp [hu])) (by rw [C0]; (have : (i + 1 + vs.length) * n = i * n + n + vs.length * n := by (rw [Nat.add_mul, Nat.add_mul]; omega)); omega)]
  have spl_spl : ∀ (l l' : List Value) (c : Array Value) (o : Nat), E3 (E3 c o l) (o + l.length) l' = E3 c o (l ++ l') := by
   intro l
   induction l with
   | nil => intro l' c o; simp
   | cons u l ih => intro l' c o; simp only [B1H, List.cons_append, List.length_cons]; rw [← ih]; congr 1; omega
  rw [List.flatMap_cons, ← spl_spl]
  congr 2
  have : v.cells.toList.length = n := by simp [hv0]
  rw [this, Nat.add_mul]; omega
theorem B15 {len : Nat} {parts : Array (Nat × Value)} (vs : List Value) [h : SL t e k by' z] (hk : 0 < k) (h0 : 0 < len) (hb : len * k ≤ 2 ^ 24) (hp : parts.toList = (List.range' 0 len).zip vs) (hl : vs.length = len) (hv : ∀ v ∈ vs, v.cells.size = k)
  (hK : ∀ b, TW κ S w0 (.own e k (.slice (some ⟨b, 0, none⟩) len len) len (vs.flatMap fun v => v.cells.toList) :: H) (K (.slice (some ⟨b, 0, none⟩) len len))) :
  TW κ S w0 H (B1 PR X (Instr.buildSlice t len parts) K) := by
 obtain ⟨⟨_, _, _, h1⟩, ⟨_, h2⟩, h3⟩ := h.ti
 have hlen : (vs.flatMap fun v => v.cells.toList).length = len * k := by
  rw [← hl]; clear hp hl hK hb h0
  induction vs with
  | nil => simp
  | cons v vs ih =>
   have := hv v (by simp)
   rw [List.flatMap_cons, List.length_append, ih fun u hu => hv u (by simp [hu])]
   simp only [Array.length_toList, List.length_cons, this]; rw [Nat.add_mul]; omega
 have hf := B68 (m := 0) (q := 0) hk vs 0 ((Array.range (len * k)).map (z.cells[· % z.cells.size]!)) hv (by simp [hl])
 rw [hl, ← hp] at hf
 have hz : E3 ((Array.range (len * k)).map (z.cells[· % z.cells.size]!)) (0 * k) (vs.flatMap fun v => v.cells.toList) = (vs.flatMap fun v => v.cells.toList).toArray := by
  apply Array.toList_inj.1
  rw [p4 _ _ _ (by simp [-List.length_flatMap, hlen])]
  simp only [Nat.zero_mul, List.take_zero, List.nil_append, hlen, Nat.zero_add]
  rw [List.drop_eq_nil_of_le (by simp)]; simp
 refine C5Q h1 h2 hb (by have : 0 < len * k := Nat.mul_pos h0 hk; omega) (hf.trans (by rw [hz])) (by simp [-List.length_flatMap, hlen]) ?_
 simpa using hK
theorem C7 {v0 : Value} [h : SL t e k by' z] (hk : 0 < k := by decide) (hb : 1 * k ≤ 2 ^ 24 := by decide) (h0 : v0.cells.size = k := by simp) (hK : ∀ b, TW κ S w0 (.own e k (.slice (some ⟨b, 0, none⟩) 1 1) 1 (v0.cells.toList) :: H) (K (.slice (some ⟨b, 0, none⟩) 1 1))) :
  TW κ S w0 H (B1 PR X (Instr.buildSlice t 1 #[(0, v0)]) K) := B15 [v0] hk (by omega) hb rfl rfl (by intro v hv; simp only [List.mem_cons, List.not_mem_nil, or_false] at hv; subst hv; assumption) (by simpa using hK)
theorem C9 {v0 v1 : Value} [h : SL t e k by' z] (hk : 0 < k := by decide) (hb : 2 * k ≤ 2 ^ 24 := by decide) (h0 : v0.cells.size = k := by simp) (h1 : v1.cells.size = k := by simp) (hK : ∀ b, TW κ S w0 (.own e k (.slice (some ⟨b, 0, none⟩) 2 2) 2 (v0.cells.toList ++ v1.cells.toList) :: H) (K (.slice (some ⟨b, 0, none⟩) 2 2))) :
  TW κ S w0 H (B1 PR X (Instr.buildSlice t 2 #[(0, v0), (1, v1)]) K) := B15 [v0, v1] hk (by omega) hb rfl rfl (by intro v hv; simp only [List.mem_cons, List.not_mem_nil, or_false] at hv; rcases hv with rfl | rfl <;> assumption) (by simpa using hK)
theorem D0 {v0 v1 v2 : Value} [h : SL t e k by' z] (hk : 0 < k := by decide) (hb : 3 * k ≤ 2 ^ 24 := by decide) (h0 : v0.cells.size = k := by simp) (h1 : v1.cells.size = k := by simp) (h2 : v2.cells.size = k := by simp) (hK : ∀ b, TW κ S w0 (.own e k (.slice (some ⟨b, 0, none⟩) 3 3) 3 (v0.cells.toList ++ v1.cells.toList ++ v2.cells.toList) :: H) (K (.slice (some ⟨b, 0, none⟩) 3 3))) :
  TW κ S w0 H (B1 PR X (Instr.buildSlice t 3 #[(0, v0), (1, v1), (2, v2)]) K) := B15 [v0, v1, v2] hk (by omega) hb rfl rfl (by intro v hv; simp only [List.mem_cons, List.not_mem_nil, or_false] at hv; rcases hv with rfl | rfl | rfl <;> assumption) (by simpa using hK)
theorem D1 {v0 v1 v2 v3 v4 : Value} [h : SL t e k by' z] (hk : 0 < k := by decide) (hb : 5 * k ≤ 2 ^ 24 := by decide) (h0 : v0.cells.size = k := by simp) (h1 : v1.cells.size = k := by simp) (h2 : v2.cells.size = k := by simp) (h3 : v3.cells.size = k := by simp) (h4 : v4.cells.size = k := by simp) (hK : ∀ b, TW κ S w0 (.own e k (.slice (some ⟨b, 0, none⟩) 5 5) 5 (v0.cells.toList ++ v1.cells.toList ++ v2.cells.toList ++ v3.cells.toList ++ v4.cells.toList) :: H) (K (.slice (some ⟨b, 0, none⟩) 5 5))) :
  TW κ S w0 H (B1 PR X (Instr.buildSlice t 5 #[(0, v0), (1, v1), (2, v2), (3, v3), (4, v4)]) K) := B15 [v0, v1, v2, v3, v4] hk (by omega) hb rfl rfl (by intro v hv; simp only [List.mem_cons, List.not_mem_nil, or_false] at hv; rcases hv with rfl | rfl | rfl | rfl | rfl <;> assumption) (by simpa using hK)
theorem D2 {v0 v1 v2 v3 v4 v5 : Value} [h : SL t e k by' z] (hk : 0 < k := by decide) (hb : 6 * k ≤ 2 ^ 24 := by decide) (h0 : v0.cells.size = k := by simp) (h1 : v1.cells.size = k := by simp) (h2 : v2.cells.size = k := by simp) (h3 : v3.cells.size = k := by simp) (h4 : v4.cells.size = k := by simp) (h5 : v5.cells.size = k := by simp) (hK : ∀ b, TW κ S w0 (.own e k (.slice (some ⟨b, 0, none⟩) 6 6) 6 (v0.cells.toList ++ v1.cells.toList ++ v2.cells.toList ++ v3.cells.toList ++ v4.cells.toList ++ v5.cells.toList) :: H) (K (.slice (some ⟨b, 0, none⟩) 6 6))) :
  TW κ S w0 H (B1 PR X (Instr.buildSlice t 6 #[(0, v0), (1, v1), (2, v2), (3, v3), (4, v4), (5, v5)]) K) := B15 [v0, v1, v2, v3, v4, v5] hk (by omega) hb rfl rfl (by intro v hv; simp only [List.mem_cons, List.not_mem_nil, or_false] at hv; rcases hv with rfl | rfl | rfl | rfl | rfl | rfl <;> assumption) (by simpa using hK)
theorem L7.form {w : World} {e : TypeId} {k n : Nat} {v : Value} {xs : List Value} (h : L7 w e k v n xs) : ∃ a c, v = .slice a n c := by
 rcases h.2 with ⟨rfl, rfl⟩ | ⟨g, cap, cur, rfl, _⟩
 ·exact ⟨_, _, rfl⟩
 ·exact ⟨_, _, rfl⟩
theorem B5K {q : Nat} {xs : List Value} {A : Value → WP} (h : ∀ a c, TW κ S w0 (.own e k (.slice a q c) q xs :: H) (A (.slice a q c))) (v : Value) : TW κ S w0 (.own e k v q xs :: H) (A v) := fun w hw => by
 obtain ⟨a, c, rfl⟩ := L7.form (hw.hold _ A1)
 exact h a c w hw
theorem A3q {ty : TypeId} {v x : Value} {q r : Nat} {xs news : List Value} [h : SL t e k by' z] (hs : Sel (.own e k v q xs) H Hr) (hx : U6 κ S w0 H x r news) (hk : 0 < k) (hl : news.length = r * k) (hp : news.all plain = true)
  (h63 : q + r ≤ maxLen) (hby : (q + r) * by' ≤ 140737488355328) (hK : ∀ a c, TW κ S w0 (.own e k (.slice a (q + r) c) (q + r) (xs ++ news) :: Hr) (K (.slice a (q + r) c))) : TW κ S w0 H (B1 PR X (A8 .append #[t, t] ty [v, x]) K) := by
 obtain ⟨⟨_, _, _, h1⟩, ⟨_, h2⟩, h3⟩ := h.ti
 refine TW.perm ?_ hs.perm
 exact C2A (H'' := fun v' => .own e k v' (q + r) (xs ++ news) :: Hr) h1 h2 h3 hk (fun v' => .here) (fun w hw => hx w (hw.perm hs.perm.symm)) hl hp h63 hby (B5K hK)
end
end Go.Proofs.YtjobgnabneddjaaGreat
namespace Go.Proofs.YtjobgnabneddjaaGreat
open Go
instance : TS 3 (.int .i64 0) := ⟨_, _, L4, rfl⟩
instance : TS 4 (.bool false) := ⟨_, _, ty4, rfl⟩
instance : TS 5 (.int .u8 0) := ⟨_, _, ty5, rfl⟩
instance : TS 9 (.string (ByteArray.mk #[])) := ⟨_, _, m4, rfl⟩
instance : TG 23 5 (.agg #[(.int .i64 0), (.int .i64 0), (.int .i64 0), (.int .i64 0), (.int .i64 0)]) := ⟨_, _, A2g, rfl⟩
instance : TS 24 .nilFunc := ⟨_, _, C08, rfl⟩
instance : TS 26 (.pointer none) := ⟨_, _, B8W, rfl⟩
instance : TS 27 (.int .i64 0) := ⟨_, _, B09, rfl⟩
instance : TS 30 (.pointer none) := ⟨_, _, C0b, rfl⟩
instance : TS 33 (.pointer none) := ⟨_, _, B7w, rfl⟩
instance : TS 34 (.pointer none) := ⟨_, _, B8C, rfl⟩
instance : TS 35 (.pointer none) := ⟨_, _, B7z, rfl⟩
instance : TS 36 (.slice none 0 0) := ⟨_, _, B07, rfl⟩
instance : SL 36 84 1 24 (.slice none 0 0) := ⟨⟨_, _, _, B07⟩, ⟨_, A5Y⟩, rfl⟩
instance : TS 37 (.slice none 0 0) := ⟨_, _, A7J, rfl⟩
instance : SL 37 3 1 8 (.int .i64 0) := ⟨⟨_, _, _, A7J⟩, ⟨_, L4⟩, rfl⟩
instance : TG 42 3 (.agg #[(.bool false), (.bool false), (.bool false)]) := ⟨_, _, A7b, rfl⟩
instance : TG 45 6 (.agg #[(.int .i64 0), (.string (ByteArray.mk #[])), (.string (ByteArray.mk #[])), (.int .i64 0), (.int .i64 0), (.int .i64 0)]) := ⟨_, _, A1N, rfl⟩
instance : TG 47 7 (.agg #[(.int .i64 0), (.string (ByteArray.mk #[])), (.string (ByteArray.mk #[])), (.int .i64 0), (.int .i64 0), (.int .i64 0), (.int .i64 0)]) := ⟨_, _, A9M, rfl⟩
instance : TS 51 (.slice none 0 0) := ⟨_, _, B38, rfl⟩
instance : SL 51 9 1 16 (.string (ByteArray.mk #[])) := ⟨⟨_, _, _, B38⟩, ⟨_, m4⟩, rfl⟩
instance : TG 55 4 (.agg #[(.int .i64 0), (.int .i64 0), (.bool false), (.int .i64 0)]) := ⟨_, _, A7j, rfl⟩
instance : TS 84 (.slice none 0 0) := ⟨_, _, A5Y, rfl⟩
instance : SL 84 218 4 40 (.agg #[(.int .i64 0), (.string (ByteArray.mk #[])), (.int .i64 0), (.int .i64 0)]) := ⟨⟨_, _, _, A5Y⟩, ⟨_, A0B⟩, rfl⟩
instance : TS 89 (.int .u64 0) := ⟨_, _, A9k, rfl⟩
instance : TS 124 .nilFunc := ⟨_, _, B43, rfl⟩
instance : TS 143 .nilFunc := ⟨_, _, B9G, rfl⟩
instance : TG 144 10 (.agg #[.nilFunc, .nilFunc, .nilFunc, .nilFunc, .nilFunc, .nilFunc, .nilFunc, .nilFunc, .nilFunc, .nilFunc]) := ⟨_, _, B8m, rfl⟩
instance : TG 148 3 (.agg #[(.int .i64 0), (.int .i64 0), (.int .i64 0)]) := ⟨_, _, A3z, rfl⟩
instance : TG 155 2 (.agg #[(.int .i64 0), (.int .i64 0)]) := ⟨_, _, B4Y, rfl⟩
instance : TS 180 .nilFunc := ⟨_, _, C3L, rfl⟩
instance : TS 192 (.slice none 0 0) := ⟨_, _, B4V, rfl⟩
instance : TS 193 (.slice none 0 0) := ⟨_, _, B8z, rfl⟩
instance : TG 195 2 (.agg #[(.slice none 0 0), (.slice none 0 0)]) := ⟨_, _, A6Y, rfl⟩
instance : TG 218 4 (.agg #[(.int .i64 0), (.string (ByteArray.mk #[])), (.int .i64 0), (.int .i64 0)]) := ⟨_, _, A0B, rfl⟩
instance : TG 224 3 (.agg #[(.string (ByteArray.mk #[])), (.string (ByteArray.mk #[])), (.int .i64 0)]) := ⟨_, _, A6j, rfl⟩
instance : TG 226 3 (.agg #[(.string (ByteArray.mk #[])), (.string (ByteArray.mk #[])), (.int .i64 0)]) := ⟨_, _, A6a, rfl⟩
instance : SL 228 124 1 8 .nilFunc := ⟨⟨_, _, _, B4C⟩, ⟨_, B43⟩, rfl⟩
instance : TS 229 (.slice none 0 0) := ⟨_, _, A8z, rfl⟩
instance : SL 229 266 1 16 .nilIface := ⟨⟨_, _, _, A8z⟩, ⟨_, B41⟩, rfl⟩
instance : TS 266 .nilIface := ⟨_, _, B41, rfl⟩
instance : TS 279 (.slice none 0 0) := ⟨_, _, B4y, rfl⟩
instance : TS 300 (.pointer none) := ⟨_, _, B0r, rfl⟩
instance : TS 301 (.slice none 0 0) := ⟨_, _, A04, rfl⟩
instance : SL 301 5 1 1 (.int .u8 0) := ⟨⟨_, _, _, A04⟩, ⟨_, ty5⟩, rfl⟩
instance : TG 305 2 (.agg #[(.pointer none), (.slice none 0 0)]) := ⟨_, _, B82, rfl⟩
instance : TS 324 (.slice none 0 0) := ⟨_, _, B4F, rfl⟩
instance : TG 330 2 (.agg #[.nilFunc, (.int .i64 0)]) := ⟨_, _, A6m, rfl⟩
instance : TG 355 38 (.agg #[(.int .u8 0), (.int .u8 0), (.int .u8 0), (.int .u8 0), (.int .u8 0), (.int .u8 0), (.int .u8 0), (.int .u8 0), (.int .u8 0), (.int .u8 0), (.int .u8 0), (.int .u8 0), (.int .u8 0), (.int .u8 0), (.int .u8 0), (.int .u8 0), (.int .u8 0), (.int .u8 0), (.int .u8 0), (.int .u8 0), (.int .u8 0), (.int .u8 0), (.int .u8 0), (.int .u8 0), (.int .u8 0), (.int .u8 0), (.int .u8 0), (.int .u8 0), (.int .u8 0), (.int .u8 0), (.int .u8 0), (.int .u8 0), (.int .u8 0), (.int .u8 0), (.int .u8 0), (.int .u8 0), (.int .u8 0), (.int .u8 0)]) := ⟨_, _, B4B, rfl⟩
instance : TS 368 .nilFunc := ⟨_, _, C3N, rfl⟩
instance : TS 370 (.int .u64 0) := ⟨_, _, B8s, rfl⟩
instance : SL 375 330 2 16 (.agg #[.nilFunc, (.int .i64 0)]) := ⟨⟨_, _, _, B4c⟩, ⟨_, A6m⟩, rfl⟩
@[simp] theorem C19 (a : Option Addr) (x y : Operand) (K : Value → WP) : A6 PR (G0 .eql 131 x y (.pointer a) (.pointer none)) K = K (.bool a.isNone) := funext fun w => B4S a x y K w
@[simp] theorem C48 (a : Option Addr) (x y : Operand) (K : Value → WP) : A6 PR (G0 .eql 26 x y (.pointer a) (.pointer none)) K = K (.bool a.isNone) := funext fun w => B5y a x y K w
@[simp] theorem C4S (a : Option Addr) (x y : Operand) (K : Value → WP) : A6 PR (G0 .eql 30 x y (.pointer a) (.pointer none)) K = K (.bool a.isNone) := funext fun w => B6B a x y K w
@[simp] theorem C3H (a : Option Addr) (x y : Operand) (K : Value → WP) : A6 PR (G0 .eql 300 x y (.pointer a) (.pointer none)) K = K (.bool a.isNone) := funext fun w => B4q a x y K w
@[simp] theorem C54 (a0 b0 : Bool) (a1 b1 : Bool) (a2 b2 : Bool) (x y : Operand) (K : Value → WP) : A6 PR (G0 .eql 42 x y (.agg #[.bool a0, .bool a1, .bool a2]) (.agg #[.bool b0, .bool b1, .bool b2])) K = K (.bool ((a0 == b0) && ((a1 == b1) && ((a2 == b2) && true)))) := funext fun w => B7a a0 b0 a1 b1 a2 b2 x y K w
@[simp] theorem C5K (a0 b0 : Int) (a1 b1 : Int) (a2 b2 : Bool) (a3 b3 : Int) (x y : Operand) (K : Value → WP) : A6 PR (G0 .eql 55 x y (.agg #[.int .i64 a0, .int .i64 a1, .bool a2, .int .i64 a3]) (.agg #[.int .i64 b0, .int .i64 b1, .bool b2, .int .i64 b3])) K = K (.bool (decide (a0 = b0) && (decide (a1 = b1) && ((a2 == b2) && (decide (a3 = b3) && true))))) := funext fun w => B8M a0 b0 a1 b1 a2 b2 a3 b3 x y K w
@[simp] theorem C2f (a : Option Addr) (x y : Operand) (K : Value → WP) : A6 PR (G0 .neq 131 x y (.pointer a) (.pointer none)) K = K (.bool (!a.isNone)) := funext fun w => B47 a x y K w
@[simp] theorem C4f (a : Option Addr) (x y : Operand) (K : Value → WP) : A6 PR (G0 .neq 26 x y (.pointer a) (.pointer none)) K = K (.bool (!a.isNone)) := funext fun w => B6n a x y K w
@[simp] theorem C4K (a : Option Addr) (x y : Operand) (K : Value → WP) : A6 PR (G0 .neq 33 x y (.pointer a) (.pointer none)) K = K (.bool (!a.isNone)) := funext fun w => B6z a x y K w
@[simp] theorem C4s (a : Option Addr) (x y : Operand) (K : Value → WP) : A6 PR (G0 .neq 34 x y (.pointer a) (.pointer none)) K = K (.bool (!a.isNone)) := funext fun w => B56 a x y K w
@[simp] theorem C31 (a : Option Addr) (x y : Operand) (K : Value → WP) : A6 PR (G0 .neq 35 x y (.pointer a) (.pointer none)) K = K (.bool (!a.isNone)) := funext fun w => B50 a x y K w
end Go.Proofs.YtjobgnabneddjaaGreat
namespace Go.Proofs.YtjobgnabneddjaaGreat
open Go
def A9f (n i : Nat) : List Value := [.int .i64 (i : Int), .int .u64 (8 * ((n : Int) - 1 - i))]
abbrev B6m (b : Nat) : Value := .func (.func 243) #[] #[.pointer (some ⟨b, 0, none⟩)]
theorem B1J (w : World) (n : Int) : Fn PR B7 199 #[.int .i64 n] w (Rn [] w (fun b v => v = B6m b) fun b => [.pt b (.cells #[.int .i64 n] 3)]) := by
 refine A9H (TW.go (κ := false) (S := []) ?_)
 unfold A3K
 (have zz:=trivial;repeat((first|clear zz|with_reducible first|refine A3 ?_|refine A5 fun _=>?_|refine A4 fun _=>?_);try simp(disch:=first|omega|assumption|((repeat(first|exact A1|exact uH|apply A2|apply uT));first|done|fail)|(simp;first|done|omega|fail))[]))
 rename_i b
 exact Z8 b rfl (by simp)
theorem B1B (b : Nat) {n : Nat} (hn : n ≤ 8) : A4B (B6m b) [.pt b (.cells #[.int .i64 (n : Int)] 3)] (fun _ _ => True) ((List.range n).map (A9f n)) := by
 refine ⟨_, _, _, rfl, fun l J E hJ hE stJ stE hy w0 h0 => ?_⟩
 refine A6s (A6p (TW.at (κ := true) ?_ (hJ _ _ _ h0).1))
 unfold A0r
 (have zz:=trivial;repeat((first|clear zz|with_reducible first|refine A3 ?_|refine A5 fun _=>?_|refine A4 fun _=>?_);try simp(disch:=first|omega|assumption|((repeat(first|exact A1|exact uH|apply A2|apply uT));first|done|fail)|(simp;first|done|omega|fail))[]))
 refine A3e n (fun i => i) (fun _ => _) hJ stJ h0 fun i a hi hJi _ L hL => ?_
 by_cases hlt : i < n
 ·(have zz:=trivial;repeat((first|clear zz|with_reducible first|refine A3 ?_|refine A5 fun _=>?_|refine A4 fun _=>?_);try simp(disch:=first|omega|assumption|((repeat(first|exact A1|exact uH|apply A2|apply uT));first|done|fail)|(simp;first|done|omega|fail))[hlt]))
  refine A6l hJ hE stJ hy hJi (by simpa using hlt) (by simp [A9f]) (fun w3 h => ?_) (fun w3 h => ?_)
  ·(have zz:=trivial;repeat((first|clear zz|with_reducible first|refine A3 ?_|refine A5 fun _=>?_|refine A4 fun _=>?_);try simp(disch:=first|omega|assumption|((repeat(first|exact A1|exact uH|apply A2|apply uT));first|done|fail)|(simp;first|done|omega|fail))[]))
   exact fun w' hw' => hL hlt w' (stJ _ _ _ _ _ h hw')
  ·(have zz:=trivial;repeat((first|clear zz|with_reducible first|refine A3 ?_|refine A5 fun _=>?_|refine A4 fun _=>?_);try simp(disch:=first|omega|assumption|((repeat(first|exact A1|exact uH|apply A2|apply uT));first|done|fail)|(simp;first|done|omega|fail))[]))
   exact A28 stE h
 ·obtain rfl : i = n := by omega
  (have zz:=trivial;repeat((first|clear zz|with_reducible first|refine A3 ?_|refine A5 fun _=>?_|refine A4 fun _=>?_);try simp(disch:=first|omega|assumption|((repeat(first|exact A1|exact uH|apply A2|apply uT));first|done|fail)|(simp;first|done|omega|fail))[]))
  exact A3T stJ (by simpa using hJi)
def E6 (s : ByteArray) (i : Nat) : Nat := (s.data.getD i 0).toNat
def Z1 (s : ByteArray) (a : Nat) : Nat → Nat
 | 0 => 0
 | i + 1 => Z1 s a i * 256 + E6 s (a + i)
theorem l6 (s : ByteArray) (i : Nat) : E6 s i < 256 := (s.data.getD i 0).toNat_lt
theorem A52 (s : ByteArray) (a i : Nat) : Z1 s a i < 256 ^ i := by
 induction i with
 | zero => simp [Z1]
 | succ i ih =>
  have := l6 s (a + i)
  simp only [Z1, Nat.pow_succ]
  omega
theorem j9 {s : ByteArray} {i : Nat} (h : i < s.size) : ∃ b : UInt8, s[i]? = some b ∧ b.toNat = E6 s i := by
 refine ⟨s[i], by simp [h], ?_⟩
 have h' : i < s.data.size := h
 have e : s.data.getD i 0 = s[i] := by rw [Array.getD_eq_getD_getElem?, Array.getElem?_eq_getElem h']; rfl
 rw [E6, e]
def A0E (s : ByteArray) (a n : Int) : Bool := decide (1 ≤ n ∧ n ≤ 8 ∧ 0 ≤ a ∧ a ≤ s.size - n)
def A2q (s : ByteArray) (a n : Int) : Int := if A0E s a n = true then (Z1 s a.toNat n.toNat : Nat) else 0
theorem A0U (w : World) (s : ByteArray) (hs : s.size < 2 ^ 62) (a n : Int) :
  Fn PR B7 145 #[.string s, .int .i64 a, .int .i64 n] w (fun v w' => v = .tuple #[.int .u64 (A2q s a n), .bool (A0E s a n)] ∧ C3 [] w w') := by
 refine Fn.pure (B2a (TW.go (κ := false) (S := []) ?_))
 unfold A5U
 by_cases hok : A0E s a n = true
 case neg =>
  have hv : A2q s a n = 0 := if_neg hok
  have hok' : A0E s a n = false := by simpa using hok
  rw [hv, hok']
  have hc : n < 1 ∨ 8 < n ∨ a < 0 ∨ (s.size : Int) - n < a := by
   simp only [A0E, decide_eq_true_eq] at hok; omega
  by_cases h1 : n < 1
  ·(have zz:=trivial;repeat((first|clear zz|with_reducible first|refine A3 ?_|refine A5 fun _=>?_|refine A4 fun _=>?_);try simp(disch:=first|omega|assumption|((repeat(first|exact A1|exact uH|apply A2|apply uT));first|done|fail)|(simp;first|done|omega|fail))[h1])); exact A9 rfl
  by_cases h2 : 8 < n
  ·(have zz:=trivial;repeat((first|clear zz|with_reducible first|refine A3 ?_|refine A5 fun _=>?_|refine A4 fun _=>?_);try simp(disch:=first|omega|assumption|((repeat(first|exact A1|exact uH|apply A2|apply uT));first|done|fail)|(simp;first|done|omega|fail))[h1, h2])); exact A9 rfl
  by_cases h3 : a < 0
  ·(have zz:=trivial;repeat((first|clear zz|with_reducible first|refine A3 ?_|refine A5 fun _=>?_|refine A4 fun _=>?_);try simp(disch:=first|omega|assumption|((repeat(first|exact A1|exact uH|apply A2|apply uT));first|done|fail)|(simp;first|done|omega|fail))[h1, h2, h3])); exact A9 rfl
  have h4 : (s.size : Int) - n < a := by omega
  (have zz:=trivial;repeat((first|clear zz|with_reducible first|refine A3 ?_|refine A5 fun _=>?_|refine A4 fun _=>?_);try simp(disch:=first|omega|assumption|((repeat(first|exact A1|exact uH|apply A2|apply uT));first|done|fail)|(simp;first|done|omega|fail))[h1, h2, h3, h4])); exact A9 rfl
 have hv : A2q s a n = (Z1 s a.toNat n.toNat : Nat) := if_pos hok
 rw [hv, hok]
 simp only [A0E, decide_eq_true_eq] at hok
 obtain ⟨m, rfl⟩ : ∃ m : Nat, n = m := ⟨n.toNat, by omega⟩
 obtain ⟨k, rfl⟩ : ∃ k : Nat, a = k := ⟨a.toNat, by omega⟩
 have h1 : ¬ (m : Int) < 1 := by omega
 have h2 : ¬ 8 < (m : Int) := by omega
 have h4 : ¬ (s.size : Int) - m < k := by omega
 have h5 : ¬ (k : Int) < 0 := by omega
 (have zz:=trivial;repeat((first|clear zz|with_reducible first|refine A3 ?_|refine A5 fun _=>?_|refine A4 fun _=>?_);try simp(disch:=first|omega|assumption|((repeat(first|exact A1|exact uH|apply A2|apply uT));first|done|fail)|(simp;first|done|omega|fail))[h1, h2, h4, h5]))
 rename_i bs ba bv
 refine K3 A18 (fun w' _ => B1J w' m) ?_
 rintro b v rfl
 refine A03 (B1B b (n := m) (by omega)) (by simp [A9f]) (fun _ (_ : Unit) => True) (fun i _ => [.pt bv (.cells #[.int .u64 ((Z1 s k i * 256 ^ (m - i) : Nat) : Int)] 89), .pt ba (.cells #[.int .i64 (k : Int)] 3), .pt bs (.cells #[.string s] 9)])
  (fun _ (_ : Unit) => False) (fun _ => []) () trivial ?_ ?_ ?_ ?_ (by simp [Z1])
 ·intros; trivial
 ·rintro i hi _ F _ K' hK _
  have hi' : i < m := by simpa using hi
  obtain ⟨by0, hb0, hb1⟩ := j9 (s := s) (i := k + i) (by omega)
  have hidx : ((k : Int) + i).toNat = k + i := by omega
  have hbl := l6 s (k + i)
  rw [← hidx] at hb0
  have hsh : (0 : Int) ≤ 8 * ((m : Int) - 1 - i) := by omega
  simp only [List.getElem_map, List.getElem_range, A9f, VF.app]
  (have zz:=trivial;repeat((first|clear zz|with_reducible first|refine A3 ?_|refine A5 fun _=>?_|refine A4 fun _=>?_);try simp(disch:=first|omega|assumption|((repeat(first|exact A1|exact uH|apply A2|apply uT));first|done|fail)|(simp;first|done|omega|fail))[T5]))
  refine TW.eqH ?_ (hK () trivial)
  have hlt : (Z1 s k i * 256 + E6 s (k + i)) * 256 ^ (m - 1 - i) < 2 ^ 64 := by
   have hA : Z1 s k (i + 1) < 256 ^ (i + 1) := A52 s k (i + 1)
   have h8 : 256 ^ (i + 1) * 256 ^ (m - 1 - i) ≤ 2 ^ 64 := by
    rw [← Nat.pow_add, show (2 : Nat) ^ 64 = 256 ^ 8 from rfl]
    exact Nat.pow_le_pow_right (by omega) (by omega)
   exact Nat.lt_of_lt_of_le (Nat.mul_lt_mul_of_pos_right hA (Nat.pow_pos (by omega))) h8
  have hval := C0A hbl hlt (by omega)
  rw [show m - (i + 1) = m - 1 - i from by omega]
  simp [Z1, ← hval]
  rw [hb1, show (8 * ((m : Int) - 1 - i)).toNat = 8 * (m - 1 - i) from by omega, show m - i = m - 1 - i + 1 from by omega]
 ·rintro _ _
  (have zz:=trivial;repeat((first|clear zz|with_reducible first|refine A3 ?_|refine A5 fun _=>?_|refine A4 fun _=>?_);try simp(disch:=first|omega|assumption|((repeat(first|exact A1|exact uH|apply A2|apply uT));first|done|fail)|(simp;first|done|omega|fail))[]))
  exact A9 (by simp)
 ·rintro _ _ h; exact h.elim
def B03 (v : Int) (n i : Nat) : Int := IntKind.u8.wrap (v.fdiv (2 ^ min (8 * ((n : Int) - 1 - i)).toNat IntKind.u64.bits))
def k9 (v : Int) (n i : Nat) : List Int := (List.range n).map fun j => if j < i then B03 v n j else 0
def E0 (v n : Int) : ByteArray := if 1 ≤ n ∧ n ≤ 8 then A08 (k9 v n.toNat n.toNat) else ByteArray.mk #[]
theorem B7q (v : Int) {n i : Nat} (h : i < n) : (k9 v n i).set i (B03 v n i) = k9 v n (i + 1) := by
 apply List.ext_getElem (by simp [k9])
 intro j h1 h2
 simp only [k9, List.length_set, List.length_map, List.length_range] at h1
 rw [List.getElem_set]
 simp only [k9, List.getElem_map, List.getElem_range]
 by_cases hij : i = j
 ·subst hij; simp
 ·by_cases hj : j < i
  ·simp [hij, hj, Nat.lt_succ_of_lt hj]
  ·have : ¬ j < i + 1 := by omega
   simp [hij, hj, this]
def A2W (v : Int) (n i : Nat) : Array Value := ((k9 v n i).map (Value.int .u8)).toArray
theorem B5e (v : Int) {m : Nat} (h : m ≤ 8) : Builtin.zeroCells (Value.int .u8 0).cells m = A2W v m 0 := by
 have : m = 0 ∨ m = 1 ∨ m = 2 ∨ m = 3 ∨ m = 4 ∨ m = 5 ∨ m = 6 ∨ m = 7 ∨ m = 8 := by omega
 rcases this with rfl | rfl | rfl | rfl | rfl | rfl | rfl | rfl | rfl <;>
  (apply Array.ext'; simp [Builtin.zeroCells, A2W, k9, List.range, List.range.loop])
@[simp] theorem B5r {v n : Int} (h1 : 1 ≤ n) (h2 : n ≤ 8) : (E0 v n).size = n.toNat := by simp [E0, h1, h2, k9]
theorem W9 (w : World) (v n : Int) :
  Fn PR B7 176 #[.int .u64 v, .int .i64 n] w (fun u w' => u = .string (E0 v n) ∧ C3 [] w w') := by
 refine Fn.pure (B1N (TW.go (κ := false) (S := []) ?_))
 unfold A5m
 by_cases hok : 1 ≤ n ∧ n ≤ 8
 case neg =>
  have hv : E0 v n = ByteArray.mk #[] := if_neg hok
  rw [hv]
  by_cases h1 : n < 1
  ·(have zz:=trivial;repeat((first|clear zz|with_reducible first|refine A3 ?_|refine A5 fun _=>?_|refine A4 fun _=>?_);try simp(disch:=first|omega|assumption|((repeat(first|exact A1|exact uH|apply A2|apply uT));first|done|fail)|(simp;first|done|omega|fail))[h1])); exact A9 rfl
  ·have h2 : 8 < n := by omega
   (have zz:=trivial;repeat((first|clear zz|with_reducible first|refine A3 ?_|refine A5 fun _=>?_|refine A4 fun _=>?_);try simp(disch:=first|omega|assumption|((repeat(first|exact A1|exact uH|apply A2|apply uT));first|done|fail)|(simp;first|done|omega|fail))[h1, h2])); exact A9 rfl
 have hv : E0 v n = A08 (k9 v n.toNat n.toNat) := if_pos hok
 rw [hv]
 obtain ⟨m, rfl⟩ : ∃ m : Nat, n = m := ⟨n.toNat, by omega⟩
 have h1 : ¬ (m : Int) < 1 := by omega
 have h2 : ¬ 8 < (m : Int) := by omega
 (have zz:=trivial;repeat((first|clear zz|with_reducible first|refine A3 ?_|refine A5 fun _=>?_|refine A4 fun _=>?_);try simp(disch:=first|omega|assumption|((repeat(first|exact A1|exact uH|apply A2|apply uT));first|done|fail)|(simp;first|done|omega|fail))[h1, h2]))
 refine A39 (by omega) (by omega) (by omega) (by omega) fun bs => ?_
 rw [Int.toNat_natCast, B5e v (by omega)]
 (have zz:=trivial;repeat((first|clear zz|with_reducible first|refine A3 ?_|refine A5 fun _=>?_|refine A4 fun _=>?_);try simp(disch:=first|omega|assumption|((repeat(first|exact A1|exact uH|apply A2|apply uT));first|done|fail)|(simp;first|done|omega|fail))[h1, h2]))
 rename_i bv bb
 refine K3 A18 (fun w' _ => B1J w' m) ?_
 rintro b v rfl
 refine A03 (B1B b (n := m) (by omega)) (by simp [A9f]) (fun _ (_ : Unit) => True) (fun i _ => [.pt bb (.cells #[.slice (some ⟨bs, 0, none⟩) m m] 301),
   .own 5 1 (.slice (some ⟨bs, 0, none⟩) m m) m (A2W v m i).toList, .pt bv (.cells #[.int .u64 v] 89)])
  (fun _ (_ : Unit) => False) (fun _ => []) () trivial ?_ ?_ ?_ ?_ (by simp)
 ·intros; trivial
 ·rintro i hi _ F _ K' hK _
  have hi' : i < m := by simpa using hi
  have hsh : (0 : Int) ≤ 8 * ((m : Int) - 1 - i) := by omega
  simp only [List.getElem_map, List.getElem_range, A9f, VF.app]
  (have zz:=trivial;repeat((first|clear zz|with_reducible first|refine A3 ?_|refine A5 fun _=>?_|refine A4 fun _=>?_);try simp(disch:=first|omega|assumption|((repeat(first|exact A1|exact uH|apply A2|apply uT));first|done|fail)|(simp;first|done|omega|fail))[]))
  refine k7 (by (repeat constructor)) (by simp) (by simp [A2W, k9]; omega) (by simp) ?_
  refine TW.eqH ?_ (hK () trivial)
  have e : Z5 (A2W v m i).toList i [.int .u8 (B03 v m i)] = (A2W v m (i + 1)).toList := by
   rw [B1m (by simp [A2W, k9]; omega)]; simp [A2W, ← B7q v hi', List.map_set]
  rw [← e]; simp [B03]
 ·rintro _ _
  (have zz:=trivial;repeat((first|clear zz|with_reducible first|refine A3 ?_|refine A5 fun _=>?_|refine A4 fun _=>?_);try simp(disch:=first|omega|assumption|((repeat(first|exact A1|exact uH|apply A2|apply uT));first|done|fail)|(simp;first|done|omega|fail))[]))
  have hlen : (k9 v m m).length = m := by simp [k9]
  have := fun w' K (hr : L5 w' bs 0 ((k9 v m m).map (Value.int .u8))) => @B2x K w' bs 0 m _ hr
  rw [hlen] at this
  rw [C3Y fun w' hw' => this w' _ (by simpa [A2W] using hw'.ownr (e := 5) (k := 1) (q := m) (c := m) (xs := (A2W v m m).toList) (by (repeat constructor)))]
  simp only [C3A]
  exact A9 rfl
 ·rintro _ _ h; exact h.elim
end Go.Proofs.YtjobgnabneddjaaGreat
