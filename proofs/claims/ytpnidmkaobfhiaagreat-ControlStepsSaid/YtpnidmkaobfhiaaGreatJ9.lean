/- The proof of a given statement, a part of it (ShStd ShOctet Ins Tc Tn Oct). No condition but what each lemma says. -/
import Derived.Test.YtpnidmkaobfhiaaGreatJ8
set_option linter.unusedVariables false
set_option linter.unusedSimpArgs false
namespace Go.Proofs.YtpnidmkaobfhiaaGreat
open Go
def Z0 (X : Nat → Prop) (t0 : Value) (R : Value → WP) : WP :=
 jn (n := 1) (fun t2 =>
 B9 PR X (Instr.buildSlice 55 0 #[]) fun t5 =>
 B9 PR X (A8 .append #[55, 55] 55 [t5, t0]) fun t7 =>
 R t7) fun J1 =>
 A6 PR (J0 .eql 55 (.tmp 3) (.const (.slice none 0 0)) t0 (.slice none 0 0)) fun t4 =>
 B7 t4 (
 R (.slice none 0 0)) (
 J1 (.slice none 0 0))
theorem A0E : B2 PR 71 := A7 Tryz.func71 (by kernel_rfl) rfl
theorem A0L {X : Nat → Prop} {t0 : Value} {R : Value → WP} {w : World} (h : Z0 X t0 R w) : Fn PR X 71 #[t0] w R := C9 (args := [t0]) mixed Tryz.func71 (by kernel_rfl) h
def V5 (X : Nat → Prop) (t0 : Value) (R : Value → WP) : WP :=
 jn (n := 1) (fun t2 =>
 B9 PR X (Instr.buildSlice 36 0 #[]) fun t5 =>
 B9 PR X (A8 .append #[36, 36] 36 [t5, t0]) fun t7 =>
 R t7) fun J1 =>
 A6 PR (J0 .eql 36 (.tmp 3) (.const (.slice none 0 0)) t0 (.slice none 0 0)) fun t4 =>
 B7 t4 (
 R (.slice none 0 0)) (
 J1 (.slice none 0 0))
theorem q7 : B2 PR 72 := A7 Tryz.func72 (by kernel_rfl) rfl
theorem s8 {X : Nat → Prop} {t0 : Value} {R : Value → WP} {w : World} (h : V5 X t0 R w) : Fn PR X 72 #[t0] w R := C9 (args := [t0]) mixed Tryz.func72 (by kernel_rfl) h
def b8 (X : Nat → Prop) (t0 t1 : Value) (R : Value → WP) : WP :=
 B3 PR X 127 [t0] fun t7 =>
 B3 PR X 128 [t7, t1] fun t10 =>
 R t7
theorem A0s : B2 PR 99 := A7 Tryz.func99 (by kernel_rfl) rfl
theorem A1A {X : Nat → Prop} {t0 t1 : Value} {R : Value → WP} {w : World} (h : b8 X t0 t1 R w) : Fn PR X 99 #[t0, t1] w R := C9 (args := [t0, t1]) mixed Tryz.func99 (by kernel_rfl) h
def y3 (X : Nat → Prop) (t0 t1 : Value) (R : Value → WP) : WP :=
 A0 PR (A9 t0) fun t6 =>
 A0 PR (Instr.fieldAt 143 t6 2) fun t7 =>
 B3 PR X 159 [t7, t1] fun t9 =>
 R t9
theorem A4f : B2 PR 124 := A7 Tryz.func124 (by kernel_rfl) rfl
theorem A5Q {X : Nat → Prop} {t0 t1 : Value} {R : Value → WP} {w : World} (h : y3 X t0 t1 R w) : Fn PR X 124 #[t0, t1] w R := C9 (args := [t0, t1]) mixed Tryz.func124 (by kernel_rfl) h
def Z4 (X : Nat → Prop) (t0 t1 : Value) (R : Value → WP) : WP :=
 B3 PR X 160 [t0, t1] fun t7 =>
 A0 PR (binOp .geq 3 t7 (.int .i64 0)) fun t8 =>
 R t8
theorem A0M : B2 PR 125 := A7 Tryz.func125 (by kernel_rfl) rfl
theorem A0q {X : Nat → Prop} {t0 t1 : Value} {R : Value → WP} {w : World} (h : Z4 X t0 t1 R w) : Fn PR X 125 #[t0, t1] w R := C9 (args := [t0, t1]) mixed Tryz.func125 (by kernel_rfl) h
def j5 (X : Nat → Prop) (t0 : Value) (R : Value → WP) : WP :=
 B3 PR X 161 [(.slice none 0 0), t0] fun t4 =>
 R t4
theorem A2S : B2 PR 127 := A7 Tryz.func127 (by kernel_rfl) rfl
theorem A29 {X : Nat → Prop} {t0 : Value} {R : Value → WP} {w : World} (h : j5 X t0 R w) : Fn PR X 127 #[t0] w R := C9 (args := [t0]) mixed Tryz.func127 (by kernel_rfl) h
theorem j7 : B2 PR 128 := A7 Tryz.func128 (by kernel_rfl) rfl
def A9e (X : Nat → Prop) (t0 : Value) (R : Value → WP) : WP :=
 jn (n := 2) (fun t2 t8 =>
 R (.int .i64 0)) fun J1 =>
 A0 PR (A8 .len #[54] 0 [t0]) fun t7 =>
 lp (n := 2) (fun L2 t2_1 t8_1 =>
 A0 PR (binOp .lss 3 t8_1 t7) fun t9 =>
 jn (n := 0) (
 jn (n := 1) (fun t2_2 =>
 A0 PR (binOp .add 3 t8_1 (.int .i64 1)) fun t16 =>
 L2 t2_2 t16) fun J3 =>
 A0 PR (Instr.indexAt 54 t0 t8_1) fun t10 =>
 A6 PR (Instr.loadAt 3 t10) fun t11 =>
 A0 PR (binOp .neq 3 t11 (.int .i64 0)) fun t14 =>
 B7 t14 (
 R t11) (
 J3 t2_1)) fun J4 =>
 B7 t9 (
 J4) (
 J1 t2_1 t8_1)) (.int .i64 0) (.int .i64 0)
theorem B35 : B2 PR 131 := A7 Tryz.func131 (by kernel_rfl) rfl
theorem B5Q {X : Nat → Prop} {t0 : Value} {R : Value → WP} {w : World} (h : A9e X t0 R w) : Fn PR X 131 #[t0] w R := C9 (args := [t0]) mixed Tryz.func131 (by kernel_rfl) h
theorem B6g {X : Nat → Prop} {t0 : Value} {K : Value → WP} {w : World} (h : Fn PR X 131 #[t0] w K) : B3 PR X 131 [t0] K w := Or.inl ⟨B35, h⟩
def A2P (X : Nat → Prop) (t0 t1 : Value) (R : Value → WP) : WP :=
 B3 PR X 164 [t0] fun t8 =>
 B3 PR X 164 [t1] fun t10 =>
 jn (n := 1) (fun t4 =>
 jn (n := 1) (fun t4_1 =>
 jn (n := 1) (fun t4_2 =>
 jn (n := 1) (fun t4_3 =>
 R (.int .i64 0)) fun J1 =>
 A0 PR (binOp .gtr 208 t0 t1) fun t19 =>
 B7 t19 (
 R (.int .i64 1)) (
 J1 t4_2)) fun J2 =>
 A0 PR (binOp .lss 208 t0 t1) fun t16 =>
 B7 t16 (
 R (.int .i64 (-1))) (
 J2 t4_1)) fun J3 =>
 B7 t10 (
 R (.int .i64 1)) (
 J3 t4)) fun J4 =>
 B7 t8 (
 jn (n := 1) (fun t4_4 =>
 R (.int .i64 (-1))) fun J5 =>
 B7 t10 (
 R (.int .i64 0)) (
 J5 (.int .i64 0))) (
 J4 (.int .i64 0))
theorem A64 : B2 PR 132 := A7 Tryz.func132 (by kernel_rfl) rfl
theorem A8T {X : Nat → Prop} {t0 t1 : Value} {R : Value → WP} {w : World} (h : A2P X t0 t1 R w) : Fn PR X 132 #[t0, t1] w R := C9 (args := [t0, t1]) mixed Tryz.func132 (by kernel_rfl) h
theorem A8Z {X : Nat → Prop} {t0 t1 : Value} {K : Value → WP} {w : World} (h : Fn PR X 132 #[t0, t1] w K) : B3 PR X 132 [t0, t1] K w := Or.inl ⟨A64, h⟩
def A30 (X : Nat → Prop) (t0 t1 : Value) (R : Value → WP) : WP :=
 B3 PR X 165 [t0] fun t8 =>
 B3 PR X 165 [t1] fun t10 =>
 jn (n := 1) (fun t4 =>
 jn (n := 1) (fun t4_1 =>
 jn (n := 1) (fun t4_2 =>
 jn (n := 1) (fun t4_3 =>
 R (.int .i64 0)) fun J1 =>
 A0 PR (binOp .gtr 3 t0 t1) fun t19 =>
 B7 t19 (
 R (.int .i64 1)) (
 J1 t4_2)) fun J2 =>
 A0 PR (binOp .lss 3 t0 t1) fun t16 =>
 B7 t16 (
 R (.int .i64 (-1))) (
 J2 t4_1)) fun J3 =>
 B7 t10 (
 R (.int .i64 1)) (
 J3 t4)) fun J4 =>
 B7 t8 (
 jn (n := 1) (fun t4_4 =>
 R (.int .i64 (-1))) fun J5 =>
 B7 t10 (
 R (.int .i64 0)) (
 J5 (.int .i64 0))) (
 J4 (.int .i64 0))
theorem A94 : B2 PR 133 := A7 Tryz.func133 (by kernel_rfl) rfl
theorem B0z {X : Nat → Prop} {t0 t1 : Value} {R : Value → WP} {w : World} (h : A30 X t0 t1 R w) : Fn PR X 133 #[t0, t1] w R := C9 (args := [t0, t1]) mixed Tryz.func133 (by kernel_rfl) h
theorem B1T {X : Nat → Prop} {t0 t1 : Value} {K : Value → WP} {w : World} (h : Fn PR X 133 #[t0, t1] w K) : B3 PR X 133 [t0, t1] K w := Or.inl ⟨A94, h⟩
def e9 (X : Nat → Prop) (t0 t1 : Value) (R : Value → WP) : WP :=
 jn (n := 2) (fun t4 t8 =>
 R (.int .i64 (-1))) fun J1 =>
 A0 PR (A8 .len #[252] 0 [t0]) fun t7 =>
 lp (n := 2) (fun L2 t4_1 t8_1 =>
 A0 PR (binOp .lss 3 t8_1 t7) fun t9 =>
 jn (n := 0) (
 jn (n := 1) (fun t4_2 =>
 A0 PR (binOp .add 3 t8_1 (.int .i64 1)) fun t18 =>
 L2 t4_2 t18) fun J3 =>
 A0 PR (Instr.indexAt 252 t0 t8_1) fun t14 =>
 A6 PR (Instr.loadAt 205 t14) fun t15 =>
 q6 PR X t1 [t15] fun t16 =>
 B7 t16 (
 R t8_1) (
 J3 t4_1)) fun J4 =>
 B7 t9 (
 J4) (
 J1 t4_1 t8_1)) (.int .i64 0) (.int .i64 0)
theorem A1g : B2 PR 160 := A7 Tryz.func160 (by kernel_rfl) rfl
theorem A2Q {X : Nat → Prop} {t0 t1 : Value} {R : Value → WP} {w : World} (h : e9 X t0 t1 R w) : Fn PR X 160 #[t0, t1] w R := C9 (args := [t0, t1]) mixed Tryz.func160 (by kernel_rfl) h
def S7 (X : Nat → Prop) (t0 t1 : Value) (R : Value → WP) : WP :=
 B9 PR X (Instr.box 206 t0) fun t2 =>
 jn (n := 0) (
 A6 PR (Instr.loadAt 206 t2) fun t12 =>
 unw (R t12)) fun J1 =>
 rng (N := 1) PR X (fun t7 K2 =>
 B9 PR (fun _ => False) (Instr.alloc 210 true (.tuple #[])) fun t5 =>
 C2 PR (fun _ => False) (Instr.storeAt 210 t5 t7) <|
 bgn <|
 A6 PR (Instr.loadAt 206 t2) fun t8 =>
 A6 PR (Instr.loadAt 210 t5) fun t9 =>
 B9 PR (fun _ => False) (Instr.buildSlice 206 1 #[(0, t9)]) fun t10 =>
 B9 PR (fun _ => False) (A8 .append #[206, 206] 206 [t8, t10]) fun t11 =>
 C2 PR (fun _ => False) (Instr.storeAt 206 t2 t11) <|
 K2 none) t1 (fun j => match j with | none => (J1) | some (.exit i) => (match Nat.beq i 0 with | true => (J1) | false => (H8)) | some .ret => (unw (R (.slice none 0 0))) | some _ => H8)
theorem f7 : B2 PR 161 := A7 Tryz.func161 (by kernel_rfl) rfl
theorem k8 {X : Nat → Prop} {t0 t1 : Value} {R : Value → WP} {w : World} (h : S7 X t0 t1 R w) : Fn PR X 161 #[t0, t1] w R := C9 (args := [t0, t1]) mixed Tryz.func161 (by kernel_rfl) h
def A3S (X : Nat → Prop) (t0 : Value) (R : Value → WP) : WP :=
 A0 PR (binOp .neq 208 t0 t0) fun t5 =>
 R t5
theorem A84 : B2 PR 164 := A7 Tryz.func164 (by kernel_rfl) rfl
theorem A92 {X : Nat → Prop} {t0 : Value} {R : Value → WP} {w : World} (h : A3S X t0 R w) : Fn PR X 164 #[t0] w R := C9 (args := [t0]) mixed Tryz.func164 (by kernel_rfl) h
theorem A34 {X : Nat → Prop} {t0 : Value} {K : Value → WP} {w : World} (h : Fn PR X 164 #[t0] w K) : B3 PR X 164 [t0] K w := Or.inl ⟨A84, h⟩
def A5S (X : Nat → Prop) (t0 : Value) (R : Value → WP) : WP :=
 A0 PR (binOp .neq 3 t0 t0) fun t5 =>
 R t5
theorem B1M : B2 PR 165 := A7 Tryz.func165 (by kernel_rfl) rfl
theorem B2A {X : Nat → Prop} {t0 : Value} {R : Value → WP} {w : World} (h : A5S X t0 R w) : Fn PR X 165 #[t0] w R := C9 (args := [t0]) mixed Tryz.func165 (by kernel_rfl) h
theorem A6T {X : Nat → Prop} {t0 : Value} {K : Value → WP} {w : World} (h : Fn PR X 165 #[t0] w K) : B3 PR X 165 [t0] K w := Or.inl ⟨B1M, h⟩
end Go.Proofs.YtpnidmkaobfhiaaGreat
namespace Go.Proofs.YtpnidmkaobfhiaaGreat
open Go
def B0T (X : Nat → Prop) (t0 t1 : Value) (R : Value → WP) : WP :=
 B9 PR X (Instr.box 208 t0) fun t2 =>
 jn (n := 1) (fun t4 =>
 B9 PR X (Instr.makeSlice 234 t1 t1) fun t15 =>
 B9 PR X (Instr.alloc 234 true (.tuple #[])) fun t5 =>
 C2 PR X (Instr.storeAt 234 t5 t15) <|
 jn (n := 0) (
 A6 PR (Instr.loadAt 234 t5) fun t27 =>
 A6 PR (convert 234 9 t27) fun t28 =>
 unw (R t28)) fun J1 =>
 B3 PR X 146 [t1] fun t17 =>
 rng (N := 2) PR X (fun t18 t19 K2 =>
 bgn <|
 A6 PR (Instr.loadAt 234 t5) fun t20 =>
 A6 PR (Instr.loadAt 208 t2) fun t22 =>
 A0 PR (binOp .shr 208 t22 t19) fun t24 =>
 A0 PR (convert 208 5 t24) fun t25 =>
 A0 PR (Instr.indexAt 234 t20 t18) fun t26 =>
 C2 PR (fun _ => False) (Instr.storeAt 5 t26 t25) <|
 K2 none) t17 (fun j => match j with | none => (J1) | some (.exit i) => (match Nat.beq i 0 with | true => (J1) | false => (H8)) | some .ret => (unw (R t4)) | some _ => H8)) fun J3 =>
 A0 PR (binOp .lss 3 t1 (.int .i64 1)) fun t9 =>
 gj t9 false (fun J => J t1) fun t11 =>
 gj t9 false (fun J => A0 PR (binOp .gtr 3 t11 (.int .i64 8)) J) fun t12 =>
 A0 PR (do pure (if ← asBool t9 then (.bool true) else t12)) fun t13 =>
 B7 t13 (
 unw (R (.string (ByteArray.mk #[])))) (
 J3 (.string (ByteArray.mk #[])))
theorem A4G : B2 PR 114 := A7 Tryz.func114 (by kernel_rfl) rfl
theorem B6G {X : Nat → Prop} {t0 t1 : Value} {R : Value → WP} {w : World} (h : B0T X t0 t1 R w) : Fn PR X 114 #[t0, t1] w R := C9 (args := [t0, t1]) mixed Tryz.func114 (by kernel_rfl) h
def A8P (X : Nat → Prop) (t0 : Value) (R : Value → WP) : WP :=
 B9 PR X (Instr.box 3 t0) fun t1 =>
 A0 PR (Instr.makeFunc (.func 176) #[] #[t1]) fun t3 =>
 R t3
theorem B2d : B2 PR 146 := A7 Tryz.func146 (by kernel_rfl) rfl
theorem B3w {X : Nat → Prop} {t0 : Value} {R : Value → WP} {w : World} (h : A8P X t0 R w) : Fn PR X 146 #[t0] w R := C9 (args := [t0]) mixed Tryz.func146 (by kernel_rfl) h
def A4Q (X : Nat → Prop) (t0 t1 : Value) (R : Value → WP) : WP :=
 A6 PR (Instr.loadAt 3 t1) fun t4 =>
 lp (n := 1) (fun L1 t5 =>
 A0 PR (binOp .lss 3 t5 t4) fun t6 =>
 jn (n := 0) (
 jn (n := 0) (
 A0 PR (binOp .add 3 t5 (.int .i64 1)) fun t18 =>
 L1 t18) fun J2 =>
 A6 PR (Instr.loadAt 3 t1) fun t10 =>
 A0 PR (binOp .sub 3 t10 (.int .i64 1)) fun t11 =>
 A0 PR (binOp .sub 3 t11 t5) fun t13 =>
 A0 PR (binOp .mul 3 (.int .i64 8) t13) fun t14 =>
 A0 PR (convert 3 236 t14) fun t15 =>
 q6 PR X t0 [t5, t15] fun t16 =>
 A0 PR (Op.unary .not t16) fun t17 =>
 B7 t17 (
 R (.tuple #[])) (
 J2)) fun J3 =>
 B7 t6 (
 J3) (
 R (.tuple #[]))) (.int .i64 0)
theorem B02 : B2 PR 176 := A7 Tryz.func176 (by kernel_rfl) rfl
theorem B1S {X : Nat → Prop} {t0 t1 : Value} {R : Value → WP} {w : World} (h : A4Q X t0 t1 R w) : Fn PR X 176 #[t0, t1] w R := C9 (args := [t0, t1]) mixed Tryz.func176 (by kernel_rfl) h
theorem B1L {X : Nat → Prop} {t0 t1 : Value} {K : Value → WP} {w : World} (h : Fn PR X 176 #[t0, t1] w K) : A2W PR X 176 [t0, t1] K w := ⟨B02, h⟩
end Go.Proofs.YtpnidmkaobfhiaaGreat
namespace Go.Proofs.YtpnidmkaobfhiaaGreat
open Go
theorem A8y : TI PR 152 Tryz.t151.desc 2 48 (.agg #[(.slice none 0 0), (.slice none 0 0)]) := ⟨Tryz.underlying152, Tryz.t152, by kernel_rfl, rfl, rfl, rfl⟩
theorem A1c : TI PR 155 Tryz.t154.desc 4 40 (.agg #[(.int .i64 0), (.string (ByteArray.mk #[])), (.int .i64 0), (.int .i64 0)]) := ⟨Tryz.underlying155, Tryz.t155, by kernel_rfl, rfl, rfl, rfl⟩
theorem B1K : TI PR 170 Tryz.t139.desc 0 0 (.agg #[]) := ⟨Tryz.underlying170, Tryz.t170, by kernel_rfl, rfl, rfl, rfl⟩
theorem A80 : TI PR 208 Tryz.t208.desc 1 8 (.int .u64 0) := ⟨Tryz.underlying208, Tryz.t208, by kernel_rfl, rfl, rfl, rfl⟩
theorem A8m : TI PR 210 Tryz.t209.desc 2 16 (.agg #[(.int .u64 0), (.int .i64 0)]) := ⟨Tryz.underlying210, Tryz.t210, by kernel_rfl, rfl, rfl, rfl⟩
theorem B5S : TI PR 234 Tryz.t234.desc 1 24 (.slice none 0 0) := ⟨Tryz.underlying234, Tryz.t234, by kernel_rfl, rfl, rfl, rfl⟩
theorem C7m : TI PR 244 Tryz.t244.desc 1 8 .nilFunc := ⟨Tryz.underlying244, Tryz.t244, by kernel_rfl, rfl, rfl, rfl⟩
theorem B9K : TI PR 289 Tryz.t55.desc 1 24 (.slice none 0 0) := ⟨Tryz.underlying289, Tryz.t289, by kernel_rfl, rfl, rfl, rfl⟩
theorem H4 : TI PR 3 Tryz.t3.desc 1 8 (.int .i64 0) := ⟨Tryz.underlying3, Tryz.t3, by kernel_rfl, rfl, rfl, rfl⟩
theorem B7A : TI PR 31 Tryz.t3.desc 1 8 (.int .i64 0) := ⟨Tryz.underlying31, Tryz.t31, by kernel_rfl, rfl, rfl, rfl⟩
theorem C8d : TI PR 314 Tryz.t314.desc 1 8 .nilFunc := ⟨Tryz.underlying314, Tryz.t314, by kernel_rfl, rfl, rfl, rfl⟩
theorem C3y : TI PR 316 Tryz.t208.desc 1 8 (.int .u64 0) := ⟨Tryz.underlying316, Tryz.t316, by kernel_rfl, rfl, rfl, rfl⟩
theorem B2V : TI PR 49 Tryz.t48.desc 3 3 (.agg #[(.bool false), (.bool false), (.bool false)]) := ⟨Tryz.underlying49, Tryz.t49, by kernel_rfl, rfl, rfl, rfl⟩
theorem B5s : TI PR 51 Tryz.t48.desc 3 3 (.agg #[(.bool false), (.bool false), (.bool false)]) := ⟨Tryz.underlying51, Tryz.t51, by kernel_rfl, rfl, rfl, rfl⟩
theorem A8n : TI PR 55 Tryz.t55.desc 1 24 (.slice none 0 0) := ⟨Tryz.underlying55, Tryz.t55, by kernel_rfl, rfl, rfl, rfl⟩
theorem B0e : TI PR 57 Tryz.t56.desc 4 32 (.agg #[(.int .i64 0), (.int .i64 0), (.bool false), (.int .i64 0)]) := ⟨Tryz.underlying57, Tryz.t57, by kernel_rfl, rfl, rfl, rfl⟩
theorem B2S : TI PR 83 Tryz.t82.desc 2 16 (.agg #[(.int .i64 0), (.int .i64 0)]) := ⟨Tryz.underlying83, Tryz.t83, by kernel_rfl, rfl, rfl, rfl⟩
theorem A9N : TI PR 91 Tryz.t90.desc 6 48 (.agg #[(.int .i64 0), (.int .i64 0), (.int .i64 0), (.int .i64 0), (.bool false), (.int .i64 0)]) := ⟨Tryz.underlying91, Tryz.t91, by kernel_rfl, rfl, rfl, rfl⟩
theorem B21 : TI PR 107 Tryz.t107.desc 1 24 (.slice none 0 0) := ⟨Tryz.underlying107, Tryz.t107, by kernel_rfl, rfl, rfl, rfl⟩
theorem A6V : TI PR 179 Tryz.t178.desc 2 32 (.agg #[(.int .i64 0), (.slice none 0 0)]) := ⟨Tryz.underlying179, Tryz.t179, by kernel_rfl, rfl, rfl, rfl⟩
theorem B2m : TI PR 108 Tryz.t108.desc 1 24 (.slice none 0 0) := ⟨Tryz.underlying108, Tryz.t108, by kernel_rfl, rfl, rfl, rfl⟩
theorem A6C : TI PR 186 Tryz.t185.desc 2 16 (.agg #[(.int .i64 0), (.int .i64 0)]) := ⟨Tryz.underlying186, Tryz.t186, by kernel_rfl, rfl, rfl, rfl⟩
theorem C8a : TI PR 150 Tryz.t150.desc 1 24 (.slice none 0 0) := ⟨Tryz.underlying150, Tryz.t150, by kernel_rfl, rfl, rfl, rfl⟩
theorem C8W : TI PR 216 Tryz.t209.desc 2 16 (.agg #[(.int .u64 0), (.int .i64 0)]) := ⟨Tryz.underlying216, Tryz.t216, by kernel_rfl, rfl, rfl, rfl⟩
theorem B5T : TI PR 206 Tryz.t206.desc 1 24 (.slice none 0 0) := ⟨Tryz.underlying206, Tryz.t206, by kernel_rfl, rfl, rfl, rfl⟩
theorem ty9 : TI PR 9 Tryz.t9.desc 1 16 (.string (ByteArray.mk #[])) := ⟨Tryz.underlying9, Tryz.t9, by kernel_rfl, rfl, rfl, rfl⟩
theorem A9G : TI PR 36 Tryz.t36.desc 1 24 (.slice none 0 0) := ⟨Tryz.underlying36, Tryz.t36, by kernel_rfl, rfl, rfl, rfl⟩
theorem A3l : TI PR 54 Tryz.t54.desc 1 24 (.slice none 0 0) := ⟨Tryz.underlying54, Tryz.t54, by kernel_rfl, rfl, rfl, rfl⟩
theorem B3z : TI PR 72 Tryz.t72.desc 1 24 (.slice none 0 0) := ⟨Tryz.underlying72, Tryz.t72, by kernel_rfl, rfl, rfl, rfl⟩
theorem B3H : TI PR 101 Tryz.t100.desc 9 88 (.agg #[(.int .i64 0), (.int .i64 0), (.int .i64 0), (.int .i64 0), (.bool false), (.int .i64 0), (.int .i64 0), (.int .i64 0), (.slice none 0 0)]) := ⟨Tryz.underlying101, Tryz.t101, by kernel_rfl, rfl, rfl, rfl⟩
@[simp] theorem C6k {v0 v1 : Value} (h0 : v0.cells.size = 6) (h1 : v1.cells.size = 1) (K : Value → WP) : A0 PR (Instr.build 101 #[(0, v0), (1, v1)]) K = K (.agg (F4 (F4 #[(.int .i64 0), (.int .i64 0), (.int .i64 0), (.int .i64 0), (.bool false), (.int .i64 0), (.int .i64 0), (.int .i64 0), (.slice none 0 0)] 0 v0.cells.toList) 6 v1.cells.toList)) := E8 (pl := #[(0, 6), (6, 1), (7, 1), (8, 1)]) B3H (fun w => by kernel_rfl) (by rw [C4 rfl h0 (by simp [C7]), C4 rfl h1 (by simp [C7])]; rfl)
theorem C4V : TI PR 104 Tryz.t103.desc 6 48 (.agg #[(.int .i64 0), (.int .i64 0), (.int .i64 0), (.int .i64 0), (.bool false), (.int .i64 0)]) := ⟨Tryz.underlying104, Tryz.t104, by kernel_rfl, rfl, rfl, rfl⟩
@[simp] theorem C8u {v0 : Value} (h0 : v0.cells.size = 6) (K : Value → WP) : A0 PR (Instr.build 104 #[(0, v0)]) K = K (.agg (F4 #[(.int .i64 0), (.int .i64 0), (.int .i64 0), (.int .i64 0), (.bool false), (.int .i64 0)] 0 v0.cells.toList)) := E8 (pl := #[(0, 6)]) C4V (fun w => by kernel_rfl) (by rw [C4 rfl h0 (by simp [C7])]; rfl)
theorem C35 : TI PR 106 Tryz.t103.desc 6 48 (.agg #[(.int .i64 0), (.int .i64 0), (.int .i64 0), (.int .i64 0), (.bool false), (.int .i64 0)]) := ⟨Tryz.underlying106, Tryz.t106, by kernel_rfl, rfl, rfl, rfl⟩
@[simp] theorem C8l {v0 : Value} (h0 : v0.cells.size = 6) (K : Value → WP) : A0 PR (Instr.build 106 #[(0, v0)]) K = K (.agg (F4 #[(.int .i64 0), (.int .i64 0), (.int .i64 0), (.int .i64 0), (.bool false), (.int .i64 0)] 0 v0.cells.toList)) := E8 (pl := #[(0, 6)]) C35 (fun w => by kernel_rfl) (by rw [C4 rfl h0 (by simp [C7])]; rfl)
theorem A24 : TI PR 110 Tryz.t109.desc 14 208 (.agg #[(.int .i64 0), (.int .i64 0), (.int .i64 0), (.int .i64 0), (.int .i64 0), (.int .i64 0), (.int .i64 0), (.slice none 0 0), (.slice none 0 0), (.slice none 0 0), (.slice none 0 0), (.slice none 0 0), (.slice none 0 0), (.int .i64 0)]) := ⟨Tryz.underlying110, Tryz.t110, by kernel_rfl, rfl, rfl, rfl⟩
@[simp] theorem C5N {v0 v1 v2 : Value} (h0 : v0.cells.size = 5) (h1 : v1.cells.size = 1) (h2 : v2.cells.size = 1) (K : Value → WP) : A0 PR (Instr.build 110 #[(0, v0), (3, v1), (8, v2)]) K = K (.agg (F4 (F4 (F4 #[(.int .i64 0), (.int .i64 0), (.int .i64 0), (.int .i64 0), (.int .i64 0), (.int .i64 0), (.int .i64 0), (.slice none 0 0), (.slice none 0 0), (.slice none 0 0), (.slice none 0 0), (.slice none 0 0), (.slice none 0 0), (.int .i64 0)] 0 v0.cells.toList) 7 v1.cells.toList) 12 v2.cells.toList)) := E8 (pl := #[(0, 5), (5, 1), (6, 1), (7, 1), (8, 1), (9, 1), (10, 1), (11, 1), (12, 1), (13, 1)]) A24 (fun w => by kernel_rfl) (by rw [C4 rfl h0 (by simp [C7]), C4 rfl h1 (by simp [C7]), C4 rfl h2 (by simp [C7])]; rfl)
theorem B5b : TI PR 147 Tryz.t146.desc 3 56 (.agg #[(.int .i64 0), (.slice none 0 0), (.slice none 0 0)]) := ⟨Tryz.underlying147, Tryz.t147, by kernel_rfl, rfl, rfl, rfl⟩
@[simp] theorem C5n {v0 v1 : Value} (h0 : v0.cells.size = 1) (h1 : v1.cells.size = 1) (K : Value → WP) : A0 PR (Instr.build 147 #[(1, v0), (2, v1)]) K = K (.agg (F4 (F4 #[(.int .i64 0), (.slice none 0 0), (.slice none 0 0)] 1 v0.cells.toList) 2 v1.cells.toList)) := E8 (pl := #[(0, 1), (1, 1), (2, 1)]) B5b (fun w => by kernel_rfl) (by rw [C4 rfl h0 (by simp [C7]), C4 rfl h1 (by simp [C7])]; rfl)
@[simp] theorem C6S {v0 v1 : Value} (h0 : v0.cells.size = 1) (h1 : v1.cells.size = 1) (K : Value → WP) : A0 PR (Instr.build 152 #[(0, v0), (1, v1)]) K = K (.agg (F4 (F4 #[(.slice none 0 0), (.slice none 0 0)] 0 v0.cells.toList) 1 v1.cells.toList)) := E8 (pl := #[(0, 1), (1, 1)]) A8y (fun w => by kernel_rfl) (by rw [C4 rfl h0 (by simp [C7]), C4 rfl h1 (by simp [C7])]; rfl)
@[simp] theorem C2l {v0 v1 v2 v3 : Value} (h0 : v0.cells.size = 1) (h1 : v1.cells.size = 1) (h2 : v2.cells.size = 1) (h3 : v3.cells.size = 1) (K : Value → WP) : A0 PR (Instr.build 155 #[(0, v0), (1, v1), (2, v2), (3, v3)]) K = K (.agg (F4 (F4 (F4 (F4 #[(.int .i64 0), (.string (ByteArray.mk #[])), (.int .i64 0), (.int .i64 0)] 0 v0.cells.toList) 1 v1.cells.toList) 2 v2.cells.toList) 3 v3.cells.toList)) := E8 (pl := #[(0, 1), (1, 1), (2, 1), (3, 1)]) A1c (fun w => by kernel_rfl) (by rw [C4 rfl h0 (by simp [C7]), C4 rfl h1 (by simp [C7]), C4 rfl h2 (by simp [C7]), C4 rfl h3 (by simp [C7])]; rfl)
@[simp] theorem C8N {v0 : Value} (h0 : v0.cells.size = 1) (K : Value → WP) : A0 PR (Instr.build 155 #[(0, v0)]) K = K (.agg (F4 #[(.int .i64 0), (.string (ByteArray.mk #[])), (.int .i64 0), (.int .i64 0)] 0 v0.cells.toList)) := E8 (pl := #[(0, 1), (1, 1), (2, 1), (3, 1)]) A1c (fun w => by kernel_rfl) (by rw [C4 rfl h0 (by simp [C7])]; rfl)
theorem C4Y : TI PR 162 Tryz.t161.desc 1 24 (.agg #[(.slice none 0 0)]) := ⟨Tryz.underlying162, Tryz.t162, by kernel_rfl, rfl, rfl, rfl⟩
@[simp] theorem C7k {v0 : Value} (h0 : v0.cells.size = 1) (K : Value → WP) : A0 PR (Instr.build 162 #[(0, v0)]) K = K (.agg (F4 #[(.slice none 0 0)] 0 v0.cells.toList)) := E8 (pl := #[(0, 1)]) C4Y (fun w => by kernel_rfl) (by rw [C4 rfl h0 (by simp [C7])]; rfl)
theorem A4c : TI PR 164 Tryz.t163.desc 2 16 (.agg #[(.int .i64 0), (.int .i64 0)]) := ⟨Tryz.underlying164, Tryz.t164, by kernel_rfl, rfl, rfl, rfl⟩
@[simp] theorem C9P  (K : Value → WP) : A0 PR (Instr.build 164 #[]) K = K (.agg #[(.int .i64 0), (.int .i64 0)]) := E8 (pl := #[(0, 1), (1, 1)]) A4c (fun w => by kernel_rfl) rfl
@[simp] theorem C6T {v0 v1 : Value} (h0 : v0.cells.size = 1) (h1 : v1.cells.size = 1) (K : Value → WP) : A0 PR (Instr.build 164 #[(0, v0), (1, v1)]) K = K (.agg (F4 (F4 #[(.int .i64 0), (.int .i64 0)] 0 v0.cells.toList) 1 v1.cells.toList)) := E8 (pl := #[(0, 1), (1, 1)]) A4c (fun w => by kernel_rfl) (by rw [C4 rfl h0 (by simp [C7]), C4 rfl h1 (by simp [C7])]; rfl)
@[simp] theorem C8e {v0 : Value} (h0 : v0.cells.size = 1) (K : Value → WP) : A0 PR (Instr.build 164 #[(0, v0)]) K = K (.agg (F4 #[(.int .i64 0), (.int .i64 0)] 0 v0.cells.toList)) := E8 (pl := #[(0, 1), (1, 1)]) A4c (fun w => by kernel_rfl) (by rw [C4 rfl h0 (by simp [C7])]; rfl)
theorem B8q : TI PR 167 Tryz.t166.desc 17 136 (.agg #[(.int .i64 0), (.int .i64 0), (.int .i64 0), (.int .i64 0), (.int .i64 0), (.int .i64 0), (.int .i64 0), (.int .i64 0), (.int .i64 0), (.int .i64 0), (.int .i64 0), (.int .i64 0), (.int .i64 0), (.int .i64 0), (.int .i64 0), (.int .i64 0), (.int .i64 0)]) := ⟨Tryz.underlying167, Tryz.t167, by kernel_rfl, rfl, rfl, rfl⟩
@[simp] theorem C8K {v0 : Value} (h0 : v0.cells.size = 1) (K : Value → WP) : A0 PR (Instr.build 167 #[(1, v0)]) K = K (.agg (F4 #[(.int .i64 0), (.int .i64 0), (.int .i64 0), (.int .i64 0), (.int .i64 0), (.int .i64 0), (.int .i64 0), (.int .i64 0), (.int .i64 0), (.int .i64 0), (.int .i64 0), (.int .i64 0), (.int .i64 0), (.int .i64 0), (.int .i64 0), (.int .i64 0), (.int .i64 0)] 16 v0.cells.toList)) := E8 (pl := #[(0, 16), (16, 1)]) B8q (fun w => by kernel_rfl) (by rw [C4 rfl h0 (by simp [C7])]; rfl)
@[simp] theorem C9e  (K : Value → WP) : A0 PR (Instr.build 170 #[]) K = K (.agg #[]) := E8 (pl := #[]) B1K (fun w => by kernel_rfl) rfl
@[simp] theorem D0x  (K : Value → WP) : A0 PR (Instr.build 179 #[]) K = K (.agg #[(.int .i64 0), (.slice none 0 0)]) := E8 (pl := #[(0, 1), (1, 1)]) A6V (fun w => by kernel_rfl) rfl
@[simp] theorem C6U {v0 v1 : Value} (h0 : v0.cells.size = 1) (h1 : v1.cells.size = 1) (K : Value → WP) : A0 PR (Instr.build 179 #[(0, v0), (1, v1)]) K = K (.agg (F4 (F4 #[(.int .i64 0), (.slice none 0 0)] 0 v0.cells.toList) 1 v1.cells.toList)) := E8 (pl := #[(0, 1), (1, 1)]) A6V (fun w => by kernel_rfl) (by rw [C4 rfl h0 (by simp [C7]), C4 rfl h1 (by simp [C7])]; rfl)
@[simp] theorem C7s {v0 : Value} (h0 : v0.cells.size = 1) (K : Value → WP) : A0 PR (Instr.build 179 #[(0, v0)]) K = K (.agg (F4 #[(.int .i64 0), (.slice none 0 0)] 0 v0.cells.toList)) := E8 (pl := #[(0, 1), (1, 1)]) A6V (fun w => by kernel_rfl) (by rw [C4 rfl h0 (by simp [C7])]; rfl)
@[simp] theorem D0Q  (K : Value → WP) : A0 PR (Instr.build 186 #[]) K = K (.agg #[(.int .i64 0), (.int .i64 0)]) := E8 (pl := #[(0, 1), (1, 1)]) A6C (fun w => by kernel_rfl) rfl
@[simp] theorem C6b {v0 v1 : Value} (h0 : v0.cells.size = 1) (h1 : v1.cells.size = 1) (K : Value → WP) : A0 PR (Instr.build 186 #[(0, v0), (1, v1)]) K = K (.agg (F4 (F4 #[(.int .i64 0), (.int .i64 0)] 0 v0.cells.toList) 1 v1.cells.toList)) := E8 (pl := #[(0, 1), (1, 1)]) A6C (fun w => by kernel_rfl) (by rw [C4 rfl h0 (by simp [C7]), C4 rfl h1 (by simp [C7])]; rfl)
@[simp] theorem C9B {v0 : Value} (h0 : v0.cells.size = 1) (K : Value → WP) : A0 PR (Instr.build 186 #[(0, v0)]) K = K (.agg (F4 #[(.int .i64 0), (.int .i64 0)] 0 v0.cells.toList)) := E8 (pl := #[(0, 1), (1, 1)]) A6C (fun w => by kernel_rfl) (by rw [C4 rfl h0 (by simp [C7])]; rfl)
theorem B20 : TI PR 205 Tryz.t205.desc 2 16 (.agg #[(.int .i64 0), (.int .i64 0)]) := ⟨Tryz.underlying205, Tryz.t205, by kernel_rfl, rfl, rfl, rfl⟩
@[simp] theorem C5j {v0 v1 : Value} (h0 : v0.cells.size = 1) (h1 : v1.cells.size = 1) (K : Value → WP) : A0 PR (Instr.build 210 #[(0, v0), (1, v1)]) K = K (.agg (F4 (F4 #[(.int .u64 0), (.int .i64 0)] 0 v0.cells.toList) 1 v1.cells.toList)) := E8 (pl := #[(0, 1), (1, 1)]) A8m (fun w => by kernel_rfl) (by rw [C4 rfl h0 (by simp [C7]), C4 rfl h1 (by simp [C7])]; rfl)
theorem A5L : TI PR 23 Tryz.t22.desc 5 40 (.agg #[(.int .i64 0), (.int .i64 0), (.int .i64 0), (.int .i64 0), (.int .i64 0)]) := ⟨Tryz.underlying23, Tryz.t23, by kernel_rfl, rfl, rfl, rfl⟩
@[simp] theorem C1v {v0 v1 v2 v3 v4 : Value} (h0 : v0.cells.size = 1) (h1 : v1.cells.size = 1) (h2 : v2.cells.size = 1) (h3 : v3.cells.size = 1) (h4 : v4.cells.size = 1) (K : Value → WP) : A0 PR (Instr.build 23 #[(0, v0), (1, v1), (2, v2), (3, v3), (4, v4)]) K = K (.agg (F4 (F4 (F4 (F4 (F4 #[(.int .i64 0), (.int .i64 0), (.int .i64 0), (.int .i64 0), (.int .i64 0)] 0 v0.cells.toList) 1 v1.cells.toList) 2 v2.cells.toList) 3 v3.cells.toList) 4 v4.cells.toList)) := E8 (pl := #[(0, 1), (1, 1), (2, 1), (3, 1), (4, 1)]) A5L (fun w => by kernel_rfl) (by rw [C4 rfl h0 (by simp [C7]), C4 rfl h1 (by simp [C7]), C4 rfl h2 (by simp [C7]), C4 rfl h3 (by simp [C7]), C4 rfl h4 (by simp [C7])]; rfl)
theorem A6d : TI PR 38 Tryz.t37.desc 4 56 (.agg #[(.int .i64 0), (.string (ByteArray.mk #[])), (.slice none 0 0), (.int .i64 0)]) := ⟨Tryz.underlying38, Tryz.t38, by kernel_rfl, rfl, rfl, rfl⟩
@[simp] theorem C67 {v0 v1 : Value} (h0 : v0.cells.size = 1) (h1 : v1.cells.size = 1) (K : Value → WP) : A0 PR (Instr.build 38 #[(0, v0), (2, v1)]) K = K (.agg (F4 (F4 #[(.int .i64 0), (.string (ByteArray.mk #[])), (.slice none 0 0), (.int .i64 0)] 0 v0.cells.toList) 2 v1.cells.toList)) := E8 (pl := #[(0, 1), (1, 1), (2, 1), (3, 1)]) A6d (fun w => by kernel_rfl) (by rw [C4 rfl h0 (by simp [C7]), C4 rfl h1 (by simp [C7])]; rfl)
@[simp] theorem D0n {v0 : Value} (h0 : v0.cells.size = 1) (K : Value → WP) : A0 PR (Instr.build 38 #[(0, v0)]) K = K (.agg (F4 #[(.int .i64 0), (.string (ByteArray.mk #[])), (.slice none 0 0), (.int .i64 0)] 0 v0.cells.toList)) := E8 (pl := #[(0, 1), (1, 1), (2, 1), (3, 1)]) A6d (fun w => by kernel_rfl) (by rw [C4 rfl h0 (by simp [C7])]; rfl)
@[simp] theorem D18  (K : Value → WP) : A0 PR (Instr.build 49 #[]) K = K (.agg #[(.bool false), (.bool false), (.bool false)]) := E8 (pl := #[(0, 1), (1, 1), (2, 1)]) B2V (fun w => by kernel_rfl) rfl
@[simp] theorem C7F {v0 v1 : Value} (h0 : v0.cells.size = 1) (h1 : v1.cells.size = 1) (K : Value → WP) : A0 PR (Instr.build 49 #[(0, v0), (1, v1)]) K = K (.agg (F4 (F4 #[(.bool false), (.bool false), (.bool false)] 0 v0.cells.toList) 1 v1.cells.toList)) := E8 (pl := #[(0, 1), (1, 1), (2, 1)]) B2V (fun w => by kernel_rfl) (by rw [C4 rfl h0 (by simp [C7]), C4 rfl h1 (by simp [C7])]; rfl)
@[simp] theorem C9p {v0 : Value} (h0 : v0.cells.size = 1) (K : Value → WP) : A0 PR (Instr.build 49 #[(0, v0)]) K = K (.agg (F4 #[(.bool false), (.bool false), (.bool false)] 0 v0.cells.toList)) := E8 (pl := #[(0, 1), (1, 1), (2, 1)]) B2V (fun w => by kernel_rfl) (by rw [C4 rfl h0 (by simp [C7])]; rfl)
@[simp] theorem C9b {v0 : Value} (h0 : v0.cells.size = 1) (K : Value → WP) : A0 PR (Instr.build 49 #[(1, v0)]) K = K (.agg (F4 #[(.bool false), (.bool false), (.bool false)] 1 v0.cells.toList)) := E8 (pl := #[(0, 1), (1, 1), (2, 1)]) B2V (fun w => by kernel_rfl) (by rw [C4 rfl h0 (by simp [C7])]; rfl)
@[simp] theorem D2L  (K : Value → WP) : A0 PR (Instr.build 51 #[]) K = K (.agg #[(.bool false), (.bool false), (.bool false)]) := E8 (pl := #[(0, 1), (1, 1), (2, 1)]) B5s (fun w => by kernel_rfl) rfl
@[simp] theorem C65 {v0 v1 : Value} (h0 : v0.cells.size = 1) (h1 : v1.cells.size = 1) (K : Value → WP) : A0 PR (Instr.build 51 #[(0, v0), (1, v1)]) K = K (.agg (F4 (F4 #[(.bool false), (.bool false), (.bool false)] 0 v0.cells.toList) 1 v1.cells.toList)) := E8 (pl := #[(0, 1), (1, 1), (2, 1)]) B5s (fun w => by kernel_rfl) (by rw [C4 rfl h0 (by simp [C7]), C4 rfl h1 (by simp [C7])]; rfl)
@[simp] theorem D0a {v0 : Value} (h0 : v0.cells.size = 1) (K : Value → WP) : A0 PR (Instr.build 51 #[(0, v0)]) K = K (.agg (F4 #[(.bool false), (.bool false), (.bool false)] 0 v0.cells.toList)) := E8 (pl := #[(0, 1), (1, 1), (2, 1)]) B5s (fun w => by kernel_rfl) (by rw [C4 rfl h0 (by simp [C7])]; rfl)
@[simp] theorem C95 {v0 : Value} (h0 : v0.cells.size = 1) (K : Value → WP) : A0 PR (Instr.build 51 #[(1, v0)]) K = K (.agg (F4 #[(.bool false), (.bool false), (.bool false)] 1 v0.cells.toList)) := E8 (pl := #[(0, 1), (1, 1), (2, 1)]) B5s (fun w => by kernel_rfl) (by rw [C4 rfl h0 (by simp [C7])]; rfl)
@[simp] theorem D1V  (K : Value → WP) : A0 PR (Instr.build 57 #[]) K = K (.agg #[(.int .i64 0), (.int .i64 0), (.bool false), (.int .i64 0)]) := E8 (pl := #[(0, 1), (1, 1), (2, 1), (3, 1)]) B0e (fun w => by kernel_rfl) rfl
@[simp] theorem D0k {v0 : Value} (h0 : v0.cells.size = 1) (K : Value → WP) : A0 PR (Instr.build 57 #[(0, v0)]) K = K (.agg (F4 #[(.int .i64 0), (.int .i64 0), (.bool false), (.int .i64 0)] 0 v0.cells.toList)) := E8 (pl := #[(0, 1), (1, 1), (2, 1), (3, 1)]) B0e (fun w => by kernel_rfl) (by rw [C4 rfl h0 (by simp [C7])]; rfl)
theorem A69 : TI PR 59 Tryz.t58.desc 15 176 (.agg #[(.int .i64 0), (.int .i64 0), (.string (ByteArray.mk #[])), (.slice none 0 0), (.int .i64 0), (.int .i64 0), (.slice none 0 0), (.int .i64 0), (.int .i64 0), (.slice none 0 0), (.int .i64 0), (.int .i64 0), (.int .i64 0), (.bool false), (.int .i64 0)]) := ⟨Tryz.underlying59, Tryz.t59, by kernel_rfl, rfl, rfl, rfl⟩
@[simp] theorem C69 {v0 v1 : Value} (h0 : v0.cells.size = 1) (h1 : v1.cells.size = 4) (K : Value → WP) : A0 PR (Instr.build 59 #[(0, v0), (1, v1)]) K = K (.agg (F4 (F4 #[(.int .i64 0), (.int .i64 0), (.string (ByteArray.mk #[])), (.slice none 0 0), (.int .i64 0), (.int .i64 0), (.slice none 0 0), (.int .i64 0), (.int .i64 0), (.slice none 0 0), (.int .i64 0), (.int .i64 0), (.int .i64 0), (.bool false), (.int .i64 0)] 0 v0.cells.toList) 1 v1.cells.toList)) := E8 (pl := #[(0, 1), (1, 4), (5, 1), (6, 1), (7, 1), (8, 1), (9, 1), (10, 1), (11, 4)]) A69 (fun w => by kernel_rfl) (by rw [C4 rfl h0 (by simp [C7]), C4 rfl h1 (by simp [C7])]; rfl)
theorem B0d : TI PR 74 Tryz.t73.desc 11 120 (.agg #[(.int .i64 0), (.int .i64 0), (.int .i64 0), (.int .i64 0), (.int .i64 0), (.pointer none), (.pointer none), (.pointer none), (.slice none 0 0), (.slice none 0 0), (.int .i64 0)]) := ⟨Tryz.underlying74, Tryz.t74, by kernel_rfl, rfl, rfl, rfl⟩
@[simp] theorem D0K {v0 : Value} (h0 : v0.cells.size = 5) (K : Value → WP) : A0 PR (Instr.build 74 #[(0, v0)]) K = K (.agg (F4 #[(.int .i64 0), (.int .i64 0), (.int .i64 0), (.int .i64 0), (.int .i64 0), (.pointer none), (.pointer none), (.pointer none), (.slice none 0 0), (.slice none 0 0), (.int .i64 0)] 0 v0.cells.toList)) := E8 (pl := #[(0, 5), (5, 1), (6, 1), (7, 1), (8, 1), (9, 1), (10, 1)]) B0d (fun w => by kernel_rfl) (by rw [C4 rfl h0 (by simp [C7])]; rfl)
@[simp] theorem C7C {v0 v1 : Value} (h0 : v0.cells.size = 1) (h1 : v1.cells.size = 1) (K : Value → WP) : A0 PR (Instr.build 83 #[(0, v0), (1, v1)]) K = K (.agg (F4 (F4 #[(.int .i64 0), (.int .i64 0)] 0 v0.cells.toList) 1 v1.cells.toList)) := E8 (pl := #[(0, 1), (1, 1)]) B2S (fun w => by kernel_rfl) (by rw [C4 rfl h0 (by simp [C7]), C4 rfl h1 (by simp [C7])]; rfl)
@[simp] theorem D0p {v0 : Value} (h0 : v0.cells.size = 1) (K : Value → WP) : A0 PR (Instr.build 91 #[(0, v0)]) K = K (.agg (F4 #[(.int .i64 0), (.int .i64 0), (.int .i64 0), (.int .i64 0), (.bool false), (.int .i64 0)] 0 v0.cells.toList)) := E8 (pl := #[(0, 1), (1, 1), (2, 4)]) A9N (fun w => by kernel_rfl) (by rw [C4 rfl h0 (by simp [C7])]; rfl)
theorem B3v : TI PR 94 Tryz.t93.desc 10 112 (.agg #[(.int .i64 0), (.int .i64 0), (.int .i64 0), (.int .i64 0), (.bool false), (.int .i64 0), (.slice none 0 0), (.slice none 0 0), (.int .i64 0), (.int .i64 0)]) := ⟨Tryz.underlying94, Tryz.t94, by kernel_rfl, rfl, rfl, rfl⟩
@[simp] theorem C7A {v0 v1 : Value} (h0 : v0.cells.size = 6) (h1 : v1.cells.size = 1) (K : Value → WP) : A0 PR (Instr.build 94 #[(0, v0), (1, v1)]) K = K (.agg (F4 (F4 #[(.int .i64 0), (.int .i64 0), (.int .i64 0), (.int .i64 0), (.bool false), (.int .i64 0), (.slice none 0 0), (.slice none 0 0), (.int .i64 0), (.int .i64 0)] 0 v0.cells.toList) 6 v1.cells.toList)) := E8 (pl := #[(0, 6), (6, 1), (7, 1), (8, 1), (9, 1)]) B3v (fun w => by kernel_rfl) (by rw [C4 rfl h0 (by simp [C7]), C4 rfl h1 (by simp [C7])]; rfl)
theorem C6m : TI PR 98 Tryz.t97.desc 1 16 (.agg #[.nilIface]) := ⟨Tryz.underlying98, Tryz.t98, by kernel_rfl, rfl, rfl, rfl⟩
@[simp] theorem C9M {v0 : Value} (h0 : v0.cells.size = 1) (K : Value → WP) : A0 PR (Instr.build 98 #[(0, v0)]) K = K (.agg (F4 #[.nilIface] 0 v0.cells.toList)) := E8 (pl := #[(0, 1)]) C6m (fun w => by kernel_rfl) (by rw [C4 rfl h0 (by simp [C7])]; rfl)
theorem B9D : TI PR 159 Tryz.t159.desc 1 24 (.slice none 0 0) := ⟨Tryz.underlying159, Tryz.t159, by kernel_rfl, rfl, rfl, rfl⟩
theorem C2f : TI PR 87 Tryz.t87.desc 1 8 .nilFunc := ⟨Tryz.underlying87, Tryz.t87, by kernel_rfl, rfl, rfl, rfl⟩
theorem B8J : TI PR 252 Tryz.t252.desc 1 24 (.slice none 0 0) := ⟨Tryz.underlying252, Tryz.t252, by kernel_rfl, rfl, rfl, rfl⟩
@[simp] theorem C8w {k : IntKind} (a : Int) (K : Value → WP) : A0 PR (convert 208 3 (.int k a)) K = K (.int .i64 (IntKind.i64.wrap a)) := A8V H4 A80
theorem ty5 : TI PR 5 Tryz.t5.desc 1 1 (.int .u8 0) := ⟨Tryz.underlying5, Tryz.t5, by kernel_rfl, rfl, rfl, rfl⟩
@[simp] theorem C85 {k : IntKind} (a : Int) (K : Value → WP) : A0 PR (convert 208 5 (.int k a)) K = K (.int .u8 (IntKind.u8.wrap a)) := A8V ty5 A80
theorem B7J {K : Value → WP} {w : World} {b o cap : Nat} {ns : List Int} (hr : P9 w b o (ns.map (Value.int .u8))) : A6 PR (convert 234 9 (.slice (some ⟨b, o, none⟩) ns.length cap)) K w = K (.string (A4n ns)) w := C7U B5S ty5 ty9 hr
theorem C76 : TI PR 236 Tryz.t236.desc 1 8 (.int .u64 0) := ⟨Tryz.underlying236, Tryz.t236, by kernel_rfl, rfl, rfl, rfl⟩
@[simp] theorem C7d {k : IntKind} (a : Int) (K : Value → WP) : A0 PR (convert 3 208 (.int k a)) K = K (.int .u64 (IntKind.u64.wrap a)) := A8V A80 H4
@[simp] theorem C7P {k : IntKind} (a : Int) (K : Value → WP) : A0 PR (convert 3 236 (.int k a)) K = K (.int .u64 (IntKind.u64.wrap a)) := A8V C76 H4
@[simp] theorem C8E {k : IntKind} (a : Int) (K : Value → WP) : A0 PR (convert 5 208 (.int k a)) K = K (.int .u64 (IntKind.u64.wrap a)) := A8V A80 ty5
@[simp] theorem C75 {k : IntKind} (a : Int) (K : Value → WP) : A0 PR (convert 5 316 (.int k a)) K = K (.int .u64 (IntKind.u64.wrap a)) := A8V C3y ty5
theorem C38 : TI PR 137 Tryz.t137.desc 1 8 (.pointer none) := ⟨Tryz.underlying137, Tryz.t137, by kernel_rfl, rfl, rfl, rfl⟩
@[simp] theorem B8y (a : Option Addr) (x y : Operand) (K : Value → WP) (w : World) : A6 PR (J0 .eql 137 x y (.pointer a) (.pointer none)) K w = K (.bool a.isNone) w := B32 C38
@[simp] theorem C0q (a0 b0 : Int) (a1 b1 : Int) (x y : Operand) (K : Value → WP) (w : World) : A6 PR (J0 .eql 164 x y (.agg #[.int .i64 a0, .int .i64 a1]) (.agg #[.int .i64 b0, .int .i64 b1])) K w = K (.bool (decide (a0 = b0) && (decide (a1 = b1) && true))) w := B83 (by kernel_rfl) (A0Q (e := 9999) A4c (by kernel_rfl) (M9 rfl H4 rfl rfl rfl (m5 (e := 9998) H4) (M9 rfl H4 rfl rfl rfl (m5 (e := 9998) H4) (A4u))))
theorem C54 : TI PR 30 Tryz.t30.desc 1 8 (.pointer none) := ⟨Tryz.underlying30, Tryz.t30, by kernel_rfl, rfl, rfl, rfl⟩
@[simp] theorem B9l (a : Option Addr) (x y : Operand) (K : Value → WP) (w : World) : A6 PR (J0 .eql 30 x y (.pointer a) (.pointer none)) K w = K (.bool a.isNone) w := B32 C54
theorem D1n : TI PR 34 Tryz.t34.desc 1 8 (.pointer none) := ⟨Tryz.underlying34, Tryz.t34, by kernel_rfl, rfl, rfl, rfl⟩
@[simp] theorem C0c (a : Option Addr) (x y : Operand) (K : Value → WP) (w : World) : A6 PR (J0 .eql 34 x y (.pointer a) (.pointer none)) K w = K (.bool a.isNone) w := B32 D1n
theorem ty4 : TI PR 4 Tryz.t4.desc 1 1 (.bool false) := ⟨Tryz.underlying4, Tryz.t4, by kernel_rfl, rfl, rfl, rfl⟩
@[simp] theorem C2J (a0 b0 : Bool) (a1 b1 : Bool) (a2 b2 : Bool) (x y : Operand) (K : Value → WP) (w : World) : A6 PR (J0 .eql 49 x y (.agg #[.bool a0, .bool a1, .bool a2]) (.agg #[.bool b0, .bool b1, .bool b2])) K w = K (.bool ((a0 == b0) && ((a1 == b1) && ((a2 == b2) && true)))) w := B83 (by kernel_rfl) (A0Q (e := 9999) B2V (by kernel_rfl) (M9 rfl ty4 rfl rfl rfl (r5 (e := 9998) ty4) (M9 rfl ty4 rfl rfl rfl (r5 (e := 9998) ty4) (M9 rfl ty4 rfl rfl rfl (r5 (e := 9998) ty4) (A4u)))))
@[simp] theorem C1w (a0 b0 : Int) (a1 b1 : Int) (a2 b2 : Bool) (a3 b3 : Int) (x y : Operand) (K : Value → WP) (w : World) : A6 PR (J0 .eql 57 x y (.agg #[.int .i64 a0, .int .i64 a1, .bool a2, .int .i64 a3]) (.agg #[.int .i64 b0, .int .i64 b1, .bool b2, .int .i64 b3])) K w = K (.bool (decide (a0 = b0) && (decide (a1 = b1) && ((a2 == b2) && (decide (a3 = b3) && true))))) w := B83 (by kernel_rfl) (A0Q (e := 9999) B0e (by kernel_rfl) (M9 rfl B7A rfl rfl rfl (m5 (e := 9998) B7A) (M9 rfl H4 rfl rfl rfl (m5 (e := 9998) H4) (M9 rfl ty4 rfl rfl rfl (r5 (e := 9998) ty4) (M9 rfl H4 rfl rfl rfl (m5 (e := 9998) H4) (A4u))))))
@[simp] theorem B88 (a : Option Addr) (x y : Operand) (K : Value → WP) (w : World) : A6 PR (J0 .neq 137 x y (.pointer a) (.pointer none)) K w = K (.bool (!a.isNone)) w := A8M C38
@[simp] theorem C0k (a0 b0 : Int) (a1 b1 : ByteArray) (a2 b2 : Int) (a3 b3 : Int) (x y : Operand) (K : Value → WP) (w : World) : A6 PR (J0 .neq 155 x y (.agg #[.int .i64 a0, .string a1, .int .i64 a2, .int .i64 a3]) (.agg #[.int .i64 b0, .string b1, .int .i64 b2, .int .i64 b3])) K w = K (.bool !(decide (a0 = b0) && ((a1 == b1) && (decide (a2 = b2) && (decide (a3 = b3) && true))))) w := B8M (by kernel_rfl) (A0Q (e := 9999) A1c (by kernel_rfl) (M9 rfl H4 rfl rfl rfl (m5 (e := 9998) H4) (M9 rfl ty9 rfl rfl rfl (B9Y (e := 9998) ty9) (M9 rfl H4 rfl rfl rfl (m5 (e := 9998) H4) (M9 rfl H4 rfl rfl rfl (m5 (e := 9998) H4) (A4u))))))
@[simp] theorem C03 (a : Option Addr) (x y : Operand) (K : Value → WP) (w : World) : A6 PR (J0 .neq 30 x y (.pointer a) (.pointer none)) K w = K (.bool (!a.isNone)) w := A8M C54
@[simp] theorem C2N (a0 b0 : Bool) (a1 b1 : Bool) (a2 b2 : Bool) (x y : Operand) (K : Value → WP) (w : World) : A6 PR (J0 .neq 49 x y (.agg #[.bool a0, .bool a1, .bool a2]) (.agg #[.bool b0, .bool b1, .bool b2])) K w = K (.bool !((a0 == b0) && ((a1 == b1) && ((a2 == b2) && true)))) w := B8M (by kernel_rfl) (A0Q (e := 9999) B2V (by kernel_rfl) (M9 rfl ty4 rfl rfl rfl (r5 (e := 9998) ty4) (M9 rfl ty4 rfl rfl rfl (r5 (e := 9998) ty4) (M9 rfl ty4 rfl rfl rfl (r5 (e := 9998) ty4) (A4u)))))
@[simp] theorem C2W (a0 b0 : Int) (a1 b1 : Int) (a2 b2 : Bool) (a3 b3 : Int) (x y : Operand) (K : Value → WP) (w : World) : A6 PR (J0 .neq 57 x y (.agg #[.int .i64 a0, .int .i64 a1, .bool a2, .int .i64 a3]) (.agg #[.int .i64 b0, .int .i64 b1, .bool b2, .int .i64 b3])) K w = K (.bool !(decide (a0 = b0) && (decide (a1 = b1) && ((a2 == b2) && (decide (a3 = b3) && true))))) w := B8M (by kernel_rfl) (A0Q (e := 9999) B0e (by kernel_rfl) (M9 rfl B7A rfl rfl rfl (m5 (e := 9998) B7A) (M9 rfl H4 rfl rfl rfl (m5 (e := 9998) H4) (M9 rfl ty4 rfl rfl rfl (r5 (e := 9998) ty4) (M9 rfl H4 rfl rfl rfl (m5 (e := 9998) H4) (A4u))))))
theorem C2S : TI PR 69 Tryz.t69.desc 1 8 (.pointer none) := ⟨Tryz.underlying69, Tryz.t69, by kernel_rfl, rfl, rfl, rfl⟩
@[simp] theorem B9k (a : Option Addr) (x y : Operand) (K : Value → WP) (w : World) : A6 PR (J0 .neq 69 x y (.pointer a) (.pointer none)) K w = K (.bool (!a.isNone)) w := A8M C2S
theorem C28 : TI PR 70 Tryz.t70.desc 1 8 (.pointer none) := ⟨Tryz.underlying70, Tryz.t70, by kernel_rfl, rfl, rfl, rfl⟩
@[simp] theorem B9c (a : Option Addr) (x y : Operand) (K : Value → WP) (w : World) : A6 PR (J0 .neq 70 x y (.pointer a) (.pointer none)) K w = K (.bool (!a.isNone)) w := A8M C28
theorem C3j : TI PR 71 Tryz.t71.desc 1 8 (.pointer none) := ⟨Tryz.underlying71, Tryz.t71, by kernel_rfl, rfl, rfl, rfl⟩
@[simp] theorem C0N (a : Option Addr) (x y : Operand) (K : Value → WP) (w : World) : A6 PR (J0 .neq 71 x y (.pointer a) (.pointer none)) K w = K (.bool (!a.isNone)) w := A8M C3j
@[simp] theorem C72 (b o : Nat) (K : Value → WP) : A0 PR (Instr.fieldAt 101 (.pointer (some ⟨b, o, none⟩)) 0) K = K (.pointer (some ⟨b, o, none⟩)) := B5 (i := 0) B3H rfl ⟨_, _, _, _, A9N⟩ b o
@[simp] theorem C8f (b o : Nat) (K : Value → WP) : A0 PR (Instr.fieldAt 101 (.pointer (some ⟨b, o, none⟩)) 1) K = K (.pointer (some ⟨b, o + 6, none⟩)) := B5 (i := 1) B3H rfl ⟨_, _, _, _, H4⟩ b o
@[simp] theorem C7K (b o : Nat) (K : Value → WP) : A0 PR (Instr.fieldAt 101 (.pointer (some ⟨b, o, none⟩)) 2) K = K (.pointer (some ⟨b, o + 7, none⟩)) := B5 (i := 2) B3H rfl ⟨_, _, _, _, H4⟩ b o
@[simp] theorem C8c (b o : Nat) (K : Value → WP) : A0 PR (Instr.fieldAt 101 (.pointer (some ⟨b, o, none⟩)) 3) K = K (.pointer (some ⟨b, o + 8, none⟩)) := B5 (i := 3) B3H rfl ⟨_, _, _, _, A8n⟩ b o
@[simp] theorem C79 (b o : Nat) (K : Value → WP) : A0 PR (Instr.fieldAt 104 (.pointer (some ⟨b, o, none⟩)) 0) K = K (.pointer (some ⟨b, o, none⟩)) := B5 (i := 0) C4V rfl ⟨_, _, _, _, A9N⟩ b o
@[simp] theorem C7q (b o : Nat) (K : Value → WP) : A0 PR (Instr.fieldAt 106 (.pointer (some ⟨b, o, none⟩)) 0) K = K (.pointer (some ⟨b, o, none⟩)) := B5 (i := 0) C35 rfl ⟨_, _, _, _, A9N⟩ b o
@[simp] theorem C83 (b o : Nat) (K : Value → WP) : A0 PR (Instr.fieldAt 110 (.pointer (some ⟨b, o, none⟩)) 0) K = K (.pointer (some ⟨b, o, none⟩)) := B5 (i := 0) A24 rfl ⟨_, _, _, _, A5L⟩ b o
@[simp] theorem C74 (b o : Nat) (K : Value → WP) : A0 PR (Instr.fieldAt 110 (.pointer (some ⟨b, o, none⟩)) 1) K = K (.pointer (some ⟨b, o + 5, none⟩)) := B5 (i := 1) A24 rfl ⟨_, _, _, _, H4⟩ b o
@[simp] theorem C7M (b o : Nat) (K : Value → WP) : A0 PR (Instr.fieldAt 110 (.pointer (some ⟨b, o, none⟩)) 2) K = K (.pointer (some ⟨b, o + 6, none⟩)) := B5 (i := 2) A24 rfl ⟨_, _, _, _, H4⟩ b o
@[simp] theorem C7u (b o : Nat) (K : Value → WP) : A0 PR (Instr.fieldAt 110 (.pointer (some ⟨b, o, none⟩)) 3) K = K (.pointer (some ⟨b, o + 7, none⟩)) := B5 (i := 3) A24 rfl ⟨_, _, _, _, A3l⟩ b o
@[simp] theorem C86 (b o : Nat) (K : Value → WP) : A0 PR (Instr.fieldAt 110 (.pointer (some ⟨b, o, none⟩)) 4) K = K (.pointer (some ⟨b, o + 8, none⟩)) := B5 (i := 4) A24 rfl ⟨_, _, _, _, A3l⟩ b o
@[simp] theorem C9A (b o : Nat) (K : Value → WP) : A0 PR (Instr.fieldAt 110 (.pointer (some ⟨b, o, none⟩)) 5) K = K (.pointer (some ⟨b, o + 9, none⟩)) := B5 (i := 5) A24 rfl ⟨_, _, _, _, B21⟩ b o
@[simp] theorem C78 (b o : Nat) (K : Value → WP) : A0 PR (Instr.fieldAt 110 (.pointer (some ⟨b, o, none⟩)) 6) K = K (.pointer (some ⟨b, o + 10, none⟩)) := B5 (i := 6) A24 rfl ⟨_, _, _, _, B2m⟩ b o
@[simp] theorem C7J (b o : Nat) (K : Value → WP) : A0 PR (Instr.fieldAt 110 (.pointer (some ⟨b, o, none⟩)) 7) K = K (.pointer (some ⟨b, o + 11, none⟩)) := B5 (i := 7) A24 rfl ⟨_, _, _, _, B3z⟩ b o
@[simp] theorem C7j (b o : Nat) (K : Value → WP) : A0 PR (Instr.fieldAt 110 (.pointer (some ⟨b, o, none⟩)) 8) K = K (.pointer (some ⟨b, o + 12, none⟩)) := B5 (i := 8) A24 rfl ⟨_, _, _, _, A3l⟩ b o
@[simp] theorem C7l (b o : Nat) (K : Value → WP) : A0 PR (Instr.fieldAt 110 (.pointer (some ⟨b, o, none⟩)) 9) K = K (.pointer (some ⟨b, o + 13, none⟩)) := B5 (i := 9) A24 rfl ⟨_, _, _, _, H4⟩ b o
theorem C4B : TI PR 143 Tryz.t142.desc 1 8 (.agg #[(.int .i64 0)]) := ⟨Tryz.underlying143, Tryz.t143, by kernel_rfl, rfl, rfl, rfl⟩
theorem ty2 : TI PR 2 Tryz.t2.desc 1 8 (.int .i64 0) := ⟨Tryz.underlying2, Tryz.t2, by kernel_rfl, rfl, rfl, rfl⟩
@[simp] theorem C8S (b o : Nat) (K : Value → WP) : A0 PR (Instr.fieldAt 143 (.pointer (some ⟨b, o, none⟩)) 2) K = K (.pointer (some ⟨b, o, none⟩)) := B5 (i := 2) C4B rfl ⟨_, _, _, _, ty2⟩ b o
theorem C4F : TI PR 145 Tryz.t144.desc 1 8 (.agg #[(.int .i64 0)]) := ⟨Tryz.underlying145, Tryz.t145, by kernel_rfl, rfl, rfl, rfl⟩
@[simp] theorem C7c (b o : Nat) (K : Value → WP) : A0 PR (Instr.fieldAt 145 (.pointer (some ⟨b, o, none⟩)) 0) K = K (.pointer (some ⟨b, o, none⟩)) := B5 (i := 0) C4F rfl ⟨_, _, _, _, C4B⟩ b o
@[simp] theorem C80 (b o : Nat) (K : Value → WP) : A0 PR (Instr.fieldAt 147 (.pointer (some ⟨b, o, none⟩)) 0) K = K (.pointer (some ⟨b, o, none⟩)) := B5 (i := 0) B5b rfl ⟨_, _, _, _, C4F⟩ b o
@[simp] theorem C7L (b o : Nat) (K : Value → WP) : A0 PR (Instr.fieldAt 147 (.pointer (some ⟨b, o, none⟩)) 1) K = K (.pointer (some ⟨b, o + 1, none⟩)) := B5 (i := 1) B5b rfl ⟨_, _, _, _, A3l⟩ b o
@[simp] theorem C7Q (b o : Nat) (K : Value → WP) : A0 PR (Instr.fieldAt 147 (.pointer (some ⟨b, o, none⟩)) 2) K = K (.pointer (some ⟨b, o + 2, none⟩)) := B5 (i := 2) B5b rfl ⟨_, _, _, _, A3l⟩ b o
theorem B8e : TI PR 149 Tryz.t36.desc 1 24 (.slice none 0 0) := ⟨Tryz.underlying149, Tryz.t149, by kernel_rfl, rfl, rfl, rfl⟩
@[simp] theorem C81 (b o : Nat) (K : Value → WP) : A0 PR (Instr.fieldAt 152 (.pointer (some ⟨b, o, none⟩)) 0) K = K (.pointer (some ⟨b, o, none⟩)) := B5 (i := 0) A8y rfl ⟨_, _, _, _, B8e⟩ b o
@[simp] theorem C82 (b o : Nat) (K : Value → WP) : A0 PR (Instr.fieldAt 155 (.pointer (some ⟨b, o, none⟩)) 0) K = K (.pointer (some ⟨b, o, none⟩)) := B5 (i := 0) A1c rfl ⟨_, _, _, _, H4⟩ b o
@[simp] theorem C9E (b o : Nat) (K : Value → WP) : A0 PR (Instr.fieldAt 155 (.pointer (some ⟨b, o, none⟩)) 1) K = K (.pointer (some ⟨b, o + 1, none⟩)) := B5 (i := 1) A1c rfl ⟨_, _, _, _, ty9⟩ b o
@[simp] theorem C8G (b o : Nat) (K : Value → WP) : A0 PR (Instr.fieldAt 155 (.pointer (some ⟨b, o, none⟩)) 2) K = K (.pointer (some ⟨b, o + 2, none⟩)) := B5 (i := 2) A1c rfl ⟨_, _, _, _, H4⟩ b o
@[simp] theorem C7r (b o : Nat) (K : Value → WP) : A0 PR (Instr.fieldAt 155 (.pointer (some ⟨b, o, none⟩)) 3) K = K (.pointer (some ⟨b, o + 3, none⟩)) := B5 (i := 3) A1c rfl ⟨_, _, _, _, H4⟩ b o
theorem B23 : TI PR 160 Tryz.t160.desc 1 24 (.slice none 0 0) := ⟨Tryz.underlying160, Tryz.t160, by kernel_rfl, rfl, rfl, rfl⟩
@[simp] theorem C84 (b o : Nat) (K : Value → WP) : A0 PR (Instr.fieldAt 162 (.pointer (some ⟨b, o, none⟩)) 0) K = K (.pointer (some ⟨b, o, none⟩)) := B5 (i := 0) C4Y rfl ⟨_, _, _, _, B23⟩ b o
@[simp] theorem C8T (b o : Nat) (K : Value → WP) : A0 PR (Instr.fieldAt 164 (.pointer (some ⟨b, o, none⟩)) 0) K = K (.pointer (some ⟨b, o, none⟩)) := B5 (i := 0) A4c rfl ⟨_, _, _, _, H4⟩ b o
@[simp] theorem C7V (b o : Nat) (K : Value → WP) : A0 PR (Instr.fieldAt 164 (.pointer (some ⟨b, o, none⟩)) 1) K = K (.pointer (some ⟨b, o + 1, none⟩)) := B5 (i := 1) A4c rfl ⟨_, _, _, _, H4⟩ b o
theorem B8a : TI PR 165 Tryz.t165.desc 16 128 (.agg #[(.int .i64 0), (.int .i64 0), (.int .i64 0), (.int .i64 0), (.int .i64 0), (.int .i64 0), (.int .i64 0), (.int .i64 0), (.int .i64 0), (.int .i64 0), (.int .i64 0), (.int .i64 0), (.int .i64 0), (.int .i64 0), (.int .i64 0), (.int .i64 0)]) := ⟨Tryz.underlying165, Tryz.t165, by kernel_rfl, rfl, rfl, rfl⟩
@[simp] theorem C8Q (b o : Nat) (K : Value → WP) : A0 PR (Instr.fieldAt 167 (.pointer (some ⟨b, o, none⟩)) 0) K = K (.pointer (some ⟨b, o, none⟩)) := B5 (i := 0) B8q rfl ⟨_, _, _, _, B8a⟩ b o
@[simp] theorem C7a (b o : Nat) (K : Value → WP) : A0 PR (Instr.fieldAt 167 (.pointer (some ⟨b, o, none⟩)) 1) K = K (.pointer (some ⟨b, o + 16, none⟩)) := B5 (i := 1) B8q rfl ⟨_, _, _, _, H4⟩ b o
@[simp] theorem C9C (b o : Nat) (K : Value → WP) : A0 PR (Instr.fieldAt 179 (.pointer (some ⟨b, o, none⟩)) 0) K = K (.pointer (some ⟨b, o, none⟩)) := B5 (i := 0) A6V rfl ⟨_, _, _, _, H4⟩ b o
@[simp] theorem C8g (b o : Nat) (K : Value → WP) : A0 PR (Instr.fieldAt 179 (.pointer (some ⟨b, o, none⟩)) 1) K = K (.pointer (some ⟨b, o + 1, none⟩)) := B5 (i := 1) A6V rfl ⟨_, _, _, _, A9G⟩ b o
@[simp] theorem C7T (b o : Nat) (K : Value → WP) : A0 PR (Instr.fieldAt 186 (.pointer (some ⟨b, o, none⟩)) 0) K = K (.pointer (some ⟨b, o, none⟩)) := B5 (i := 0) A6C rfl ⟨_, _, _, _, H4⟩ b o
@[simp] theorem C8Z (b o : Nat) (K : Value → WP) : A0 PR (Instr.fieldAt 186 (.pointer (some ⟨b, o, none⟩)) 1) K = K (.pointer (some ⟨b, o + 1, none⟩)) := B5 (i := 1) A6C rfl ⟨_, _, _, _, H4⟩ b o
@[simp] theorem C77 (b o : Nat) (K : Value → WP) : A0 PR (Instr.fieldAt 210 (.pointer (some ⟨b, o, none⟩)) 0) K = K (.pointer (some ⟨b, o, none⟩)) := B5 (i := 0) A8m rfl ⟨_, _, _, _, A80⟩ b o
@[simp] theorem C7N (b o : Nat) (K : Value → WP) : A0 PR (Instr.fieldAt 210 (.pointer (some ⟨b, o, none⟩)) 1) K = K (.pointer (some ⟨b, o + 1, none⟩)) := B5 (i := 1) A8m rfl ⟨_, _, _, _, H4⟩ b o
@[simp] theorem C9H (b o : Nat) (K : Value → WP) : A0 PR (Instr.fieldAt 23 (.pointer (some ⟨b, o, none⟩)) 0) K = K (.pointer (some ⟨b, o, none⟩)) := B5 (i := 0) A5L rfl ⟨_, _, _, _, H4⟩ b o
@[simp] theorem D0u (b o : Nat) (K : Value → WP) : A0 PR (Instr.fieldAt 23 (.pointer (some ⟨b, o, none⟩)) 1) K = K (.pointer (some ⟨b, o + 1, none⟩)) := B5 (i := 1) A5L rfl ⟨_, _, _, _, H4⟩ b o
@[simp] theorem D00 (b o : Nat) (K : Value → WP) : A0 PR (Instr.fieldAt 23 (.pointer (some ⟨b, o, none⟩)) 2) K = K (.pointer (some ⟨b, o + 2, none⟩)) := B5 (i := 2) A5L rfl ⟨_, _, _, _, H4⟩ b o
@[simp] theorem C9Z (b o : Nat) (K : Value → WP) : A0 PR (Instr.fieldAt 23 (.pointer (some ⟨b, o, none⟩)) 3) K = K (.pointer (some ⟨b, o + 3, none⟩)) := B5 (i := 3) A5L rfl ⟨_, _, _, _, H4⟩ b o
@[simp] theorem C9W (b o : Nat) (K : Value → WP) : A0 PR (Instr.fieldAt 23 (.pointer (some ⟨b, o, none⟩)) 4) K = K (.pointer (some ⟨b, o + 4, none⟩)) := B5 (i := 4) A5L rfl ⟨_, _, _, _, H4⟩ b o
@[simp] theorem D0b (b o : Nat) (K : Value → WP) : A0 PR (Instr.fieldAt 38 (.pointer (some ⟨b, o, none⟩)) 0) K = K (.pointer (some ⟨b, o, none⟩)) := B5 (i := 0) A6d rfl ⟨_, _, _, _, H4⟩ b o
@[simp] theorem D0A (b o : Nat) (K : Value → WP) : A0 PR (Instr.fieldAt 38 (.pointer (some ⟨b, o, none⟩)) 1) K = K (.pointer (some ⟨b, o + 1, none⟩)) := B5 (i := 1) A6d rfl ⟨_, _, _, _, ty9⟩ b o
@[simp] theorem C9z (b o : Nat) (K : Value → WP) : A0 PR (Instr.fieldAt 38 (.pointer (some ⟨b, o, none⟩)) 2) K = K (.pointer (some ⟨b, o + 2, none⟩)) := B5 (i := 2) A6d rfl ⟨_, _, _, _, A9G⟩ b o
@[simp] theorem C9Y (b o : Nat) (K : Value → WP) : A0 PR (Instr.fieldAt 38 (.pointer (some ⟨b, o, none⟩)) 3) K = K (.pointer (some ⟨b, o + 3, none⟩)) := B5 (i := 3) A6d rfl ⟨_, _, _, _, H4⟩ b o
theorem B3l : TI PR 45 Tryz.t44.desc 3 40 (.agg #[(.int .i64 0), (.int .i64 0), (.slice none 0 0)]) := ⟨Tryz.underlying45, Tryz.t45, by kernel_rfl, rfl, rfl, rfl⟩
@[simp] theorem D0V (b o : Nat) (K : Value → WP) : A0 PR (Instr.fieldAt 45 (.pointer (some ⟨b, o, none⟩)) 0) K = K (.pointer (some ⟨b, o, none⟩)) := B5 (i := 0) B3l rfl ⟨_, _, _, _, H4⟩ b o
@[simp] theorem D0y (b o : Nat) (K : Value → WP) : A0 PR (Instr.fieldAt 45 (.pointer (some ⟨b, o, none⟩)) 1) K = K (.pointer (some ⟨b, o + 1, none⟩)) := B5 (i := 1) B3l rfl ⟨_, _, _, _, H4⟩ b o
@[simp] theorem D0c (b o : Nat) (K : Value → WP) : A0 PR (Instr.fieldAt 45 (.pointer (some ⟨b, o, none⟩)) 2) K = K (.pointer (some ⟨b, o + 2, none⟩)) := B5 (i := 2) B3l rfl ⟨_, _, _, _, A9G⟩ b o
@[simp] theorem D0D (b o : Nat) (K : Value → WP) : A0 PR (Instr.fieldAt 57 (.pointer (some ⟨b, o, none⟩)) 3) K = K (.pointer (some ⟨b, o + 3, none⟩)) := B5 (i := 3) B0e rfl ⟨_, _, _, _, H4⟩ b o
@[simp] theorem D06 (b o : Nat) (K : Value → WP) : A0 PR (Instr.fieldAt 59 (.pointer (some ⟨b, o, none⟩)) 0) K = K (.pointer (some ⟨b, o, none⟩)) := B5 (i := 0) A69 rfl ⟨_, _, _, _, H4⟩ b o
@[simp] theorem D0B (b o : Nat) (K : Value → WP) : A0 PR (Instr.fieldAt 59 (.pointer (some ⟨b, o, none⟩)) 1) K = K (.pointer (some ⟨b, o + 1, none⟩)) := B5 (i := 1) A69 rfl ⟨_, _, _, _, A6d⟩ b o
@[simp] theorem C9j (b o : Nat) (K : Value → WP) : A0 PR (Instr.fieldAt 59 (.pointer (some ⟨b, o, none⟩)) 2) K = K (.pointer (some ⟨b, o + 5, none⟩)) := B5 (i := 2) A69 rfl ⟨_, _, _, _, H4⟩ b o
@[simp] theorem D02 (b o : Nat) (K : Value → WP) : A0 PR (Instr.fieldAt 59 (.pointer (some ⟨b, o, none⟩)) 3) K = K (.pointer (some ⟨b, o + 6, none⟩)) := B5 (i := 3) A69 rfl ⟨_, _, _, _, A3l⟩ b o
@[simp] theorem C9S (b o : Nat) (K : Value → WP) : A0 PR (Instr.fieldAt 59 (.pointer (some ⟨b, o, none⟩)) 4) K = K (.pointer (some ⟨b, o + 7, none⟩)) := B5 (i := 4) A69 rfl ⟨_, _, _, _, H4⟩ b o
@[simp] theorem D08 (b o : Nat) (K : Value → WP) : A0 PR (Instr.fieldAt 59 (.pointer (some ⟨b, o, none⟩)) 5) K = K (.pointer (some ⟨b, o + 8, none⟩)) := B5 (i := 5) A69 rfl ⟨_, _, _, _, H4⟩ b o
@[simp] theorem C9x (b o : Nat) (K : Value → WP) : A0 PR (Instr.fieldAt 59 (.pointer (some ⟨b, o, none⟩)) 6) K = K (.pointer (some ⟨b, o + 9, none⟩)) := B5 (i := 6) A69 rfl ⟨_, _, _, _, A8n⟩ b o
@[simp] theorem C99 (b o : Nat) (K : Value → WP) : A0 PR (Instr.fieldAt 59 (.pointer (some ⟨b, o, none⟩)) 7) K = K (.pointer (some ⟨b, o + 10, none⟩)) := B5 (i := 7) A69 rfl ⟨_, _, _, _, H4⟩ b o
@[simp] theorem D0g (b o : Nat) (K : Value → WP) : A0 PR (Instr.fieldAt 59 (.pointer (some ⟨b, o, none⟩)) 8) K = K (.pointer (some ⟨b, o + 11, none⟩)) := B5 (i := 8) A69 rfl ⟨_, _, _, _, B0e⟩ b o
@[simp] theorem C9m (b o : Nat) (K : Value → WP) : A0 PR (Instr.fieldAt 74 (.pointer (some ⟨b, o, none⟩)) 0) K = K (.pointer (some ⟨b, o, none⟩)) := B5 (i := 0) B0d rfl ⟨_, _, _, _, A5L⟩ b o
@[simp] theorem C9r (b o : Nat) (K : Value → WP) : A0 PR (Instr.fieldAt 74 (.pointer (some ⟨b, o, none⟩)) 1) K = K (.pointer (some ⟨b, o + 5, none⟩)) := B5 (i := 1) B0d rfl ⟨_, _, _, _, C2S⟩ b o
@[simp] theorem C9d (b o : Nat) (K : Value → WP) : A0 PR (Instr.fieldAt 74 (.pointer (some ⟨b, o, none⟩)) 2) K = K (.pointer (some ⟨b, o + 6, none⟩)) := B5 (i := 2) B0d rfl ⟨_, _, _, _, C28⟩ b o
@[simp] theorem C93 (b o : Nat) (K : Value → WP) : A0 PR (Instr.fieldAt 74 (.pointer (some ⟨b, o, none⟩)) 3) K = K (.pointer (some ⟨b, o + 7, none⟩)) := B5 (i := 3) B0d rfl ⟨_, _, _, _, C3j⟩ b o
@[simp] theorem D01 (b o : Nat) (K : Value → WP) : A0 PR (Instr.fieldAt 74 (.pointer (some ⟨b, o, none⟩)) 4) K = K (.pointer (some ⟨b, o + 8, none⟩)) := B5 (i := 4) B0d rfl ⟨_, _, _, _, B3z⟩ b o
@[simp] theorem C9s (b o : Nat) (K : Value → WP) : A0 PR (Instr.fieldAt 74 (.pointer (some ⟨b, o, none⟩)) 5) K = K (.pointer (some ⟨b, o + 9, none⟩)) := B5 (i := 5) B0d rfl ⟨_, _, _, _, A3l⟩ b o
@[simp] theorem D04 (b o : Nat) (K : Value → WP) : A0 PR (Instr.fieldAt 74 (.pointer (some ⟨b, o, none⟩)) 6) K = K (.pointer (some ⟨b, o + 10, none⟩)) := B5 (i := 6) B0d rfl ⟨_, _, _, _, H4⟩ b o
@[simp] theorem C9u (b o : Nat) (K : Value → WP) : A0 PR (Instr.fieldAt 83 (.pointer (some ⟨b, o, none⟩)) 0) K = K (.pointer (some ⟨b, o, none⟩)) := B5 (i := 0) B2S rfl ⟨_, _, _, _, H4⟩ b o
@[simp] theorem C98 (b o : Nat) (K : Value → WP) : A0 PR (Instr.fieldAt 83 (.pointer (some ⟨b, o, none⟩)) 1) K = K (.pointer (some ⟨b, o + 1, none⟩)) := B5 (i := 1) B2S rfl ⟨_, _, _, _, H4⟩ b o
@[simp] theorem C96 (b o : Nat) (K : Value → WP) : A0 PR (Instr.fieldAt 91 (.pointer (some ⟨b, o, none⟩)) 0) K = K (.pointer (some ⟨b, o, none⟩)) := B5 (i := 0) A9N rfl ⟨_, _, _, _, H4⟩ b o
@[simp] theorem C9N (b o : Nat) (K : Value → WP) : A0 PR (Instr.fieldAt 91 (.pointer (some ⟨b, o, none⟩)) 1) K = K (.pointer (some ⟨b, o + 1, none⟩)) := B5 (i := 1) A9N rfl ⟨_, _, _, _, H4⟩ b o
@[simp] theorem D1A (b o : Nat) (K : Value → WP) : A0 PR (Instr.fieldAt 91 (.pointer (some ⟨b, o, none⟩)) 2) K = K (.pointer (some ⟨b, o + 2, none⟩)) := B5 (i := 2) A9N rfl ⟨_, _, _, _, B0e⟩ b o
@[simp] theorem D0Y (b o : Nat) (K : Value → WP) : A0 PR (Instr.fieldAt 94 (.pointer (some ⟨b, o, none⟩)) 0) K = K (.pointer (some ⟨b, o, none⟩)) := B5 (i := 0) B3v rfl ⟨_, _, _, _, A9N⟩ b o
@[simp] theorem D0N (b o : Nat) (K : Value → WP) : A0 PR (Instr.fieldAt 94 (.pointer (some ⟨b, o, none⟩)) 1) K = K (.pointer (some ⟨b, o + 6, none⟩)) := B5 (i := 1) B3v rfl ⟨_, _, _, _, A9G⟩ b o
@[simp] theorem D05 (b o : Nat) (K : Value → WP) : A0 PR (Instr.fieldAt 94 (.pointer (some ⟨b, o, none⟩)) 2) K = K (.pointer (some ⟨b, o + 7, none⟩)) := B5 (i := 2) B3v rfl ⟨_, _, _, _, A3l⟩ b o
@[simp] theorem C9y (b o : Nat) (K : Value → WP) : A0 PR (Instr.fieldAt 94 (.pointer (some ⟨b, o, none⟩)) 3) K = K (.pointer (some ⟨b, o + 8, none⟩)) := B5 (i := 3) B3v rfl ⟨_, _, _, _, H4⟩ b o
@[simp] theorem C9f (b o : Nat) (K : Value → WP) : A0 PR (Instr.fieldAt 94 (.pointer (some ⟨b, o, none⟩)) 4) K = K (.pointer (some ⟨b, o + 9, none⟩)) := B5 (i := 4) B3v rfl ⟨_, _, _, _, H4⟩ b o
theorem C5s : TI PR 96 Tryz.t95.desc 1 16 .nilIface := ⟨Tryz.underlying96, Tryz.t96, by kernel_rfl, rfl, rfl, rfl⟩
@[simp] theorem D0q (b o : Nat) (K : Value → WP) : A0 PR (Instr.fieldAt 98 (.pointer (some ⟨b, o, none⟩)) 0) K = K (.pointer (some ⟨b, o, none⟩)) := B5 (i := 0) C6m rfl ⟨_, _, _, _, C5s⟩ b o
theorem C1M {k1 : IntKind} {i : Int} {s : ByteArray} {b : UInt8} (h0 : 0 ≤ i) (h1 : s[i.toNat]? = some b) (K : Value → WP) : A0 PR (Instr.index 9 (.string s) (.int k1 i)) K = K (.int .u8 b.toNat) := C3l ty9 h0 h1
@[simp] theorem D2J {k : IntKind} {i : Int} {len cap : Nat} (h0 : 0 ≤ i) (h1 : i < len) (b o : Nat) (K : Value → WP) : A0 PR (Instr.indexAt 107 (.slice (some ⟨b, o, none⟩) len cap) (.int k i)) K = K (.pointer (some ⟨b, o + i.toNat * 2, none⟩)) := (S8 (K := K) B21 A6V h0 h1 b o)
@[simp] theorem D13 {k : IntKind} {i : Int} {len cap : Nat} (h0 : 0 ≤ i) (h1 : i < len) (b o : Nat) (K : Value → WP) : A0 PR (Instr.indexAt 108 (.slice (some ⟨b, o, none⟩) len cap) (.int k i)) K = K (.pointer (some ⟨b, o + i.toNat * 2, none⟩)) := (S8 (K := K) B2m A6C h0 h1 b o)
@[simp] theorem D16 {k : IntKind} {i : Int} {len cap : Nat} (h0 : 0 ≤ i) (h1 : i < len) (b o : Nat) (K : Value → WP) : A0 PR (Instr.indexAt 159 (.slice (some ⟨b, o, none⟩) len cap) (.int k i)) K = K (.pointer (some ⟨b, o + i.toNat, none⟩)) := (by simpa using S8 (K := K) B9D C2f h0 h1 b o)
theorem B8l : TI PR 174 Tryz.t173.desc 1 16 .nilIface := ⟨Tryz.underlying174, Tryz.t174, by kernel_rfl, rfl, rfl, rfl⟩
@[simp] theorem D1x {k : IntKind} {i : Int} {len cap : Nat} (h0 : 0 ≤ i) (h1 : i < len) (b o : Nat) (K : Value → WP) : A0 PR (Instr.indexAt 160 (.slice (some ⟨b, o, none⟩) len cap) (.int k i)) K = K (.pointer (some ⟨b, o + i.toNat, none⟩)) := (by simpa using S8 (K := K) B23 B8l h0 h1 b o)
@[simp] theorem D2C {k : IntKind} {i : Int} (h0 : 0 ≤ i) (h1 : i < (8 : Nat)) (b o : Nat) (K : Value → WP) : A0 PR (Instr.indexAt 165 (.pointer (some ⟨b, o, none⟩)) (.int k i)) K = K (.pointer (some ⟨b, o + i.toNat * 2, none⟩)) := (B2l (K := K) B8a A4c h0 h1 b o)
@[simp] theorem D2E {k : IntKind} {i : Int} (h0 : 0 ≤ i) (h1 : i < (2 : Nat)) (b o : Nat) (K : Value → WP) : A0 PR (Instr.indexAt 205 (.pointer (some ⟨b, o, none⟩)) (.int k i)) K = K (.pointer (some ⟨b, o + i.toNat, none⟩)) := (by simpa using B2l (K := K) B20 H4 h0 h1 b o)
@[simp] theorem D1e {k : IntKind} {i : Int} {len cap : Nat} (h0 : 0 ≤ i) (h1 : i < len) (b o : Nat) (K : Value → WP) : A0 PR (Instr.indexAt 206 (.slice (some ⟨b, o, none⟩) len cap) (.int k i)) K = K (.pointer (some ⟨b, o + i.toNat * 2, none⟩)) := (S8 (K := K) B5T A8m h0 h1 b o)
@[simp] theorem D1H {k : IntKind} {i : Int} {len cap : Nat} (h0 : 0 ≤ i) (h1 : i < len) (b o : Nat) (K : Value → WP) : A0 PR (Instr.indexAt 234 (.slice (some ⟨b, o, none⟩) len cap) (.int k i)) K = K (.pointer (some ⟨b, o + i.toNat, none⟩)) := (by simpa using S8 (K := K) B5S ty5 h0 h1 b o)
theorem C5k : TI PR 24 Tryz.t24.desc 1 24 (.slice none 0 0) := ⟨Tryz.underlying24, Tryz.t24, by kernel_rfl, rfl, rfl, rfl⟩
@[simp] theorem D2W {k : IntKind} {i : Int} {len cap : Nat} (h0 : 0 ≤ i) (h1 : i < len) (b o : Nat) (K : Value → WP) : A0 PR (Instr.indexAt 24 (.slice (some ⟨b, o, none⟩) len cap) (.int k i)) K = K (.pointer (some ⟨b, o + i.toNat * 4, none⟩)) := (S8 (K := K) C5k A6d h0 h1 b o)
theorem C6z : TI PR 25 Tryz.t25.desc 1 24 (.slice none 0 0) := ⟨Tryz.underlying25, Tryz.t25, by kernel_rfl, rfl, rfl, rfl⟩
@[simp] theorem D2d {k : IntKind} {i : Int} {len cap : Nat} (h0 : 0 ≤ i) (h1 : i < len) (b o : Nat) (K : Value → WP) : A0 PR (Instr.indexAt 25 (.slice (some ⟨b, o, none⟩) len cap) (.int k i)) K = K (.pointer (some ⟨b, o + i.toNat * 3, none⟩)) := (S8 (K := K) C6z B3l h0 h1 b o)
@[simp] theorem D2F {k : IntKind} {i : Int} {len cap : Nat} (h0 : 0 ≤ i) (h1 : i < len) (b o : Nat) (K : Value → WP) : A0 PR (Instr.indexAt 252 (.slice (some ⟨b, o, none⟩) len cap) (.int k i)) K = K (.pointer (some ⟨b, o + i.toNat * 2, none⟩)) := (S8 (K := K) B8J B20 h0 h1 b o)
@[simp] theorem D1N {k : IntKind} {i : Int} {len cap : Nat} (h0 : 0 ≤ i) (h1 : i < len) (b o : Nat) (K : Value → WP) : A0 PR (Instr.indexAt 289 (.slice (some ⟨b, o, none⟩) len cap) (.int k i)) K = K (.pointer (some ⟨b, o + i.toNat * 4, none⟩)) := (S8 (K := K) B9K A1c h0 h1 b o)
@[simp] theorem D2Y {k : IntKind} {i : Int} {len cap : Nat} (h0 : 0 ≤ i) (h1 : i < len) (b o : Nat) (K : Value → WP) : A0 PR (Instr.indexAt 36 (.slice (some ⟨b, o, none⟩) len cap) (.int k i)) K = K (.pointer (some ⟨b, o + i.toNat * 2, none⟩)) := (S8 (K := K) A9G B2S h0 h1 b o)
@[simp] theorem D2Z {k : IntKind} {i : Int} {len cap : Nat} (h0 : 0 ≤ i) (h1 : i < len) (b o : Nat) (K : Value → WP) : A0 PR (Instr.indexAt 54 (.slice (some ⟨b, o, none⟩) len cap) (.int k i)) K = K (.pointer (some ⟨b, o + i.toNat, none⟩)) := (by simpa using S8 (K := K) A3l H4 h0 h1 b o)
@[simp] theorem C5Z {k : IntKind} {i : Int} {len cap : Nat} (h0 : 0 ≤ i) (h1 : i < len) (b o : Nat) (K : Value → WP) : A0 PR (Instr.indexAt 55 (.slice (some ⟨b, o, none⟩) len cap) (.int k i)) K = K (.pointer (some ⟨b, o + i.toNat * 4, none⟩)) := (S8 (K := K) A8n A1c h0 h1 b o)
@[simp] theorem D2g {k : IntKind} {i : Int} {len cap : Nat} (h0 : 0 ≤ i) (h1 : i < len) (b o : Nat) (K : Value → WP) : A0 PR (Instr.indexAt 72 (.slice (some ⟨b, o, none⟩) len cap) (.int k i)) K = K (.pointer (some ⟨b, o + i.toNat, none⟩)) := (by simpa using S8 (K := K) B3z A8n h0 h1 b o)
@[simp] theorem D0G (a : Option Addr) (n c : Nat) (K : Value → WP) : A0 PR (A8 .len #[107] 0 [.slice a n c]) K = K (.int .i64 n) := r7 B21 a n c
@[simp] theorem C9v (a : Option Addr) (n c : Nat) (K : Value → WP) : A0 PR (A8 .len #[108] 0 [.slice a n c]) K = K (.int .i64 n) := r7 B2m a n c
@[simp] theorem D0s (a : Option Addr) (n c : Nat) (K : Value → WP) : A0 PR (A8 .len #[149] 0 [.slice a n c]) K = K (.int .i64 n) := r7 B8e a n c
@[simp] theorem D0U (a : Option Addr) (n c : Nat) (K : Value → WP) : A0 PR (A8 .len #[159] 0 [.slice a n c]) K = K (.int .i64 n) := r7 B9D a n c
@[simp] theorem C91 (a : Option Addr) (n c : Nat) (K : Value → WP) : A0 PR (A8 .len #[160] 0 [.slice a n c]) K = K (.int .i64 n) := r7 B23 a n c
@[simp] theorem D0e (a : Option Addr) (n c : Nat) (K : Value → WP) : A0 PR (A8 .len #[206] 0 [.slice a n c]) K = K (.int .i64 n) := r7 B5T a n c
@[simp] theorem D1u (a : Option Addr) (n c : Nat) (K : Value → WP) : A0 PR (A8 .len #[24] 0 [.slice a n c]) K = K (.int .i64 n) := r7 C5k a n c
@[simp] theorem D1P (a : Option Addr) (n c : Nat) (K : Value → WP) : A0 PR (A8 .len #[25] 0 [.slice a n c]) K = K (.int .i64 n) := r7 C6z a n c
@[simp] theorem D1B (a : Option Addr) (n c : Nat) (K : Value → WP) : A0 PR (A8 .len #[252] 0 [.slice a n c]) K = K (.int .i64 n) := r7 B8J a n c
@[simp] theorem D0E (a : Option Addr) (n c : Nat) (K : Value → WP) : A0 PR (A8 .len #[289] 0 [.slice a n c]) K = K (.int .i64 n) := r7 B9K a n c
@[simp] theorem D2N (a : Option Addr) (n c : Nat) (K : Value → WP) : A0 PR (A8 .len #[36] 0 [.slice a n c]) K = K (.int .i64 n) := r7 A9G a n c
theorem C8n : TI PR 371 Tryz.t371.desc 1 24 (.slice none 0 0) := ⟨Tryz.underlying371, Tryz.t371, by kernel_rfl, rfl, rfl, rfl⟩
@[simp] theorem D0r (a : Option Addr) (n c : Nat) (K : Value → WP) : A0 PR (A8 .len #[371] 0 [.slice a n c]) K = K (.int .i64 n) := r7 C8n a n c
@[simp] theorem D1T (a : Option Addr) (n c : Nat) (K : Value → WP) : A0 PR (A8 .len #[54] 0 [.slice a n c]) K = K (.int .i64 n) := r7 A3l a n c
@[simp] theorem D2M (a : Option Addr) (n c : Nat) (K : Value → WP) : A0 PR (A8 .len #[55] 0 [.slice a n c]) K = K (.int .i64 n) := r7 A8n a n c
@[simp] theorem D1M (a : Option Addr) (n c : Nat) (K : Value → WP) : A0 PR (A8 .len #[72] 0 [.slice a n c]) K = K (.int .i64 n) := r7 B3z a n c
@[simp] theorem D2T (s : ByteArray) (K : Value → WP) : A0 PR (A8 .len #[9] 0 [.string s]) K = K (.int .i64 s.size) := C52 ty9 s
@[simp] theorem D1b (b o : Nat) (K : Value → WP) (w : World) : A6 PR (Instr.loadAt 155 (.pointer (some ⟨b, o, none⟩))) K w = rdl (f9 w b o 4) K (far PR 155 ⟨b, o, none⟩ K) w := B5a A1c rfl b o
@[simp] theorem D1f (a : Addr) (K : Value → WP) (w : World) : A6 PR (Instr.loadAt 208 (.pointer (some a))) K w = rdc (w.cell? a) K (far PR 208 a K) w := B59 A80 rfl a
@[simp] theorem D20 (a : Addr) (K : Value → WP) (w : World) : A6 PR (Instr.loadAt 3 (.pointer (some a))) K w = rdc (w.cell? a) K (far PR 3 a K) w := B59 H4 rfl a
theorem C8r : TI PR 102 Tryz.t102.desc 1 8 (.pointer none) := ⟨Tryz.underlying102, Tryz.t102, by kernel_rfl, rfl, rfl, rfl⟩
@[simp] theorem D1l (v : Value) (K : Value → WP) : A0 PR (Instr.makeInterface 102 v) K = K (.iface 102 v) := A15 C8r (by intro ms h; cases h) v
theorem C7W : TI PR 105 Tryz.t105.desc 1 8 (.pointer none) := ⟨Tryz.underlying105, Tryz.t105, by kernel_rfl, rfl, rfl, rfl⟩
@[simp] theorem D2B (v : Value) (K : Value → WP) : A0 PR (Instr.makeInterface 105 v) K = K (.iface 105 v) := A15 C7W (by intro ms h; cases h) v
@[simp] theorem D1a (v : Value) (K : Value → WP) : A0 PR (Instr.makeInterface 152 v) K = K (.iface 152 v) := A15 A8y (by intro ms h; cases h) v
@[simp] theorem D1E (v : Value) (K : Value → WP) : A0 PR (Instr.makeInterface 170 v) K = K (.iface 170 v) := A15 B1K (by intro ms h; cases h) v
theorem D1d : TI PR 92 Tryz.t92.desc 1 8 (.pointer none) := ⟨Tryz.underlying92, Tryz.t92, by kernel_rfl, rfl, rfl, rfl⟩
@[simp] theorem D2S (v : Value) (K : Value → WP) : A0 PR (Instr.makeInterface 92 v) K = K (.iface 92 v) := A15 D1d (by intro ms h; cases h) v
theorem D1p : TI PR 99 Tryz.t99.desc 1 8 (.pointer none) := ⟨Tryz.underlying99, Tryz.t99, by kernel_rfl, rfl, rfl, rfl⟩
@[simp] theorem D2f (v : Value) (K : Value → WP) : A0 PR (Instr.makeInterface 99 v) K = K (.iface 99 v) := A15 D1p (by intro ms h; cases h) v
@[simp] theorem C7w {k1 : IntKind} {hi : Int} (b o : Nat) (h0 : 0 ≤ hi) (h1 : hi ≤ (8 : Nat)) (K : Value → WP) : A0 PR (Instr.sliceAt 165 (.pointer (some ⟨b, o, none⟩)) none (some (.int k1 hi)) none) K = K (.slice (some ⟨b, o, none⟩) hi.toNat 8) := C0H B8a A4c b o h0 h1
theorem C4P : TI PR 203 Tryz.t203.desc 1 8 (.map none) := ⟨Tryz.underlying203, Tryz.t203, by kernel_rfl, rfl, rfl, rfl⟩
end Go.Proofs.YtpnidmkaobfhiaaGreat
namespace Go.Proofs.YtpnidmkaobfhiaaGreat
open Go
@[simp] theorem C0C (a b : ByteArray) : (a == b) = decide (a = b) := by
 obtain ⟨x⟩ := a; obtain ⟨y⟩ := b
 have h : ((⟨x⟩ : ByteArray) == ⟨y⟩) = (x == y) := rfl
 rw [h]
 by_cases e : x = y
 ·subst e; simp
 ·simp [e]
@[simp] theorem C8j (a : Array UInt8) : (ByteArray.mk a).size = a.size := rfl
theorem B5z (ns : List Int) : (A4n ns).data.toList = ns.map fun n => UInt8.ofNat n.toNat := by
 have : ∀ (l : List Int) (r : ByteArray), (l.foldl (fun r n => r.push (UInt8.ofNat n.toNat)) r).data.toList = r.data.toList ++ l.map fun n => UInt8.ofNat n.toNat := by
  intro l
  induction l with
  | nil => intro r; simp
  | cons x l ih => intro r; rw [List.foldl_cons, ih]; simp [ByteArray.push]
 have h := this ns ByteArray.empty
 rw [show ByteArray.empty.data.toList = [] from rfl, List.nil_append] at h
 exact h
@[simp] theorem C5r (ns : List Int) : (A4n ns).size = ns.length := by
 have := congrArg List.length (B5z ns)
 rw [List.length_map] at this
 exact this
class TS (t : TypeId) (z : outParam Value) : Prop where
 ti : ∃ d m, TI PR t d 1 m z ∧ U1 d = false
class TG (t : TypeId) (n : outParam Nat) (z : outParam Value) : Prop where
 ti : ∃ d m, TI PR t d n m z ∧ U1 d = true
class TA (t : TypeId) (n : outParam Nat) (z : outParam Value) : Prop where
 ti : ∃ d m, TI PR t d n m z
class SL (t : TypeId) (e : outParam TypeId) (k by' : outParam Nat) (z : outParam Value) : Prop where
 ti : (∃ n m z', TI PR t (.slice e) n m z') ∧ (∃ d, TI PR e d k by' z) ∧ z.cells.size = k
instance TS.ta {t : TypeId} {z : Value} [h : TS t z] : TA t 1 z := ⟨let ⟨d, m, h, _⟩ := h.ti; ⟨d, m, h⟩⟩
instance TG.ta {t : TypeId} {n : Nat} {z : Value} [h : TG t n z] : TA t n z := ⟨let ⟨d, m, h, _⟩ := h.ti; ⟨d, m, h⟩⟩
def rdq (x : Option (List Value)) (G : List Value → WP) (F : WP) : WP := match x with | some l => G l | none => F
@[simp] theorem D1F (l : List Value) (G : List Value → WP) (F : WP) : rdq (some l) G F = G l := id rfl
@[congr] theorem C9k {x x' : Option (List Value)} {G : List Value → WP} {F : WP} (h : x = x') {q : Nat} (hq : a8 = q) : rdq x G F = rdq x' G F := by rw [h]
@[simp] theorem D1c (xs : List Value) : Y2 xs 0 0 = some [] := by simp [Y2]
@[simp] theorem C8k (x : Value) (xs : List Value) (n : Nat) : Y2 (x :: xs) 0 (n + 1) = (Y2 xs 0 n).map (x :: ·) := by
 simp only [Y2, Nat.zero_add, List.length_cons, List.drop_zero, List.take_succ_cons]
 by_cases h : n ≤ xs.length
 ·rw [if_pos h, if_pos (by omega)]; rfl
 ·rw [if_neg h, if_neg (by omega)]; rfl
@[simp] theorem C7e (x : Value) (xs : List Value) (o n : Nat) : Y2 (x :: xs) (o + 1) n = Y2 xs o n := by
 simp only [Y2, List.length_cons, List.drop_succ_cons]
 by_cases h : o + n ≤ xs.length
 ·rw [if_pos h, if_pos (by omega)]
 ·rw [if_neg h, if_neg (by omega)]
theorem B4x {α : Type} {l : List α} {f : α → List Value} {k i : Nat} {x : α} (hk : ∀ x, (f x).length = k) (hx : l[i]? = some x) : Y2 (l.flatMap f) (i * k) k = some (f x) := by
 obtain ⟨hlt, hx'⟩ := List.getElem?_eq_some_iff.1 hx
 have h1 : (i + 1) * k ≤ l.length * k := Nat.mul_le_mul_right k hlt
 rw [Nat.add_mul] at h1
 rw [Y2, if_pos (by rw [P0 hk]; omega), A6S hk, List.drop_eq_getElem_cons hlt, List.flatMap_cons, hx']
 rw [List.take_left' (hk x)]
inductive Sel (r : Res) : List Res → List Res → Prop where
 | here {H : List Res} : Sel r (r :: H) H
 | there {x : Res} {H H' : List Res} : Sel r H H' → Sel r (x :: H) (x :: H')
theorem Sel.perm {r : Res} {H Hr : List Res} (h : Sel r H Hr) : H.Perm (r :: Hr) := by
 induction h with
 | here => exact .refl _
 | there _ ih => exact (ih.cons _).trans (.swap ..)
theorem Sel.sub {r : Res} {H Hr : List Res} (h : Sel r H Hr) : Hr.Sublist H := by
 induction h with
 | here => exact List.sublist_cons_self ..
 | there _ ih => exact ih.cons_cons _
theorem A1 {r : Res} {H : List Res} : r ∈ r :: H := List.mem_cons_self ..
theorem uH {r r' : Res} {H : List Res} : Up r r' (r :: H) (r' :: H) := Up.here
theorem uT {r r' x : Res} {H H' : List Res} (h : Up r r' H H') : Up r r' (x :: H) (x :: H') := Up.there h
theorem A2 {r x : Res} {H : List Res} (h : r ∈ H) : r ∈ x :: H := List.mem_cons_of_mem _ h
inductive Sels : List Res → List Res → Prop where
 | nil {H : List Res} : Sels [] H
 | cons {r : Res} {rs H Hr : List Res} : Sel r H Hr → Sels rs Hr → Sels (r :: rs) H
theorem Sels.sub {rs H : List Res} (h : Sels rs H) : ∃ H', H.Perm H' ∧ rs.Sublist H' := by
 induction h with
 | nil => exact ⟨_, .refl _, List.nil_sublist _⟩
 | cons h1 _ ih => obtain ⟨H', h2, h3⟩ := ih; exact ⟨_ :: H', h1.perm.trans (h2.cons _), h3.cons_cons _⟩
theorem Sels.lw {κ : Bool} {S : List Nat} {w0 w : World} {rs H : List Res} (h : Sels rs H) (hw : LW κ S w0 H w) : LW κ S w0 rs w := let ⟨_, h1, h2⟩ := h.sub; (hw.perm h1).sub h2
theorem Sels.tw {κ : Bool} {S : List Nat} {w0 : World} {rs H : List Res} {K : WP} (h : Sels rs H) (hk : TW κ S w0 rs K) : TW κ S w0 H K := fun w hw => hk w (h.lw hw)
inductive Part : List Res → List Res → List Res → Prop where
 | nil {H : List Res} : Part [] H H
 | cons {r : Res} {rs H H1 Hk : List Res} : Sel r H H1 → Part rs H1 Hk → Part (r :: rs) H Hk
theorem Part.perm {Hc H Hk : List Res} (h : Part Hc H Hk) : H.Perm (Hc ++ Hk) := by
 induction h with
 | nil => exact .refl _
 | cons h1 _ ih => exact h1.perm.trans (ih.cons _)
theorem C0 {κ : Bool} {X : Nat → Prop} {S : List Nat} {w0 : World} {H Hk Hc : List Res} {K : Value → WP} {f : FuncId} {args : List Value} {α : Type} {φ : α → Value → Prop} {Hn : α → List Res} (he : B2 PR f)
  (hf : ∀ w, LW κ S w0 (Hc ++ Hk) w → LW false (B1 Hc) w Hc w → Fn PR B6 f args.toArray w (Rn (B1 Hc) w φ Hn)) (hp : Part Hc H Hk) (hK : ∀ a v, φ a v → TW κ S w0 (Hn a ++ Hk) (K v)) : TW κ S w0 H (B3 PR X f args K) :=
 C0M he hp.perm (fun w hw => let h := hw.perm hp.perm; hf w h (h.sub (List.sublist_append_left _ _)).self) hK
theorem B0 {κ : Bool} {S : List Nat} {w0 : World} {H : List Res} {α : Type} {φ : α → Value → Prop} {Hn : α → List Res} {v : Value} (a : α) (h : φ a v) (hs : Sels (Hn a) H) : TW κ S w0 H (Rn S w0 φ Hn v) := fun w hw => ⟨a, h, hs.lw hw.low⟩
theorem C7g {κ : Bool} {S : List Nat} {w0 : World} {H : List Res} {F : WP} {A : WP → WP} {α : Type} (φ : α → Prop) (Hh : α → List Res) (hF : ∀ x, φ x → TW κ S w0 (Hh x) F)
  (hA : ∀ J : WP, (∀ x, φ x → TW κ S w0 (Hh x) J) → TW κ S w0 H (A J)) : TW κ S w0 H (kt (n := 0) F A) := hA F hF
theorem C4E {κ : Bool} {S : List Nat} {w0 : World} {H : List Res} {F : Value → WP} {A : (Value → WP) → WP} {α : Type} (φ : α → Prop) (Hh : α → List Res) (v1 : α → Value) (hF : ∀ x, φ x → TW κ S w0 (Hh x) (F (v1 x)))
  (hA : ∀ J : Value → WP, (∀ x, φ x → TW κ S w0 (Hh x) (J (v1 x))) → TW κ S w0 H (A J)) : TW κ S w0 H (kt (n := 1) F A) := hA F hF
theorem D2.form {w : World} {v : Value} {n : Nat} {xs : List Value} (h : D2 w v n xs) : ∃ a c, v = .slice a n c ∧ (0 < n → ∃ b o, a = some ⟨b, o, none⟩ ∧ P9 w b o xs) := by
 rcases h with ⟨rfl, rfl, a, c, rfl⟩ | ⟨b, o, c, rfl, hr⟩
 ·exact ⟨a, c, rfl, fun h => absurd h (by omega)⟩
 ·exact ⟨_, c, rfl, fun _ => ⟨b, o, rfl, hr⟩⟩
theorem P9.at {w : World} {b o k : Nat} {α : Type} {l : List α} {f : α → List Value} (h : P9 w b o (l.flatMap f)) (hk : ∀ x, (f x).length = k) {i : Nat} {x : α} (hx : l[i]? = some x) : f9 w b (o + i * k) k = some (f x) := by
 have h1 : P9 w b (o + i * k) (f x) := fun j hj => by
  rw [hk] at hj
  have h2 := m0 hk l i j hj
  rw [hx] at h2
  have h3 : (l.flatMap f)[i * k + j]? = some ((f x)[j]'(by rw [hk]; exact hj)) := by rw [h2]; simp [List.getElem?_eq_getElem, hk, hj]
  rw [Nat.add_assoc, h.get h3]; simp [List.getElem?_eq_getElem, hk, hj]
 have := A7w h1
 rwa [hk] at this
theorem P9.cellAt {w : World} {b o k : Nat} {α : Type} {l : List α} {f : α → List Value} (h : P9 w b o (l.flatMap f)) (hk : ∀ x, (f x).length = k) {i j : Nat} {x : α} {u : Value} (hx : l[i]? = some x) (hu : (f x)[j]? = some u) : w.cell? ⟨b, o + i * k + j, none⟩ = some u := by
 have hj : j < k := by rw [← hk x]; exact (List.getElem?_eq_some_iff.1 hu).1
 have h2 := m0 hk l i j hj
 rw [hx] at h2
 rw [Nat.add_assoc]
 exact h.get (by rw [h2]; exact hu)
theorem P9.one {w : World} {b o : Nat} {α : Type} {l : List α} {f : α → Value} (h : P9 w b o (l.map f)) {i : Nat} {x : α} (hx : l[i]? = some x) : w.cell? ⟨b, o + i, none⟩ = some (f x) := h.get (by simp [hx])
section
variable {κ : Bool} {X : Nat → Prop} {S : List Nat} {w0 : World} {H H' Hr : List Res} {K : Value → WP} {K0 : WP} {t e : TypeId} {n k by' : Nat} {z : Value}
theorem C8B {s : Sem Value} {v : Value} (h : ∀ w, LW κ S w0 H w → A6 PR s K w = K v w) : TW κ S w0 H (A6 PR s K) = TW κ S w0 H (K v) := TW.congr h
theorem C51 {s : Sem Value} {v : Value} (hK : TW κ S w0 H (K v)) (h : ∀ w, LW κ S w0 H w → A6 PR s K w = K v w) : TW κ S w0 H (A6 PR s K) := fun w hw => by rw [h w hw]; exact hK w hw
theorem C62 {r : Res} (hs : Sel r H Hr) (h : TW κ S w0 Hr K0) : TW κ S w0 H K0 := h.sub hs.sub
theorem P8 {v : Value} {q : Nat} {xs : List Value} (hm : Res.own e k v q xs ∈ H) (hq : 0 < q) (h : ∀ g c, v = .slice (some ⟨g, 0, none⟩) q c → TW κ S w0 H K0) : TW κ S w0 H K0 := fun w hw => by
 rcases (hw.hold _ hm).2 with ⟨_, rfl⟩ | ⟨g, c, _, rfl, _⟩
 ·omega
 ·exact h g c rfl w hw
@[simp] theorem D2e [h : TS t z] {b o : Nat} {c : Array Value} {T : TypeId} {f : Nat × Nat} (hm : Res.pt b (.cells c T f) ∈ H) :
  TW κ S w0 H (A6 PR (Instr.loadAt t (.pointer (some ⟨b, o, none⟩))) K) = TW κ S w0 H (rdc c[o]? K (far PR t ⟨b, o, none⟩ K)) := let ⟨_, _, h, hd⟩ := h.ti; C5T h hd hm
@[simp] theorem D1j [h : TS t z] {g o : Nat} {k q c : Nat} {xs : List Value} (hm : Res.own e k (.slice (some ⟨g, 0, none⟩) q c) q xs ∈ H) :
  TW κ S w0 H (A6 PR (Instr.loadAt t (.pointer (some ⟨g, o, none⟩))) K) = TW κ S w0 H (rdc xs[o]? K (A6 PR (Instr.loadAt t (.pointer (some ⟨g, o, none⟩))) K)) := by
 cases hv : xs[o]? with
 | none => rfl
 | some v => exact let ⟨_, _, h, hd⟩ := h.ti; C3J h hd hm hv
@[simp] theorem D19 [h : TS t z] {b o : Nat} {v : Value} (hc : w0.cell? ⟨b, o, none⟩ = some v) (hS : b ∉ S) :
  TW κ S w0 H (A6 PR (Instr.loadAt t (.pointer (some ⟨b, o, none⟩))) K) = TW κ S w0 H (K v) := let ⟨_, _, h, hd⟩ := h.ti; C1x h hd hc hS
@[simp] theorem D17 [h : TG t n z] {b o : Nat} {c : Array Value} {T : TypeId} {f : Nat × Nat} (hm : Res.pt b (.cells c T f) ∈ H) :
  TW κ S w0 H (A6 PR (Instr.loadAt t (.pointer (some ⟨b, o, none⟩))) K) = TW κ S w0 H (rdq (Y2 c.toList o n) (fun l => K (.agg l.toArray)) (A6 PR (Instr.loadAt t (.pointer (some ⟨b, o, none⟩))) K)) := by
 cases hl : Y2 c.toList o n with
 | none => rfl
 | some l => exact let ⟨_, _, h, hd⟩ := h.ti; C2H h hd hm hl
@[simp] theorem D0L [h : TG t n z] {g o : Nat} {k q c : Nat} {xs : List Value} (hm : Res.own e k (.slice (some ⟨g, 0, none⟩) q c) q xs ∈ H) :
  TW κ S w0 H (A6 PR (Instr.loadAt t (.pointer (some ⟨g, o, none⟩))) K) = TW κ S w0 H (rdq (Y2 xs o n) (fun l => K (.agg l.toArray)) (A6 PR (Instr.loadAt t (.pointer (some ⟨g, o, none⟩))) K)) := by
 cases hl : Y2 xs o n with
 | none => rfl
 | some l => exact let ⟨_, _, h, hd⟩ := h.ti; C1K h hd hm hl
@[simp] theorem C9J [h : TG t n z] {b o : Nat} {l : List Value} (hc : f9 w0 b o n = some l) (hS : b ∉ S) :
  TW κ S w0 H (A6 PR (Instr.loadAt t (.pointer (some ⟨b, o, none⟩))) K) = TW κ S w0 H (K (.agg l.toArray)) := let ⟨_, _, h, hd⟩ := h.ti; C0U h hd hc hS
@[simp] theorem C6q [h : TS t z] {b o : Nat} {c : Array Value} {T : TypeId} {f : Nat × Nat} (hm : Res.pt b (.cells c T f) ∈ H) {v : Value} (hv : c[o]? = some v) :
  TW κ S w0 H (A6 PR (F1 [.c t (.pointer (some ⟨b, o, none⟩))]) K) = TW κ S w0 H (K v) := let ⟨_, _, h, hd⟩ := h.ti; C6D h hd hm hv
@[simp] theorem D22 [h : TG t n z] {b o : Nat} {c : Array Value} {T : TypeId} {f : Nat × Nat} (hm : Res.pt b (.cells c T f) ∈ H) :
  TW κ S w0 H (A6 PR (F1 [.c t (.pointer (some ⟨b, o, none⟩))]) K) = TW κ S w0 H (rdq (Y2 c.toList o n) (fun l => K (.agg l.toArray)) (A6 PR (F1 [.c t (.pointer (some ⟨b, o, none⟩))]) K)) := by
 cases hl : Y2 c.toList o n with
 | none => rfl
 | some l => exact let ⟨_, _, h, hd⟩ := h.ti; C5w h hd hm hl
@[simp] theorem C8J [h : TS t z] {b o : Nat} {c : Array Value} {T : TypeId} {f : Nat × Nat} {v : Value} {l : List Rd} (hm : Res.pt b (.cells c T f) ∈ H) (hv : c[o]? = some v) :
  TW κ S w0 H (watch PR ((none, Instr.loadAt t (.pointer (some ⟨b, o, none⟩)), v) :: l) K0) = TW κ S w0 H (watch PR l K0) := let ⟨_, _, h, hd⟩ := h.ti; A7p fun w hw => A0G h hd (by rw [D7 (hw.pt hm)]; exact hv)
@[simp] theorem C7B [h : TS t z] {g o : Nat} {k q c : Nat} {xs : List Value} {v : Value} {l : List Rd} (hm : Res.own e k (.slice (some ⟨g, 0, none⟩) q c) q xs ∈ H) (hv : xs[o]? = some v) :
  TW κ S w0 H (watch PR ((none, Instr.loadAt t (.pointer (some ⟨g, o, none⟩)), v) :: l) K0) = TW κ S w0 H (watch PR l K0) := let ⟨_, _, h, hd⟩ := h.ti; A7p fun w hw => A0G h hd (by have := (hw.ownr hm).get hv; rwa [Nat.zero_add] at this)
@[simp] theorem C63 [h : TS t z] {b o : Nat} {v : Value} {l : List Rd} (hc : w0.cell? ⟨b, o, none⟩ = some v) (hS : b ∉ S) :
  TW κ S w0 H (watch PR ((none, Instr.loadAt t (.pointer (some ⟨b, o, none⟩)), v) :: l) K0) = TW κ S w0 H (watch PR l K0) := let ⟨_, _, h, hd⟩ := h.ti; A7p fun w hw => A0G h hd (hw.ks.cell hS hc)
@[simp] theorem D1Y [h : TA t n z] {v : Value} {b o : Nat} {c : Array Value} {T : TypeId} (hv : v.cells.size = n)
  (hu : Up (.pt b (.cells c T (0, 0))) (.pt b (.cells (F4 c o v.cells.toList) T (0, 0))) H H') (hs : o + n ≤ c.size) (hp : v.cells.toList.all plain = true) :
  TW κ S w0 H (C2 PR X (Instr.storeAt t (.pointer (some ⟨b, o, none⟩)) v) K0) = TW κ S w0 H' K0 := let ⟨_, _, h⟩ := h.ti; D1U h hv hu hs hp
theorem N0 [h : TA t n z] {v : Value} {g o q c : Nat} {xs : List Value} (hu : Up (.own e k (.slice (some ⟨g, 0, none⟩) q c) q xs) (.own e k (.slice (some ⟨g, 0, none⟩) q c) q (U7 xs o v.cells.toList)) H H')
  (hv : v.cells.size = n) (hs : o + n ≤ xs.length) (hp : v.cells.toList.all plain = true) (hK : TW κ S w0 H' K0) :
  TW κ S w0 H (C2 PR X (Instr.storeAt t (.pointer (some ⟨g, o, none⟩)) v) K0) := let ⟨_, _, h⟩ := h.ti; C2C h hv hu hs hp hK
theorem A4 [h : TA t n z] (hK : ∀ b, TW κ S w0 (.pt b (.cells z.cells t) :: H) (K (.pointer (some ⟨b, 0, none⟩)))) : TW κ S w0 H (B9 PR X (Instr.alloc t true (.tuple #[])) K) := let ⟨_, _, h⟩ := h.ti; D1r h hK
theorem A0r {k1 k2 : IntKind} {l : Int} [h : SL t e k by' z] (h0 : 0 ≤ l) (hb : l * by' ≤ 140737488355328) (hc : l ≤ 9223372036854775807) (hk : 0 < k)
  (hK : ∀ b, TW κ S w0 (.own e k (.slice (some ⟨b, 0, none⟩) l.toNat l.toNat) l.toNat (Builtin.zeroCells z.cells l.toNat).toList :: H) (K (.slice (some ⟨b, 0, none⟩) l.toNat l.toNat))) :
  TW κ S w0 H (B9 PR X (Instr.makeSlice t (.int k1 l) (.int k2 l)) K) := let ⟨⟨_, _, _, h1⟩, ⟨_, h2⟩, h3⟩ := h.ti; D2P h1 h2 h3 hk h0 rfl hb hc hK
theorem T6 [h : SL t e k by' z] (hK : ∀ b, TW κ S w0 (.own e k (.slice (some ⟨b, 0, none⟩) 0 0) 0 [] :: H) (K (.slice (some ⟨b, 0, none⟩) 0 0))) : TW κ S w0 H (B9 PR X (Instr.buildSlice t 0 #[]) K) :=
 let ⟨⟨_, _, _, h1⟩, ⟨_, h2⟩, h3⟩ := h.ti; C8y h1 h2 hK
theorem C3e {m n q : Nat} (hq : 0 < n) : ∀ (vs : List Value) (i : Nat) (cs : Array Value), (∀ v ∈ vs, v.cells.size = n) → (i + vs.length) * n ≤ cs.size →
  Instr.fill (fun i => some (i * n, n)) cs ((List.range' i vs.length).zip vs) = some (F4 cs (i * n) (vs.flatMap fun v => v.cells.toList)) := by
 intro vs
 induction vs with
 | nil => intro i cs _ _; simp [Instr.fill]
 | cons v vs ih =>
  intro i cs hv hs
  simp only [List.length_cons] at hs
  have hv0 : v.cells.size = n := hv v (by simp)
  have e1 : (i + (vs.length + 1)) * n = i * n + n + vs.length * n := by rw [Nat.add_mul, Nat.add_mul]; omega
  simp only [List.length_cons, List.range'_succ, List.zip_cons_cons]
  rw [C4 rfl hv0 (by omega), ih (i + 1) _ (fun u hu => hv u (by simp [hu])) (by rw [C7]; (have : (i + 1 + vs.length) * n = i * n + n + vs.length * n := by (rw [Nat.add_mul, Nat.add_mul]; omega)); omega)]
  have spl_spl : ∀ (l l' : List Value) (c : Array Value) (o : Nat), F4 (F4 c o l) (o + l.length) l' = F4 c o (l ++ l') := by
   intro l
   induction l with
   | nil => intro l' c o; simp
   | cons u l ih => intro l' c o; simp only [A87, List.cons_append, List.length_cons]; rw [← ih]; congr 1; omega
  rw [List.flatMap_cons, ← spl_spl]
  congr 2
  have : v.cells.toList.length = n := by simp [hv0]
  rw [this, Nat.add_mul]; omega
theorem B6T {len : Nat} {parts : Array (Nat × Value)} (vs : List Value) [h : SL t e k by' z] (hk : 0 < k) (h0 : 0 < len) (hb : len * k ≤ 2 ^ 24) (hp : parts.toList = (List.range' 0 len).zip vs) (hl : vs.length = len) (hv : ∀ v ∈ vs, v.cells.size = k)
  (hK : ∀ b, TW κ S w0 (.own e k (.slice (some ⟨b, 0, none⟩) len len) len (vs.flatMap fun v => v.cells.toList) :: H) (K (.slice (some ⟨b, 0, none⟩) len len))) :
  TW κ S w0 H (B9 PR X (Instr.buildSlice t len parts) K) := by
 obtain ⟨⟨_, _, _, h1⟩, ⟨_, h2⟩, h3⟩ := h.ti
 have hlen : (vs.flatMap fun v => v.cells.toList).length = len * k := by
  rw [← hl]; clear hp hl hK hb h0
  induction vs with
  | nil => simp
  | cons v vs ih =>
   have := hv v (by simp)
   rw [List.flatMap_cons, List.length_append, ih fun u hu => hv u (by simp [hu])]
   simp only [Array.length_toList, List.length_cons, this]; rw [Nat.add_mul]; omega
 have hf := C3e (m := 0) (q := 0) hk vs 0 ((Array.range (len * k)).map (z.cells[· % z.cells.size]!)) hv (by simp [hl])
 rw [hl, ← hp] at hf
 have hz : F4 ((Array.range (len * k)).map (z.cells[· % z.cells.size]!)) (0 * k) (vs.flatMap fun v => v.cells.toList) = (vs.flatMap fun v => v.cells.toList).toArray := by
  apply Array.toList_inj.1
  rw [A4Z _ _ _ (by simp [-List.length_flatMap, hlen])]
  simp only [Nat.zero_mul, List.take_zero, List.nil_append, hlen, Nat.zero_add]
  rw [List.drop_eq_nil_of_le (by simp)]; simp
 refine D1G h1 h2 hb (by have : 0 < len * k := Nat.mul_pos h0 hk; omega) (hf.trans (by rw [hz])) (by simp [-List.length_flatMap, hlen]) ?_
 simpa using hK
theorem T0 {v0 : Value} [h : SL t e k by' z] (hk : 0 < k := by decide) (hb : 1 * k ≤ 2 ^ 24 := by decide) (h0 : v0.cells.size = k := by simp) (hK : ∀ b, TW κ S w0 (.own e k (.slice (some ⟨b, 0, none⟩) 1 1) 1 (v0.cells.toList) :: H) (K (.slice (some ⟨b, 0, none⟩) 1 1))) :
  TW κ S w0 H (B9 PR X (Instr.buildSlice t 1 #[(0, v0)]) K) := B6T [v0] hk (by omega) hb rfl rfl (by intro v hv; simp only [List.mem_cons, List.not_mem_nil, or_false] at hv; subst hv; assumption) (by simpa using hK)
theorem T8 {v0 v1 : Value} [h : SL t e k by' z] (hk : 0 < k := by decide) (hb : 2 * k ≤ 2 ^ 24 := by decide) (h0 : v0.cells.size = k := by simp) (h1 : v1.cells.size = k := by simp) (hK : ∀ b, TW κ S w0 (.own e k (.slice (some ⟨b, 0, none⟩) 2 2) 2 (v0.cells.toList ++ v1.cells.toList) :: H) (K (.slice (some ⟨b, 0, none⟩) 2 2))) :
  TW κ S w0 H (B9 PR X (Instr.buildSlice t 2 #[(0, v0), (1, v1)]) K) := B6T [v0, v1] hk (by omega) hb rfl rfl (by intro v hv; simp only [List.mem_cons, List.not_mem_nil, or_false] at hv; rcases hv with rfl | rfl <;> assumption) (by simpa using hK)
theorem T2 {v0 v1 v2 : Value} [h : SL t e k by' z] (hk : 0 < k := by decide) (hb : 3 * k ≤ 2 ^ 24 := by decide) (h0 : v0.cells.size = k := by simp) (h1 : v1.cells.size = k := by simp) (h2 : v2.cells.size = k := by simp) (hK : ∀ b, TW κ S w0 (.own e k (.slice (some ⟨b, 0, none⟩) 3 3) 3 (v0.cells.toList ++ v1.cells.toList ++ v2.cells.toList) :: H) (K (.slice (some ⟨b, 0, none⟩) 3 3))) :
  TW κ S w0 H (B9 PR X (Instr.buildSlice t 3 #[(0, v0), (1, v1), (2, v2)]) K) := B6T [v0, v1, v2] hk (by omega) hb rfl rfl (by intro v hv; simp only [List.mem_cons, List.not_mem_nil, or_false] at hv; rcases hv with rfl | rfl | rfl <;> assumption) (by simpa using hK)
theorem T3 {v0 v1 v2 v3 v4 : Value} [h : SL t e k by' z] (hk : 0 < k := by decide) (hb : 5 * k ≤ 2 ^ 24 := by decide) (h0 : v0.cells.size = k := by simp) (h1 : v1.cells.size = k := by simp) (h2 : v2.cells.size = k := by simp) (h3 : v3.cells.size = k := by simp) (h4 : v4.cells.size = k := by simp) (hK : ∀ b, TW κ S w0 (.own e k (.slice (some ⟨b, 0, none⟩) 5 5) 5 (v0.cells.toList ++ v1.cells.toList ++ v2.cells.toList ++ v3.cells.toList ++ v4.cells.toList) :: H) (K (.slice (some ⟨b, 0, none⟩) 5 5))) :
  TW κ S w0 H (B9 PR X (Instr.buildSlice t 5 #[(0, v0), (1, v1), (2, v2), (3, v3), (4, v4)]) K) := B6T [v0, v1, v2, v3, v4] hk (by omega) hb rfl rfl (by intro v hv; simp only [List.mem_cons, List.not_mem_nil, or_false] at hv; rcases hv with rfl | rfl | rfl | rfl | rfl <;> assumption) (by simpa using hK)
theorem T7 {v0 v1 v2 v3 v4 v5 : Value} [h : SL t e k by' z] (hk : 0 < k := by decide) (hb : 6 * k ≤ 2 ^ 24 := by decide) (h0 : v0.cells.size = k := by simp) (h1 : v1.cells.size = k := by simp) (h2 : v2.cells.size = k := by simp) (h3 : v3.cells.size = k := by simp) (h4 : v4.cells.size = k := by simp) (h5 : v5.cells.size = k := by simp) (hK : ∀ b, TW κ S w0 (.own e k (.slice (some ⟨b, 0, none⟩) 6 6) 6 (v0.cells.toList ++ v1.cells.toList ++ v2.cells.toList ++ v3.cells.toList ++ v4.cells.toList ++ v5.cells.toList) :: H) (K (.slice (some ⟨b, 0, none⟩) 6 6))) :
  TW κ S w0 H (B9 PR X (Instr.buildSlice t 6 #[(0, v0), (1, v1), (2, v2), (3, v3), (4, v4), (5, v5)]) K) := B6T [v0, v1, v2, v3, v4, v5] hk (by omega) hb rfl rfl (by intro v hv; simp only [List.mem_cons, List.not_mem_nil, or_false] at hv; rcases hv with rfl | rfl | rfl | rfl | rfl | rfl <;> assumption) (by simpa using hK)
theorem U9.form {w : World} {e : TypeId} {k n : Nat} {v : Value} {xs : List Value} (h : U9 w e k v n xs) : ∃ a c, v = .slice a n c := by
 rcases h.2 with ⟨rfl, rfl⟩ | ⟨g, cap, cur, rfl, _⟩
 ·exact ⟨_, _, rfl⟩
 ·exact ⟨_, _, rfl⟩
theorem C6L {q : Nat} {xs : List Value} {A : Value → WP} (h : ∀ a c, TW κ S w0 (.own e k (.slice a q c) q xs :: H) (A (.slice a q c))) (v : Value) : TW κ S w0 (.own e k v q xs :: H) (A v) := fun w hw => by
 obtain ⟨a, c, rfl⟩ := U9.form (hw.hold _ A1)
 exact h a c w hw
theorem W9 {ty : TypeId} {v x : Value} {q r : Nat} {xs news : List Value} [h : SL t e k by' z] (hs : Sel (.own e k v q xs) H Hr) (hx : H3 κ S w0 H x r news) (hk : 0 < k) (hl : news.length = r * k) (hp : news.all plain = true)
  (h63 : q + r ≤ maxLen) (hby : (q + r) * by' ≤ 140737488355328) (hK : ∀ a c, TW κ S w0 (.own e k (.slice a (q + r) c) (q + r) (xs ++ news) :: Hr) (K (.slice a (q + r) c))) : TW κ S w0 H (B9 PR X (A8 .append #[t, t] ty [v, x]) K) := by
 obtain ⟨⟨_, _, _, h1⟩, ⟨_, h2⟩, h3⟩ := h.ti
 refine TW.perm ?_ hs.perm
 exact C8m (H'' := fun v' => .own e k v' (q + r) (xs ++ news) :: Hr) h1 h2 h3 hk (fun v' => .here) (fun w hw => hx w (hw.perm hs.perm.symm)) hl hp h63 hby (C6L hK)
end
end Go.Proofs.YtpnidmkaobfhiaaGreat
namespace Go.Proofs.YtpnidmkaobfhiaaGreat
open Go
instance : TS 3 (.int .i64 0) := ⟨_, _, H4, rfl⟩
instance : TS 5 (.int .u8 0) := ⟨_, _, ty5, rfl⟩
instance : TS 9 (.string (ByteArray.mk #[])) := ⟨_, _, ty9, rfl⟩
instance : TG 23 5 (.agg #[(.int .i64 0), (.int .i64 0), (.int .i64 0), (.int .i64 0), (.int .i64 0)]) := ⟨_, _, A5L, rfl⟩
instance : TS 31 (.int .i64 0) := ⟨_, _, B7A, rfl⟩
instance : TS 36 (.slice none 0 0) := ⟨_, _, A9G, rfl⟩
instance : SL 36 83 2 16 (.agg #[(.int .i64 0), (.int .i64 0)]) := ⟨⟨_, _, _, A9G⟩, ⟨_, B2S⟩, rfl⟩
instance : TG 38 4 (.agg #[(.int .i64 0), (.string (ByteArray.mk #[])), (.slice none 0 0), (.int .i64 0)]) := ⟨_, _, A6d, rfl⟩
instance : TG 45 3 (.agg #[(.int .i64 0), (.int .i64 0), (.slice none 0 0)]) := ⟨_, _, B3l, rfl⟩
instance : TG 49 3 (.agg #[(.bool false), (.bool false), (.bool false)]) := ⟨_, _, B2V, rfl⟩
instance : TG 51 3 (.agg #[(.bool false), (.bool false), (.bool false)]) := ⟨_, _, B5s, rfl⟩
instance : TS 54 (.slice none 0 0) := ⟨_, _, A3l, rfl⟩
instance : SL 54 3 1 8 (.int .i64 0) := ⟨⟨_, _, _, A3l⟩, ⟨_, H4⟩, rfl⟩
instance : TS 55 (.slice none 0 0) := ⟨_, _, A8n, rfl⟩
instance : SL 55 155 4 40 (.agg #[(.int .i64 0), (.string (ByteArray.mk #[])), (.int .i64 0), (.int .i64 0)]) := ⟨⟨_, _, _, A8n⟩, ⟨_, A1c⟩, rfl⟩
instance : TG 57 4 (.agg #[(.int .i64 0), (.int .i64 0), (.bool false), (.int .i64 0)]) := ⟨_, _, B0e, rfl⟩
instance : TS 69 (.pointer none) := ⟨_, _, C2S, rfl⟩
instance : TS 70 (.pointer none) := ⟨_, _, C28, rfl⟩
instance : TS 71 (.pointer none) := ⟨_, _, C3j, rfl⟩
instance : TS 72 (.slice none 0 0) := ⟨_, _, B3z, rfl⟩
instance : SL 72 55 1 24 (.slice none 0 0) := ⟨⟨_, _, _, B3z⟩, ⟨_, A8n⟩, rfl⟩
instance : TG 83 2 (.agg #[(.int .i64 0), (.int .i64 0)]) := ⟨_, _, B2S, rfl⟩
instance : TS 87 .nilFunc := ⟨_, _, C2f, rfl⟩
instance : TG 91 6 (.agg #[(.int .i64 0), (.int .i64 0), (.int .i64 0), (.int .i64 0), (.bool false), (.int .i64 0)]) := ⟨_, _, A9N, rfl⟩
instance : TS 96 .nilIface := ⟨_, _, C5s, rfl⟩
instance : TS 107 (.slice none 0 0) := ⟨_, _, B21, rfl⟩
instance : SL 107 179 2 32 (.agg #[(.int .i64 0), (.slice none 0 0)]) := ⟨⟨_, _, _, B21⟩, ⟨_, A6V⟩, rfl⟩
instance : TS 108 (.slice none 0 0) := ⟨_, _, B2m, rfl⟩
instance : SL 108 186 2 16 (.agg #[(.int .i64 0), (.int .i64 0)]) := ⟨⟨_, _, _, B2m⟩, ⟨_, A6C⟩, rfl⟩
instance : TS 149 (.slice none 0 0) := ⟨_, _, B8e, rfl⟩
instance : SL 150 216 2 16 (.agg #[(.int .u64 0), (.int .i64 0)]) := ⟨⟨_, _, _, C8a⟩, ⟨_, C8W⟩, rfl⟩
instance : TG 152 2 (.agg #[(.slice none 0 0), (.slice none 0 0)]) := ⟨_, _, A8y, rfl⟩
instance : TG 155 4 (.agg #[(.int .i64 0), (.string (ByteArray.mk #[])), (.int .i64 0), (.int .i64 0)]) := ⟨_, _, A1c, rfl⟩
instance : SL 159 87 1 8 .nilFunc := ⟨⟨_, _, _, B9D⟩, ⟨_, C2f⟩, rfl⟩
instance : TS 160 (.slice none 0 0) := ⟨_, _, B23, rfl⟩
instance : SL 160 174 1 16 .nilIface := ⟨⟨_, _, _, B23⟩, ⟨_, B8l⟩, rfl⟩
instance : TG 164 2 (.agg #[(.int .i64 0), (.int .i64 0)]) := ⟨_, _, A4c, rfl⟩
instance : TG 170 0 (.agg #[]) := ⟨_, _, B1K, rfl⟩
instance : TS 174 .nilIface := ⟨_, _, B8l, rfl⟩
instance : TG 179 2 (.agg #[(.int .i64 0), (.slice none 0 0)]) := ⟨_, _, A6V, rfl⟩
instance : TG 186 2 (.agg #[(.int .i64 0), (.int .i64 0)]) := ⟨_, _, A6C, rfl⟩
instance : TG 205 2 (.agg #[(.int .i64 0), (.int .i64 0)]) := ⟨_, _, B20, rfl⟩
instance : TS 206 (.slice none 0 0) := ⟨_, _, B5T, rfl⟩
instance : SL 206 210 2 16 (.agg #[(.int .u64 0), (.int .i64 0)]) := ⟨⟨_, _, _, B5T⟩, ⟨_, A8m⟩, rfl⟩
instance : TS 208 (.int .u64 0) := ⟨_, _, A80, rfl⟩
instance : TG 210 2 (.agg #[(.int .u64 0), (.int .i64 0)]) := ⟨_, _, A8m, rfl⟩
instance : TS 234 (.slice none 0 0) := ⟨_, _, B5S, rfl⟩
instance : SL 234 5 1 1 (.int .u8 0) := ⟨⟨_, _, _, B5S⟩, ⟨_, ty5⟩, rfl⟩
instance : TS 244 .nilFunc := ⟨_, _, C7m, rfl⟩
instance : SL 252 205 2 16 (.agg #[(.int .i64 0), (.int .i64 0)]) := ⟨⟨_, _, _, B8J⟩, ⟨_, B20⟩, rfl⟩
instance : TS 289 (.slice none 0 0) := ⟨_, _, B9K, rfl⟩
instance : TS 314 .nilFunc := ⟨_, _, C8d, rfl⟩
instance : TS 316 (.int .u64 0) := ⟨_, _, C3y, rfl⟩
@[simp] theorem C88 (a : Option Addr) (x y : Operand) (K : Value → WP) : A6 PR (J0 .eql 137 x y (.pointer a) (.pointer none)) K = K (.bool a.isNone) := funext fun w => B8y a x y K w
@[simp] theorem D0S (a0 b0 : Int) (a1 b1 : Int) (x y : Operand) (K : Value → WP) : A6 PR (J0 .eql 164 x y (.agg #[.int .i64 a0, .int .i64 a1]) (.agg #[.int .i64 b0, .int .i64 b1])) K = K (.bool (decide (a0 = b0) && (decide (a1 = b1) && true))) := funext fun w => C0q a0 b0 a1 b1 x y K w
@[simp] theorem C9w (a : Option Addr) (x y : Operand) (K : Value → WP) : A6 PR (J0 .eql 30 x y (.pointer a) (.pointer none)) K = K (.bool a.isNone) := funext fun w => B9l a x y K w
@[simp] theorem D0f (a : Option Addr) (x y : Operand) (K : Value → WP) : A6 PR (J0 .eql 34 x y (.pointer a) (.pointer none)) K = K (.bool a.isNone) := funext fun w => C0c a x y K w
@[simp] theorem D1L (a0 b0 : Bool) (a1 b1 : Bool) (a2 b2 : Bool) (x y : Operand) (K : Value → WP) : A6 PR (J0 .eql 49 x y (.agg #[.bool a0, .bool a1, .bool a2]) (.agg #[.bool b0, .bool b1, .bool b2])) K = K (.bool ((a0 == b0) && ((a1 == b1) && ((a2 == b2) && true)))) := funext fun w => C2J a0 b0 a1 b1 a2 b2 x y K w
@[simp] theorem D1z (a0 b0 : Int) (a1 b1 : Int) (a2 b2 : Bool) (a3 b3 : Int) (x y : Operand) (K : Value → WP) : A6 PR (J0 .eql 57 x y (.agg #[.int .i64 a0, .int .i64 a1, .bool a2, .int .i64 a3]) (.agg #[.int .i64 b0, .int .i64 b1, .bool b2, .int .i64 b3])) K = K (.bool (decide (a0 = b0) && (decide (a1 = b1) && ((a2 == b2) && (decide (a3 = b3) && true))))) := funext fun w => C1w a0 b0 a1 b1 a2 b2 a3 b3 x y K w
@[simp] theorem C8M (a : Option Addr) (x y : Operand) (K : Value → WP) : A6 PR (J0 .neq 137 x y (.pointer a) (.pointer none)) K = K (.bool (!a.isNone)) := funext fun w => B88 a x y K w
@[simp] theorem D09 (a0 b0 : Int) (a1 b1 : ByteArray) (a2 b2 : Int) (a3 b3 : Int) (x y : Operand) (K : Value → WP) : A6 PR (J0 .neq 155 x y (.agg #[.int .i64 a0, .string a1, .int .i64 a2, .int .i64 a3]) (.agg #[.int .i64 b0, .string b1, .int .i64 b2, .int .i64 b3])) K = K (.bool !(decide (a0 = b0) && ((a1 == b1) && (decide (a2 = b2) && (decide (a3 = b3) && true))))) := funext fun w => C0k a0 b0 a1 b1 a2 b2 a3 b3 x y K w
@[simp] theorem C9T (a : Option Addr) (x y : Operand) (K : Value → WP) : A6 PR (J0 .neq 30 x y (.pointer a) (.pointer none)) K = K (.bool (!a.isNone)) := funext fun w => C03 a x y K w
@[simp] theorem D2H (a0 b0 : Bool) (a1 b1 : Bool) (a2 b2 : Bool) (x y : Operand) (K : Value → WP) : A6 PR (J0 .neq 49 x y (.agg #[.bool a0, .bool a1, .bool a2]) (.agg #[.bool b0, .bool b1, .bool b2])) K = K (.bool !((a0 == b0) && ((a1 == b1) && ((a2 == b2) && true)))) := funext fun w => C2N a0 b0 a1 b1 a2 b2 x y K w
@[simp] theorem D10 (a0 b0 : Int) (a1 b1 : Int) (a2 b2 : Bool) (a3 b3 : Int) (x y : Operand) (K : Value → WP) : A6 PR (J0 .neq 57 x y (.agg #[.int .i64 a0, .int .i64 a1, .bool a2, .int .i64 a3]) (.agg #[.int .i64 b0, .int .i64 b1, .bool b2, .int .i64 b3])) K = K (.bool !(decide (a0 = b0) && (decide (a1 = b1) && ((a2 == b2) && (decide (a3 = b3) && true))))) := funext fun w => C2W a0 b0 a1 b1 a2 b2 a3 b3 x y K w
@[simp] theorem D0M (a : Option Addr) (x y : Operand) (K : Value → WP) : A6 PR (J0 .neq 69 x y (.pointer a) (.pointer none)) K = K (.bool (!a.isNone)) := funext fun w => B9k a x y K w
@[simp] theorem C9F (a : Option Addr) (x y : Operand) (K : Value → WP) : A6 PR (J0 .neq 70 x y (.pointer a) (.pointer none)) K = K (.bool (!a.isNone)) := funext fun w => B9c a x y K w
@[simp] theorem C9g (a : Option Addr) (x y : Operand) (K : Value → WP) : A6 PR (J0 .neq 71 x y (.pointer a) (.pointer none)) K = K (.bool (!a.isNone)) := funext fun w => C0N a x y K w
end Go.Proofs.YtpnidmkaobfhiaaGreat
namespace Go.Proofs.YtpnidmkaobfhiaaGreat
open Go
def B85 (n i : Nat) : List Value := [.int .i64 (i : Int), .int .u64 (8 * ((n : Int) - 1 - i))]
abbrev C1Z (b : Nat) : Value := .func (.func 176) #[] #[.pointer (some ⟨b, 0, none⟩)]
theorem C2A (w : World) (n : Int) : Fn PR B6 146 #[.int .i64 n] w (Rn [] w (fun b v => v = C1Z b) fun b => [.pt b (.cells #[.int .i64 n] 3)]) := by
 refine B3w (TW.go (κ := false) (S := []) ?_)
 unfold A8P
 (have zz:=trivial;repeat((first|clear zz|with_reducible first|refine A3 ?_|refine A5 fun _=>?_|refine A4 fun _=>?_);try simp(disch:=first|omega|assumption|((repeat(first|exact A1|exact uH|apply A2|apply uT));first|done|fail)|(simp;first|done|omega|fail))[]))
 rename_i b
 exact A40 b rfl (by simp)
theorem C2M (b : Nat) {n : Nat} (hn : n ≤ 8) : A57 (C1Z b) [.pt b (.cells #[.int .i64 (n : Int)] 3)] (fun _ _ => True) ((List.range n).map (B85 n)) := by
 refine ⟨_, _, _, rfl, fun l J E hJ hE stJ stE hy w0 h0 => ?_⟩
 refine B1L (B1S (TW.at (κ := true) ?_ (hJ _ _ _ h0).1))
 unfold A4Q
 (have zz:=trivial;repeat((first|clear zz|with_reducible first|refine A3 ?_|refine A5 fun _=>?_|refine A4 fun _=>?_);try simp(disch:=first|omega|assumption|((repeat(first|exact A1|exact uH|apply A2|apply uT));first|done|fail)|(simp;first|done|omega|fail))[]))
 refine A3v n (fun i => i) (fun _ => _) hJ stJ h0 fun i a hi hJi _ L hL => ?_
 by_cases hlt : i < n
 ·(have zz:=trivial;repeat((first|clear zz|with_reducible first|refine A3 ?_|refine A5 fun _=>?_|refine A4 fun _=>?_);try simp(disch:=first|omega|assumption|((repeat(first|exact A1|exact uH|apply A2|apply uT));first|done|fail)|(simp;first|done|omega|fail))[hlt]))
  refine A8b hJ hE stJ hy hJi (by simpa using hlt) (by simp [B85]) (fun w3 h => ?_) (fun w3 h => ?_)
  ·(have zz:=trivial;repeat((first|clear zz|with_reducible first|refine A3 ?_|refine A5 fun _=>?_|refine A4 fun _=>?_);try simp(disch:=first|omega|assumption|((repeat(first|exact A1|exact uH|apply A2|apply uT));first|done|fail)|(simp;first|done|omega|fail))[]))
   exact fun w' hw' => hL hlt w' (stJ _ _ _ _ _ h hw')
  ·(have zz:=trivial;repeat((first|clear zz|with_reducible first|refine A3 ?_|refine A5 fun _=>?_|refine A4 fun _=>?_);try simp(disch:=first|omega|assumption|((repeat(first|exact A1|exact uH|apply A2|apply uT));first|done|fail)|(simp;first|done|omega|fail))[]))
   exact A4z stE h
 ·obtain rfl : i = n := by omega
  (have zz:=trivial;repeat((first|clear zz|with_reducible first|refine A3 ?_|refine A5 fun _=>?_|refine A4 fun _=>?_);try simp(disch:=first|omega|assumption|((repeat(first|exact A1|exact uH|apply A2|apply uT));first|done|fail)|(simp;first|done|omega|fail))[]))
  exact A5K stJ (by simpa using hJi)
def A0A (s : ByteArray) (i : Nat) : Nat := (s.data.getD i 0).toNat
def beV (s : ByteArray) (a : Nat) : Nat → Nat
 | 0 => 0
 | i + 1 => beV s a i * 256 + A0A s (a + i)
theorem B43 (s : ByteArray) (i : Nat) : A0A s i < 256 := (s.data.getD i 0).toNat_lt
theorem B6k {s : ByteArray} {i : Nat} (h : i < s.size) : ∃ b : UInt8, s[i]? = some b ∧ b.toNat = A0A s i := by
 refine ⟨s[i], by simp [h], ?_⟩
 have h' : i < s.data.size := h
 have e : s.data.getD i 0 = s[i] := by rw [Array.getD_eq_getD_getElem?, Array.getElem?_eq_getElem h']; rfl
 rw [A0A, e]
def B5U (v : Int) (n i : Nat) : Int := IntKind.u8.wrap (v.fdiv (2 ^ min (8 * ((n : Int) - 1 - i)).toNat IntKind.u64.bits))
def A1m (v : Int) (n i : Nat) : List Int := (List.range n).map fun j => if j < i then B5U v n j else 0
def Z8 (v n : Int) : ByteArray := if 1 ≤ n ∧ n ≤ 8 then A4n (A1m v n.toNat n.toNat) else ByteArray.mk #[]
theorem C2x (v : Int) {n i : Nat} (h : i < n) : (A1m v n i).set i (B5U v n i) = A1m v n (i + 1) := by
 apply List.ext_getElem (by simp [A1m])
 intro j h1 h2
 simp only [A1m, List.length_set, List.length_map, List.length_range] at h1
 rw [List.getElem_set]
 simp only [A1m, List.getElem_map, List.getElem_range]
 by_cases hij : i = j
 ·subst hij; simp
 ·by_cases hj : j < i
  ·simp [hij, hj, Nat.lt_succ_of_lt hj]
  ·have : ¬ j < i + 1 := by omega
   simp [hij, hj, this]
def A60 (v : Int) (n i : Nat) : Array Value := ((A1m v n i).map (Value.int .u8)).toArray
theorem C1H (v : Int) {m : Nat} (h : m ≤ 8) : Builtin.zeroCells (Value.int .u8 0).cells m = A60 v m 0 := by
 have : m = 0 ∨ m = 1 ∨ m = 2 ∨ m = 3 ∨ m = 4 ∨ m = 5 ∨ m = 6 ∨ m = 7 ∨ m = 8 := by omega
 rcases this with rfl | rfl | rfl | rfl | rfl | rfl | rfl | rfl | rfl <;>
  (apply Array.ext'; simp [Builtin.zeroCells, A60, A1m, List.range, List.range.loop])
@[simp] theorem C9l {v n : Int} (h1 : 1 ≤ n) (h2 : n ≤ 8) : (Z8 v n).size = n.toNat := by simp [Z8, h1, h2, A1m]
theorem B6Z (w : World) (v n : Int) :
  Fn PR B6 114 #[.int .u64 v, .int .i64 n] w (fun u w' => u = .string (Z8 v n) ∧ D6 [] w w') := by
 refine Fn.pure (B6G (TW.go (κ := false) (S := []) ?_))
 unfold B0T
 by_cases hok : 1 ≤ n ∧ n ≤ 8
 case neg =>
  have hv : Z8 v n = ByteArray.mk #[] := if_neg hok
  rw [hv]
  by_cases h1 : n < 1
  ·(have zz:=trivial;repeat((first|clear zz|with_reducible first|refine A3 ?_|refine A5 fun _=>?_|refine A4 fun _=>?_);try simp(disch:=first|omega|assumption|((repeat(first|exact A1|exact uH|apply A2|apply uT));first|done|fail)|(simp;first|done|omega|fail))[h1])); exact B4 rfl
  ·have h2 : 8 < n := by omega
   (have zz:=trivial;repeat((first|clear zz|with_reducible first|refine A3 ?_|refine A5 fun _=>?_|refine A4 fun _=>?_);try simp(disch:=first|omega|assumption|((repeat(first|exact A1|exact uH|apply A2|apply uT));first|done|fail)|(simp;first|done|omega|fail))[h1, h2])); exact B4 rfl
 have hv : Z8 v n = A4n (A1m v n.toNat n.toNat) := if_pos hok
 rw [hv]
 obtain ⟨m, rfl⟩ : ∃ m : Nat, n = m := ⟨n.toNat, by omega⟩
 have h1 : ¬ (m : Int) < 1 := by omega
 have h2 : ¬ 8 < (m : Int) := by omega
 (have zz:=trivial;repeat((first|clear zz|with_reducible first|refine A3 ?_|refine A5 fun _=>?_|refine A4 fun _=>?_);try simp(disch:=first|omega|assumption|((repeat(first|exact A1|exact uH|apply A2|apply uT));first|done|fail)|(simp;first|done|omega|fail))[h1, h2]))
 refine A0r (by omega) (by omega) (by omega) (by omega) fun bs => ?_
 rw [Int.toNat_natCast, C1H v (by omega)]
 (have zz:=trivial;repeat((first|clear zz|with_reducible first|refine A3 ?_|refine A5 fun _=>?_|refine A4 fun _=>?_);try simp(disch:=first|omega|assumption|((repeat(first|exact A1|exact uH|apply A2|apply uT));first|done|fail)|(simp;first|done|omega|fail))[h1, h2]))
 rename_i bv bb
 refine G7 B2d (fun w' _ => C2A w' m) ?_
 rintro b v rfl
 refine A6M (C2M b (n := m) (by omega)) (by simp [B85]) (fun _ (_ : Unit) => True) (fun i _ => [.pt bb (.cells #[.slice (some ⟨bs, 0, none⟩) m m] 234),
   .own 5 1 (.slice (some ⟨bs, 0, none⟩) m m) m (A60 v m i).toList, .pt bv (.cells #[.int .u64 v] 208)])
  (fun _ (_ : Unit) => False) (fun _ => []) () trivial ?_ ?_ ?_ ?_ (by simp)
 ·intros; trivial
 ·rintro i hi _ F _ K' hK _
  have hi' : i < m := by simpa using hi
  have hsh : (0 : Int) ≤ 8 * ((m : Int) - 1 - i) := by omega
  simp only [List.getElem_map, List.getElem_range, B85, VF.app]
  (have zz:=trivial;repeat((first|clear zz|with_reducible first|refine A3 ?_|refine A5 fun _=>?_|refine A4 fun _=>?_);try simp(disch:=first|omega|assumption|((repeat(first|exact A1|exact uH|apply A2|apply uT));first|done|fail)|(simp;first|done|omega|fail))[]))
  refine N0 (by (repeat constructor)) (by simp) (by simp [A60, A1m]; omega) (by simp) ?_
  refine TW.eqH ?_ (hK () trivial)
  have e : U7 (A60 v m i).toList i [.int .u8 (B5U v m i)] = (A60 v m (i + 1)).toList := by
   rw [B6N (by simp [A60, A1m]; omega)]; simp [A60, ← C2x v hi', List.map_set]
  rw [← e]; simp [B5U]
 ·rintro _ _
  (have zz:=trivial;repeat((first|clear zz|with_reducible first|refine A3 ?_|refine A5 fun _=>?_|refine A4 fun _=>?_);try simp(disch:=first|omega|assumption|((repeat(first|exact A1|exact uH|apply A2|apply uT));first|done|fail)|(simp;first|done|omega|fail))[]))
  have hlen : (A1m v m m).length = m := by simp [A1m]
  have := fun w' K (hr : P9 w' bs 0 ((A1m v m m).map (Value.int .u8))) => @B7J K w' bs 0 m _ hr
  rw [hlen] at this
  rw [C8B fun w' hw' => this w' _ (by simpa [A60] using hw'.ownr (e := 5) (k := 1) (q := m) (c := m) (xs := (A60 v m m).toList) (by (repeat constructor)))]
  simp only [C8Y]
  exact B4 rfl
 ·rintro _ _ h; exact h.elim
end Go.Proofs.YtpnidmkaobfhiaaGreat
