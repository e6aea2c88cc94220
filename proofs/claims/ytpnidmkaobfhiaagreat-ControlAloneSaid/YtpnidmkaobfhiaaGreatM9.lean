/- The proof of a given statement, a part of it (ShStd ShOctet Ins Tc Tn Oct). No condition but what each lemma says. -/
import Derived.Test.YtpnidmkaobfhiaaGreatM8
set_option linter.unusedVariables false
set_option linter.unusedSimpArgs false
namespace Go.Proofs.YtpnidmkaobfhiaaGreat
open Go
def W7 (X : Nat → Prop) (t0 : Value) (R : Value → WP) : WP :=
 jn (n := 1) (fun t2 =>
 B4 PR X (Instr.buildSlice 55 0 #[]) fun t5 =>
 B4 PR X (A8 .append #[55, 55] 55 [t5, t0]) fun t7 =>
 R t7) fun J1 =>
 A6 PR (H6 .eql 55 (.tmp 3) (.const (.slice none 0 0)) t0 (.slice none 0 0)) fun t4 =>
 C3 t4 (
 R (.slice none 0 0)) (
 J1 (.slice none 0 0))
theorem P3 : A9 PR 71 := A7 Tryz.func71 (by kernel_rfl) rfl
theorem y5 {X : Nat → Prop} {t0 : Value} {R : Value → WP} {w : World} (h : W7 X t0 R w) : Fn PR X 71 #[t0] w R := C4 (args := [t0]) mixed Tryz.func71 (by kernel_rfl) h
def U1 (X : Nat → Prop) (t0 : Value) (R : Value → WP) : WP :=
 jn (n := 1) (fun t2 =>
 B4 PR X (Instr.buildSlice 36 0 #[]) fun t5 =>
 B4 PR X (A8 .append #[36, 36] 36 [t5, t0]) fun t7 =>
 R t7) fun J1 =>
 A6 PR (H6 .eql 36 (.tmp 3) (.const (.slice none 0 0)) t0 (.slice none 0 0)) fun t4 =>
 C3 t4 (
 R (.slice none 0 0)) (
 J1 (.slice none 0 0))
theorem N0 : A9 PR 72 := A7 Tryz.func72 (by kernel_rfl) rfl
theorem q5 {X : Nat → Prop} {t0 : Value} {R : Value → WP} {w : World} (h : U1 X t0 R w) : Fn PR X 72 #[t0] w R := C4 (args := [t0]) mixed Tryz.func72 (by kernel_rfl) h
def Z0 (X : Nat → Prop) (t0 t1 : Value) (R : Value → WP) : WP :=
 B7 PR X 127 [t0] fun t7 =>
 B7 PR X 128 [t7, t1] fun t10 =>
 R t7
theorem A0T : A9 PR 99 := A7 Tryz.func99 (by kernel_rfl) rfl
theorem A0m {X : Nat → Prop} {t0 t1 : Value} {R : Value → WP} {w : World} (h : Z0 X t0 t1 R w) : Fn PR X 99 #[t0, t1] w R := C4 (args := [t0, t1]) mixed Tryz.func99 (by kernel_rfl) h
def x4 (X : Nat → Prop) (t0 t1 : Value) (R : Value → WP) : WP :=
 A0 PR (B5 t0) fun t6 =>
 A0 PR (Instr.fieldAt 143 t6 2) fun t7 =>
 B7 PR X 159 [t7, t1] fun t9 =>
 R t9
theorem A39 : A9 PR 124 := A7 Tryz.func124 (by kernel_rfl) rfl
theorem A4T {X : Nat → Prop} {t0 t1 : Value} {R : Value → WP} {w : World} (h : x4 X t0 t1 R w) : Fn PR X 124 #[t0, t1] w R := C4 (args := [t0, t1]) mixed Tryz.func124 (by kernel_rfl) h
def Y3 (X : Nat → Prop) (t0 t1 : Value) (R : Value → WP) : WP :=
 B7 PR X 160 [t0, t1] fun t7 =>
 A0 PR (binOp .geq 3 t7 (.int .i64 0)) fun t8 =>
 R t8
theorem A0B : A9 PR 125 := A7 Tryz.func125 (by kernel_rfl) rfl
theorem A0S {X : Nat → Prop} {t0 t1 : Value} {R : Value → WP} {w : World} (h : Y3 X t0 t1 R w) : Fn PR X 125 #[t0, t1] w R := C4 (args := [t0, t1]) mixed Tryz.func125 (by kernel_rfl) h
def d7 (X : Nat → Prop) (t0 : Value) (R : Value → WP) : WP :=
 B7 PR X 161 [(.slice none 0 0), t0] fun t4 =>
 R t4
theorem A1c : A9 PR 127 := A7 Tryz.func127 (by kernel_rfl) rfl
theorem A1p {X : Nat → Prop} {t0 : Value} {R : Value → WP} {w : World} (h : d7 X t0 R w) : Fn PR X 127 #[t0] w R := C4 (args := [t0]) mixed Tryz.func127 (by kernel_rfl) h
theorem g9 : A9 PR 128 := A7 Tryz.func128 (by kernel_rfl) rfl
def A9J (X : Nat → Prop) (t0 : Value) (R : Value → WP) : WP :=
 jn (n := 2) (fun t2 t8 =>
 R (.int .i64 0)) fun J1 =>
 A0 PR (A8 .len #[54] 0 [t0]) fun t7 =>
 lp (n := 2) (fun L2 t2_1 t8_1 =>
 A0 PR (binOp .lss 3 t8_1 t7) fun t9 =>
 jn (n := 0) (
 jn (n := 1) (fun t2_2 =>
 A0 PR (binOp .add 3 t8_1 (.int .i64 1)) fun t16 =>
 L2 t2_2 t16) fun J3 =>
 A0 PR (Instr.indexAt 54 t0 t8_1) fun t10 =>
 A6 PR (Instr.loadAt 3 t10) fun t11 =>
 A0 PR (binOp .neq 3 t11 (.int .i64 0)) fun t14 =>
 C3 t14 (
 R t11) (
 J3 t2_1)) fun J4 =>
 C3 t9 (
 J4) (
 J1 t2_1 t8_1)) (.int .i64 0) (.int .i64 0)
theorem B4Y : A9 PR 131 := A7 Tryz.func131 (by kernel_rfl) rfl
theorem B6F {X : Nat → Prop} {t0 : Value} {R : Value → WP} {w : World} (h : A9J X t0 R w) : Fn PR X 131 #[t0] w R := C4 (args := [t0]) mixed Tryz.func131 (by kernel_rfl) h
theorem B61 {X : Nat → Prop} {t0 : Value} {K : Value → WP} {w : World} (h : Fn PR X 131 #[t0] w K) : B7 PR X 131 [t0] K w := Or.inl ⟨B4Y, h⟩
def A1Q (X : Nat → Prop) (t0 t1 : Value) (R : Value → WP) : WP :=
 B7 PR X 164 [t0] fun t8 =>
 B7 PR X 164 [t1] fun t10 =>
 jn (n := 1) (fun t4 =>
 jn (n := 1) (fun t4_1 =>
 jn (n := 1) (fun t4_2 =>
 jn (n := 1) (fun t4_3 =>
 R (.int .i64 0)) fun J1 =>
 A0 PR (binOp .gtr 208 t0 t1) fun t19 =>
 C3 t19 (
 R (.int .i64 1)) (
 J1 t4_2)) fun J2 =>
 A0 PR (binOp .lss 208 t0 t1) fun t16 =>
 C3 t16 (
 R (.int .i64 (-1))) (
 J2 t4_1)) fun J3 =>
 C3 t10 (
 R (.int .i64 1)) (
 J3 t4)) fun J4 =>
 C3 t8 (
 jn (n := 1) (fun t4_4 =>
 R (.int .i64 (-1))) fun J5 =>
 C3 t10 (
 R (.int .i64 0)) (
 J5 (.int .i64 0))) (
 J4 (.int .i64 0))
theorem A6K : A9 PR 132 := A7 Tryz.func132 (by kernel_rfl) rfl
theorem A63 {X : Nat → Prop} {t0 t1 : Value} {R : Value → WP} {w : World} (h : A1Q X t0 t1 R w) : Fn PR X 132 #[t0, t1] w R := C4 (args := [t0, t1]) mixed Tryz.func132 (by kernel_rfl) h
theorem A85 {X : Nat → Prop} {t0 t1 : Value} {K : Value → WP} {w : World} (h : Fn PR X 132 #[t0, t1] w K) : B7 PR X 132 [t0, t1] K w := Or.inl ⟨A6K, h⟩
def A3J (X : Nat → Prop) (t0 t1 : Value) (R : Value → WP) : WP :=
 B7 PR X 165 [t0] fun t8 =>
 B7 PR X 165 [t1] fun t10 =>
 jn (n := 1) (fun t4 =>
 jn (n := 1) (fun t4_1 =>
 jn (n := 1) (fun t4_2 =>
 jn (n := 1) (fun t4_3 =>
 R (.int .i64 0)) fun J1 =>
 A0 PR (binOp .gtr 3 t0 t1) fun t19 =>
 C3 t19 (
 R (.int .i64 1)) (
 J1 t4_2)) fun J2 =>
 A0 PR (binOp .lss 3 t0 t1) fun t16 =>
 C3 t16 (
 R (.int .i64 (-1))) (
 J2 t4_1)) fun J3 =>
 C3 t10 (
 R (.int .i64 1)) (
 J3 t4)) fun J4 =>
 C3 t8 (
 jn (n := 1) (fun t4_4 =>
 R (.int .i64 (-1))) fun J5 =>
 C3 t10 (
 R (.int .i64 0)) (
 J5 (.int .i64 0))) (
 J4 (.int .i64 0))
theorem A9S : A9 PR 133 := A7 Tryz.func133 (by kernel_rfl) rfl
theorem A9w {X : Nat → Prop} {t0 t1 : Value} {R : Value → WP} {w : World} (h : A3J X t0 t1 R w) : Fn PR X 133 #[t0, t1] w R := C4 (args := [t0, t1]) mixed Tryz.func133 (by kernel_rfl) h
theorem B1S {X : Nat → Prop} {t0 t1 : Value} {K : Value → WP} {w : World} (h : Fn PR X 133 #[t0, t1] w K) : B7 PR X 133 [t0, t1] K w := Or.inl ⟨A9S, h⟩
def Z7 (X : Nat → Prop) (t0 t1 : Value) (R : Value → WP) : WP :=
 jn (n := 2) (fun t4 t8 =>
 R (.int .i64 (-1))) fun J1 =>
 A0 PR (A8 .len #[252] 0 [t0]) fun t7 =>
 lp (n := 2) (fun L2 t4_1 t8_1 =>
 A0 PR (binOp .lss 3 t8_1 t7) fun t9 =>
 jn (n := 0) (
 jn (n := 1) (fun t4_2 =>
 A0 PR (binOp .add 3 t8_1 (.int .i64 1)) fun t18 =>
 L2 t4_2 t18) fun J3 =>
 A0 PR (Instr.indexAt 252 t0 t8_1) fun t14 =>
 A6 PR (Instr.loadAt 205 t14) fun t15 =>
 M7 PR X t1 [t15] fun t16 =>
 C3 t16 (
 R t8_1) (
 J3 t4_1)) fun J4 =>
 C3 t9 (
 J4) (
 J1 t4_1 t8_1)) (.int .i64 0) (.int .i64 0)
theorem A0y : A9 PR 160 := A7 Tryz.func160 (by kernel_rfl) rfl
theorem A1d {X : Nat → Prop} {t0 t1 : Value} {R : Value → WP} {w : World} (h : Z7 X t0 t1 R w) : Fn PR X 160 #[t0, t1] w R := C4 (args := [t0, t1]) mixed Tryz.func160 (by kernel_rfl) h
def S1 (X : Nat → Prop) (t0 t1 : Value) (R : Value → WP) : WP :=
 B4 PR X (Instr.box 206 t0) fun t2 =>
 jn (n := 0) (
 A6 PR (Instr.loadAt 206 t2) fun t12 =>
 j9 (R t12)) fun J1 =>
 rng (N := 1) PR X (fun t7 K2 =>
 B4 PR (fun _ => False) (Instr.alloc 210 true (.tuple #[])) fun t5 =>
 B9 PR (fun _ => False) (Instr.storeAt 210 t5 t7) <|
 bgn <|
 A6 PR (Instr.loadAt 206 t2) fun t8 =>
 A6 PR (Instr.loadAt 210 t5) fun t9 =>
 B4 PR (fun _ => False) (Instr.buildSlice 206 1 #[(0, t9)]) fun t10 =>
 B4 PR (fun _ => False) (A8 .append #[206, 206] 206 [t8, t10]) fun t11 =>
 B9 PR (fun _ => False) (Instr.storeAt 206 t2 t11) <|
 K2 none) t1 (fun j => match j with | none => (J1) | some (.exit i) => (match Nat.beq i 0 with | true => (J1) | false => (H2)) | some .ret => (j9 (R (.slice none 0 0))) | some _ => H2)
theorem a7 : A9 PR 161 := A7 Tryz.func161 (by kernel_rfl) rfl
theorem f5 {X : Nat → Prop} {t0 t1 : Value} {R : Value → WP} {w : World} (h : S1 X t0 t1 R w) : Fn PR X 161 #[t0, t1] w R := C4 (args := [t0, t1]) mixed Tryz.func161 (by kernel_rfl) h
def A2N (X : Nat → Prop) (t0 : Value) (R : Value → WP) : WP :=
 A0 PR (binOp .neq 208 t0 t0) fun t5 =>
 R t5
theorem A76 : A9 PR 164 := A7 Tryz.func164 (by kernel_rfl) rfl
theorem A9U {X : Nat → Prop} {t0 : Value} {R : Value → WP} {w : World} (h : A2N X t0 R w) : Fn PR X 164 #[t0] w R := C4 (args := [t0]) mixed Tryz.func164 (by kernel_rfl) h
theorem A3Z {X : Nat → Prop} {t0 : Value} {K : Value → WP} {w : World} (h : Fn PR X 164 #[t0] w K) : B7 PR X 164 [t0] K w := Or.inl ⟨A76, h⟩
def A4z (X : Nat → Prop) (t0 : Value) (R : Value → WP) : WP :=
 A0 PR (binOp .neq 3 t0 t0) fun t5 =>
 R t5
theorem B1c : A9 PR 165 := A7 Tryz.func165 (by kernel_rfl) rfl
theorem B2K {X : Nat → Prop} {t0 : Value} {R : Value → WP} {w : World} (h : A4z X t0 R w) : Fn PR X 165 #[t0] w R := C4 (args := [t0]) mixed Tryz.func165 (by kernel_rfl) h
theorem A5Y {X : Nat → Prop} {t0 : Value} {K : Value → WP} {w : World} (h : Fn PR X 165 #[t0] w K) : B7 PR X 165 [t0] K w := Or.inl ⟨B1c, h⟩
def S9 (X : Nat → Prop) (t0 t1 : Value) (R : Value → WP) : WP :=
 jn (n := 2) (fun t4 t8 =>
 R (.int .i64 (-1))) fun J1 =>
 A0 PR (A8 .len #[36] 0 [t0]) fun t7 =>
 lp (n := 2) (fun L2 t4_1 t8_1 =>
 A0 PR (binOp .lss 3 t8_1 t7) fun t9 =>
 jn (n := 0) (
 jn (n := 1) (fun t4_2 =>
 A0 PR (binOp .add 3 t8_1 (.int .i64 1)) fun t18 =>
 L2 t4_2 t18) fun J3 =>
 A0 PR (Instr.indexAt 36 t0 t8_1) fun t14 =>
 A6 PR (Instr.loadAt 83 t14) fun t15 =>
 M7 PR X t1 [t15] fun t16 =>
 C3 t16 (
 R t8_1) (
 J3 t4_1)) fun J4 =>
 C3 t9 (
 J4) (
 J1 t4_1 t8_1)) (.int .i64 0) (.int .i64 0)
theorem j6 : A9 PR 180 := A7 Tryz.func180 (by kernel_rfl) rfl
theorem k8 {X : Nat → Prop} {t0 t1 : Value} {R : Value → WP} {w : World} (h : S9 X t0 t1 R w) : Fn PR X 180 #[t0, t1] w R := C4 (args := [t0, t1]) mixed Tryz.func180 (by kernel_rfl) h
def A7a (X : Nat → Prop) (t0 t1 : Value) (R : Value → WP) : WP :=
 jn (n := 2) (fun t5 t6 =>
 R t5) fun J1 =>
 lp (n := 2) (fun L2 t5_1 t6_1 =>
 jn (n := 0) (
 A0 PR (binOp .add 3 t5_1 t6_1) fun t14 =>
 A0 PR (convert 3 236 t14) fun t15 =>
 A0 PR (binOp .shr 236 t15 (.int .u64 1)) fun t16 =>
 A0 PR (convert 236 3 t16) fun t17 =>
 M7 PR X t1 [t17] fun t20 =>
 A0 PR (Op.unary .not t20) fun t21 =>
 C3 t21 (
 A0 PR (binOp .add 3 t17 (.int .i64 1)) fun t23 =>
 L2 t23 t6_1) (
 L2 t5_1 t17)) fun J3 =>
 A0 PR (binOp .lss 3 t5_1 t6_1) fun t11 =>
 C3 t11 (
 J3) (
 J1 t5_1 t6_1)) (.int .i64 0) t0
theorem B3L : A9 PR 202 := A7 Tryz.func202 (by kernel_rfl) rfl
theorem B4w {X : Nat → Prop} {t0 t1 : Value} {R : Value → WP} {w : World} (h : A7a X t0 t1 R w) : Fn PR X 202 #[t0, t1] w R := C4 (args := [t0, t1]) mixed Tryz.func202 (by kernel_rfl) h
theorem A3U : A9 PR 260 := A7 Tryz.func260 (by kernel_rfl) rfl
end Go.Proofs.YtpnidmkaobfhiaaGreat
namespace Go.Proofs.YtpnidmkaobfhiaaGreat
open Go
def A96 (X : Nat → Prop) (t0 t1 : Value) (R : Value → WP) : WP :=
 B4 PR X (Instr.box 208 t0) fun t2 =>
 jn (n := 1) (fun t4 =>
 B4 PR X (Instr.makeSlice 234 t1 t1) fun t15 =>
 B4 PR X (Instr.alloc 234 true (.tuple #[])) fun t5 =>
 B9 PR X (Instr.storeAt 234 t5 t15) <|
 jn (n := 0) (
 A6 PR (Instr.loadAt 234 t5) fun t27 =>
 A6 PR (convert 234 9 t27) fun t28 =>
 j9 (R t28)) fun J1 =>
 B7 PR X 146 [t1] fun t17 =>
 rng (N := 2) PR X (fun t18 t19 K2 =>
 bgn <|
 A6 PR (Instr.loadAt 234 t5) fun t20 =>
 A6 PR (Instr.loadAt 208 t2) fun t22 =>
 A0 PR (binOp .shr 208 t22 t19) fun t24 =>
 A0 PR (convert 208 5 t24) fun t25 =>
 A0 PR (Instr.indexAt 234 t20 t18) fun t26 =>
 B9 PR (fun _ => False) (Instr.storeAt 5 t26 t25) <|
 K2 none) t17 (fun j => match j with | none => (J1) | some (.exit i) => (match Nat.beq i 0 with | true => (J1) | false => (H2)) | some .ret => (j9 (R t4)) | some _ => H2)) fun J3 =>
 A0 PR (binOp .lss 3 t1 (.int .i64 1)) fun t9 =>
 gj t9 false (fun J => J t1) fun t11 =>
 gj t9 false (fun J => A0 PR (binOp .gtr 3 t11 (.int .i64 8)) J) fun t12 =>
 A0 PR (do pure (if ← asBool t9 then (.bool true) else t12)) fun t13 =>
 C3 t13 (
 j9 (R (.string (ByteArray.mk #[])))) (
 J3 (.string (ByteArray.mk #[])))
theorem N5 : A9 PR 114 := A7 Tryz.func114 (by kernel_rfl) rfl
theorem B71 {X : Nat → Prop} {t0 t1 : Value} {R : Value → WP} {w : World} (h : A96 X t0 t1 R w) : Fn PR X 114 #[t0, t1] w R := C4 (args := [t0, t1]) mixed Tryz.func114 (by kernel_rfl) h
def A9q (X : Nat → Prop) (t0 t1 t2 : Value) (R : Value → WP) : WP :=
 B4 PR X (Instr.box 9 t0) fun t3 =>
 B4 PR X (Instr.box 3 t1) fun t4 =>
 jn (n := 2) (fun t6 t7 =>
 B4 PR X (Instr.alloc 208 true (.tuple #[])) fun t8 =>
 jn (n := 0) (
 A6 PR (Instr.loadAt 208 t8) fun t43 =>
 j9 (R (.tuple #[t43, (.bool true)]))) fun J1 =>
 B7 PR X 146 [t2] fun t30 =>
 rng (N := 2) PR X (fun t31 t32 K2 =>
 bgn <|
 drw <|
 A6 PR (Instr.loadAt 208 t8) fun t33 =>
 A6 PR (Instr.loadAt 9 t3) fun t34 =>
 A6 PR (Instr.loadAt 3 t4) fun t35 =>
 A0 PR (binOp .add 3 t35 t31) fun t37 =>
 A0 PR (Instr.index 9 t34 t37) fun t38 =>
 A0 PR (convert 5 208 t38) fun t39 =>
 A0 PR (binOp .shl 208 t39 t32) fun t41 =>
 A0 PR (binOp .or 208 t33 t41) fun t42 =>
 B9 PR (fun _ => False) (Instr.storeAt 208 t8 t42) <|
 K2 none) t30 (fun j => match j with | none => (J1) | some (.exit i) => (match Nat.beq i 0 with | true => (J1) | false => (H2)) | some .ret => (j9 (R (.tuple #[t6, t7]))) | some _ => H2)) fun J3 =>
 A0 PR (binOp .lss 3 t2 (.int .i64 1)) fun t12 =>
 gj t12 false (fun J => J t2) fun t14 =>
 gj t12 false (fun J => A0 PR (binOp .gtr 3 t14 (.int .i64 8)) J) fun t15 =>
 A0 PR (do pure (if ← asBool t12 then (.bool true) else t15)) fun t16 =>
 gj t16 false (fun J => A6 PR (Instr.loadAt 3 t4) J) fun t18 =>
 gj t16 false (fun J => A0 PR (binOp .lss 3 t18 (.int .i64 0)) J) fun t19 =>
 A0 PR (do pure (if ← asBool t16 then (.bool true) else t19)) fun t20 =>
 gj t20 false (fun J => A6 PR (Instr.loadAt 3 t4) J) fun t22 =>
 gj t20 false (fun J => A6 PR (Instr.loadAt 9 t3) J) fun t23 =>
 gj t20 false (fun J => A0 PR (A8 .len #[9] 0 [t23]) J) fun t24 =>
 gj t20 false (fun J => J t2) fun t25 =>
 gj t20 false (fun J => A0 PR (binOp .sub 3 t24 t25) J) fun t26 =>
 gj t20 false (fun J => A0 PR (binOp .gtr 3 t22 t26) J) fun t27 =>
 A0 PR (do pure (if ← asBool t20 then (.bool true) else t27)) fun t28 =>
 C3 t28 (
 j9 (R (.tuple #[(.int .u64 0), (.bool false)]))) (
 J3 (.int .u64 0) (.bool false))
theorem U0 : A9 PR 144 := A7 Tryz.func144 (by kernel_rfl) rfl
theorem B6p {X : Nat → Prop} {t0 t1 t2 : Value} {R : Value → WP} {w : World} (h : A9q X t0 t1 t2 R w) : Fn PR X 144 #[t0, t1, t2] w R := C4 (args := [t0, t1, t2]) mixed Tryz.func144 (by kernel_rfl) h
def A6s (X : Nat → Prop) (t0 : Value) (R : Value → WP) : WP :=
 B4 PR X (Instr.box 3 t0) fun t1 =>
 A0 PR (Instr.makeFunc (.func 176) #[] #[t1]) fun t3 =>
 R t3
theorem A55 : A9 PR 146 := A7 Tryz.func146 (by kernel_rfl) rfl
theorem B4x {X : Nat → Prop} {t0 : Value} {R : Value → WP} {w : World} (h : A6s X t0 R w) : Fn PR X 146 #[t0] w R := C4 (args := [t0]) mixed Tryz.func146 (by kernel_rfl) h
def A32 (X : Nat → Prop) (t0 t1 : Value) (R : Value → WP) : WP :=
 A6 PR (Instr.loadAt 3 t1) fun t4 =>
 lp (n := 1) (fun L1 t5 =>
 A0 PR (binOp .lss 3 t5 t4) fun t6 =>
 jn (n := 0) (
 jn (n := 0) (
 A0 PR (binOp .add 3 t5 (.int .i64 1)) fun t18 =>
 L1 t18) fun J2 =>
 A6 PR (Instr.loadAt 3 t1) fun t10 =>
 A0 PR (binOp .sub 3 t10 (.int .i64 1)) fun t11 =>
 A0 PR (binOp .sub 3 t11 t5) fun t13 =>
 A0 PR (binOp .mul 3 (.int .i64 8) t13) fun t14 =>
 A0 PR (convert 3 236 t14) fun t15 =>
 M7 PR X t0 [t5, t15] fun t16 =>
 A0 PR (Op.unary .not t16) fun t17 =>
 C3 t17 (
 R (.tuple #[])) (
 J2)) fun J3 =>
 C3 t6 (
 J3) (
 R (.tuple #[]))) (.int .i64 0)
theorem B0E : A9 PR 176 := A7 Tryz.func176 (by kernel_rfl) rfl
theorem B1Y {X : Nat → Prop} {t0 t1 : Value} {R : Value → WP} {w : World} (h : A32 X t0 t1 R w) : Fn PR X 176 #[t0, t1] w R := C4 (args := [t0, t1]) mixed Tryz.func176 (by kernel_rfl) h
theorem B1b {X : Nat → Prop} {t0 t1 : Value} {K : Value → WP} {w : World} (h : Fn PR X 176 #[t0, t1] w K) : A06 PR X 176 [t0, t1] K w := ⟨B0E, h⟩
end Go.Proofs.YtpnidmkaobfhiaaGreat
namespace Go.Proofs.YtpnidmkaobfhiaaGreat
open Go
theorem D1b : TI PR 113 Tryz.t113.desc 1 8 .nilFunc := ⟨Tryz.underlying113, Tryz.t113, by kernel_rfl, rfl, rfl, rfl⟩
theorem C0H : TI PR 136 Tryz.t136.desc 4 32 (.agg #[.nilFunc, .nilFunc, .nilFunc, .nilFunc]) := ⟨Tryz.underlying136, Tryz.t136, by kernel_rfl, rfl, rfl, rfl⟩
theorem A8N : TI PR 152 Tryz.t151.desc 2 48 (.agg #[(.slice none 0 0), (.slice none 0 0)]) := ⟨Tryz.underlying152, Tryz.t152, by kernel_rfl, rfl, rfl, rfl⟩
theorem A2B : TI PR 155 Tryz.t154.desc 4 40 (.agg #[(.int .i64 0), (.string (ByteArray.mk #[])), (.int .i64 0), (.int .i64 0)]) := ⟨Tryz.underlying155, Tryz.t155, by kernel_rfl, rfl, rfl, rfl⟩
theorem B09 : TI PR 170 Tryz.t139.desc 0 0 (.agg #[]) := ⟨Tryz.underlying170, Tryz.t170, by kernel_rfl, rfl, rfl, rfl⟩
theorem A25 : TI PR 190 Tryz.t189.desc 6 64 (.agg #[(.int .i64 0), (.string (ByteArray.mk #[])), (.string (ByteArray.mk #[])), (.int .i64 0), (.int .i64 0), (.int .i64 0)]) := ⟨Tryz.underlying190, Tryz.t190, by kernel_rfl, rfl, rfl, rfl⟩
theorem B22 : TI PR 192 Tryz.t191.desc 7 72 (.agg #[(.int .i64 0), (.string (ByteArray.mk #[])), (.string (ByteArray.mk #[])), (.int .i64 0), (.int .i64 0), (.int .i64 0), (.int .i64 0)]) := ⟨Tryz.underlying192, Tryz.t192, by kernel_rfl, rfl, rfl, rfl⟩
theorem A5g : TI PR 208 Tryz.t208.desc 1 8 (.int .u64 0) := ⟨Tryz.underlying208, Tryz.t208, by kernel_rfl, rfl, rfl, rfl⟩
theorem A8C : TI PR 210 Tryz.t209.desc 2 16 (.agg #[(.int .u64 0), (.int .i64 0)]) := ⟨Tryz.underlying210, Tryz.t210, by kernel_rfl, rfl, rfl, rfl⟩
theorem A8u : TI PR 228 Tryz.t227.desc 3 24 (.agg #[(.int .i64 0), (.int .i64 0), (.int .i64 0)]) := ⟨Tryz.underlying228, Tryz.t228, by kernel_rfl, rfl, rfl, rfl⟩
theorem C1D : TI PR 233 Tryz.t233.desc 38 38 (.agg #[(.int .u8 0), (.int .u8 0), (.int .u8 0), (.int .u8 0), (.int .u8 0), (.int .u8 0), (.int .u8 0), (.int .u8 0), (.int .u8 0), (.int .u8 0), (.int .u8 0), (.int .u8 0), (.int .u8 0), (.int .u8 0), (.int .u8 0), (.int .u8 0), (.int .u8 0), (.int .u8 0), (.int .u8 0), (.int .u8 0), (.int .u8 0), (.int .u8 0), (.int .u8 0), (.int .u8 0), (.int .u8 0), (.int .u8 0), (.int .u8 0), (.int .u8 0), (.int .u8 0), (.int .u8 0), (.int .u8 0), (.int .u8 0), (.int .u8 0), (.int .u8 0), (.int .u8 0), (.int .u8 0), (.int .u8 0), (.int .u8 0)]) := ⟨Tryz.underlying233, Tryz.t233, by kernel_rfl, rfl, rfl, rfl⟩
theorem B06 : TI PR 234 Tryz.t234.desc 1 24 (.slice none 0 0) := ⟨Tryz.underlying234, Tryz.t234, by kernel_rfl, rfl, rfl, rfl⟩
theorem D05 : TI PR 244 Tryz.t244.desc 1 8 .nilFunc := ⟨Tryz.underlying244, Tryz.t244, by kernel_rfl, rfl, rfl, rfl⟩
theorem B1C : TI PR 265 Tryz.t264.desc 3 40 (.agg #[(.string (ByteArray.mk #[])), (.string (ByteArray.mk #[])), (.int .i64 0)]) := ⟨Tryz.underlying265, Tryz.t265, by kernel_rfl, rfl, rfl, rfl⟩
theorem B04 : TI PR 269 Tryz.t264.desc 3 40 (.agg #[(.string (ByteArray.mk #[])), (.string (ByteArray.mk #[])), (.int .i64 0)]) := ⟨Tryz.underlying269, Tryz.t269, by kernel_rfl, rfl, rfl, rfl⟩
theorem C0u : TI PR 289 Tryz.t55.desc 1 24 (.slice none 0 0) := ⟨Tryz.underlying289, Tryz.t289, by kernel_rfl, rfl, rfl, rfl⟩
theorem G9 : TI PR 3 Tryz.t3.desc 1 8 (.int .i64 0) := ⟨Tryz.underlying3, Tryz.t3, by kernel_rfl, rfl, rfl, rfl⟩
theorem B1J : TI PR 306 Tryz.t305.desc 2 16 (.agg #[.nilFunc, (.int .i64 0)]) := ⟨Tryz.underlying306, Tryz.t306, by kernel_rfl, rfl, rfl, rfl⟩
theorem B4J : TI PR 31 Tryz.t3.desc 1 8 (.int .i64 0) := ⟨Tryz.underlying31, Tryz.t31, by kernel_rfl, rfl, rfl, rfl⟩
theorem D1T : TI PR 314 Tryz.t314.desc 1 8 .nilFunc := ⟨Tryz.underlying314, Tryz.t314, by kernel_rfl, rfl, rfl, rfl⟩
theorem C6T : TI PR 316 Tryz.t208.desc 1 8 (.int .u64 0) := ⟨Tryz.underlying316, Tryz.t316, by kernel_rfl, rfl, rfl, rfl⟩
theorem A9x : TI PR 49 Tryz.t48.desc 3 3 (.agg #[(.bool false), (.bool false), (.bool false)]) := ⟨Tryz.underlying49, Tryz.t49, by kernel_rfl, rfl, rfl, rfl⟩
theorem A8v : TI PR 55 Tryz.t55.desc 1 24 (.slice none 0 0) := ⟨Tryz.underlying55, Tryz.t55, by kernel_rfl, rfl, rfl, rfl⟩
theorem A8P : TI PR 57 Tryz.t56.desc 4 32 (.agg #[(.int .i64 0), (.int .i64 0), (.bool false), (.int .i64 0)]) := ⟨Tryz.underlying57, Tryz.t57, by kernel_rfl, rfl, rfl, rfl⟩
theorem B14 : TI PR 83 Tryz.t82.desc 2 16 (.agg #[(.int .i64 0), (.int .i64 0)]) := ⟨Tryz.underlying83, Tryz.t83, by kernel_rfl, rfl, rfl, rfl⟩
theorem A8g : TI PR 91 Tryz.t90.desc 6 48 (.agg #[(.int .i64 0), (.int .i64 0), (.int .i64 0), (.int .i64 0), (.bool false), (.int .i64 0)]) := ⟨Tryz.underlying91, Tryz.t91, by kernel_rfl, rfl, rfl, rfl⟩
theorem D09 : TI PR 150 Tryz.t150.desc 1 24 (.slice none 0 0) := ⟨Tryz.underlying150, Tryz.t150, by kernel_rfl, rfl, rfl, rfl⟩
theorem B6c : TI PR 216 Tryz.t209.desc 2 16 (.agg #[(.int .u64 0), (.int .i64 0)]) := ⟨Tryz.underlying216, Tryz.t216, by kernel_rfl, rfl, rfl, rfl⟩
theorem B6U : TI PR 206 Tryz.t206.desc 1 24 (.slice none 0 0) := ⟨Tryz.underlying206, Tryz.t206, by kernel_rfl, rfl, rfl, rfl⟩
theorem C6C : TI PR 309 Tryz.t309.desc 1 24 (.slice none 0 0) := ⟨Tryz.underlying309, Tryz.t309, by kernel_rfl, rfl, rfl, rfl⟩
theorem ty9 : TI PR 9 Tryz.t9.desc 1 16 (.string (ByteArray.mk #[])) := ⟨Tryz.underlying9, Tryz.t9, by kernel_rfl, rfl, rfl, rfl⟩
theorem B0G : TI PR 36 Tryz.t36.desc 1 24 (.slice none 0 0) := ⟨Tryz.underlying36, Tryz.t36, by kernel_rfl, rfl, rfl, rfl⟩
theorem A8s : TI PR 54 Tryz.t54.desc 1 24 (.slice none 0 0) := ⟨Tryz.underlying54, Tryz.t54, by kernel_rfl, rfl, rfl, rfl⟩
theorem B8L : TI PR 72 Tryz.t72.desc 1 24 (.slice none 0 0) := ⟨Tryz.underlying72, Tryz.t72, by kernel_rfl, rfl, rfl, rfl⟩
theorem B2x : TI PR 101 Tryz.t100.desc 9 88 (.agg #[(.int .i64 0), (.int .i64 0), (.int .i64 0), (.int .i64 0), (.bool false), (.int .i64 0), (.int .i64 0), (.int .i64 0), (.slice none 0 0)]) := ⟨Tryz.underlying101, Tryz.t101, by kernel_rfl, rfl, rfl, rfl⟩
@[simp] theorem C84 {v0 v1 : Value} (h0 : v0.cells.size = 6) (h1 : v1.cells.size = 1) (K : Value → WP) : A0 PR (Instr.build 101 #[(0, v0), (1, v1)]) K = K (.agg (E3 (E3 #[(.int .i64 0), (.int .i64 0), (.int .i64 0), (.int .i64 0), (.bool false), (.int .i64 0), (.int .i64 0), (.int .i64 0), (.slice none 0 0)] 0 v0.cells.toList) 6 v1.cells.toList)) := E0 (pl := #[(0, 6), (6, 1), (7, 1), (8, 1)]) B2x (fun w => by kernel_rfl) (by rw [B8 rfl h0 (by simp [C0]), B8 rfl h1 (by simp [C0])]; rfl)
theorem C5y : TI PR 104 Tryz.t103.desc 6 48 (.agg #[(.int .i64 0), (.int .i64 0), (.int .i64 0), (.int .i64 0), (.bool false), (.int .i64 0)]) := ⟨Tryz.underlying104, Tryz.t104, by kernel_rfl, rfl, rfl, rfl⟩
@[simp] theorem D0d {v0 : Value} (h0 : v0.cells.size = 6) (K : Value → WP) : A0 PR (Instr.build 104 #[(0, v0)]) K = K (.agg (E3 #[(.int .i64 0), (.int .i64 0), (.int .i64 0), (.int .i64 0), (.bool false), (.int .i64 0)] 0 v0.cells.toList)) := E0 (pl := #[(0, 6)]) C5y (fun w => by kernel_rfl) (by rw [B8 rfl h0 (by simp [C0])]; rfl)
theorem C6A : TI PR 106 Tryz.t103.desc 6 48 (.agg #[(.int .i64 0), (.int .i64 0), (.int .i64 0), (.int .i64 0), (.bool false), (.int .i64 0)]) := ⟨Tryz.underlying106, Tryz.t106, by kernel_rfl, rfl, rfl, rfl⟩
@[simp] theorem D02 {v0 : Value} (h0 : v0.cells.size = 6) (K : Value → WP) : A0 PR (Instr.build 106 #[(0, v0)]) K = K (.agg (E3 #[(.int .i64 0), (.int .i64 0), (.int .i64 0), (.int .i64 0), (.bool false), (.int .i64 0)] 0 v0.cells.toList)) := E0 (pl := #[(0, 6)]) C6A (fun w => by kernel_rfl) (by rw [B8 rfl h0 (by simp [C0])]; rfl)
theorem B6f : TI PR 130 Tryz.t129.desc 7 88 (.agg #[(.int .i64 0), (.int .i64 0), (.int .i64 0), (.int .i64 0), (.int .i64 0), (.slice none 0 0), (.slice none 0 0)]) := ⟨Tryz.underlying130, Tryz.t130, by kernel_rfl, rfl, rfl, rfl⟩
@[simp] theorem C8J {v0 v1 : Value} (h0 : v0.cells.size = 5) (h1 : v1.cells.size = 1) (K : Value → WP) : A0 PR (Instr.build 130 #[(0, v0), (2, v1)]) K = K (.agg (E3 (E3 #[(.int .i64 0), (.int .i64 0), (.int .i64 0), (.int .i64 0), (.int .i64 0), (.slice none 0 0), (.slice none 0 0)] 0 v0.cells.toList) 6 v1.cells.toList)) := E0 (pl := #[(0, 5), (5, 1), (6, 1)]) B6f (fun w => by kernel_rfl) (by rw [B8 rfl h0 (by simp [C0]), B8 rfl h1 (by simp [C0])]; rfl)
theorem B6b : TI PR 147 Tryz.t146.desc 3 56 (.agg #[(.int .i64 0), (.slice none 0 0), (.slice none 0 0)]) := ⟨Tryz.underlying147, Tryz.t147, by kernel_rfl, rfl, rfl, rfl⟩
@[simp] theorem C8S {v0 v1 : Value} (h0 : v0.cells.size = 1) (h1 : v1.cells.size = 1) (K : Value → WP) : A0 PR (Instr.build 147 #[(1, v0), (2, v1)]) K = K (.agg (E3 (E3 #[(.int .i64 0), (.slice none 0 0), (.slice none 0 0)] 1 v0.cells.toList) 2 v1.cells.toList)) := E0 (pl := #[(0, 1), (1, 1), (2, 1)]) B6b (fun w => by kernel_rfl) (by rw [B8 rfl h0 (by simp [C0]), B8 rfl h1 (by simp [C0])]; rfl)
@[simp] theorem C87 {v0 v1 : Value} (h0 : v0.cells.size = 1) (h1 : v1.cells.size = 1) (K : Value → WP) : A0 PR (Instr.build 152 #[(0, v0), (1, v1)]) K = K (.agg (E3 (E3 #[(.slice none 0 0), (.slice none 0 0)] 0 v0.cells.toList) 1 v1.cells.toList)) := E0 (pl := #[(0, 1), (1, 1)]) A8N (fun w => by kernel_rfl) (by rw [B8 rfl h0 (by simp [C0]), B8 rfl h1 (by simp [C0])]; rfl)
@[simp] theorem C3u {v0 v1 v2 v3 : Value} (h0 : v0.cells.size = 1) (h1 : v1.cells.size = 1) (h2 : v2.cells.size = 1) (h3 : v3.cells.size = 1) (K : Value → WP) : A0 PR (Instr.build 155 #[(0, v0), (1, v1), (2, v2), (3, v3)]) K = K (.agg (E3 (E3 (E3 (E3 #[(.int .i64 0), (.string (ByteArray.mk #[])), (.int .i64 0), (.int .i64 0)] 0 v0.cells.toList) 1 v1.cells.toList) 2 v2.cells.toList) 3 v3.cells.toList)) := E0 (pl := #[(0, 1), (1, 1), (2, 1), (3, 1)]) A2B (fun w => by kernel_rfl) (by rw [B8 rfl h0 (by simp [C0]), B8 rfl h1 (by simp [C0]), B8 rfl h2 (by simp [C0]), B8 rfl h3 (by simp [C0])]; rfl)
@[simp] theorem D1z {v0 : Value} (h0 : v0.cells.size = 1) (K : Value → WP) : A0 PR (Instr.build 155 #[(0, v0)]) K = K (.agg (E3 #[(.int .i64 0), (.string (ByteArray.mk #[])), (.int .i64 0), (.int .i64 0)] 0 v0.cells.toList)) := E0 (pl := #[(0, 1), (1, 1), (2, 1), (3, 1)]) A2B (fun w => by kernel_rfl) (by rw [B8 rfl h0 (by simp [C0])]; rfl)
theorem C6K : TI PR 162 Tryz.t161.desc 1 24 (.agg #[(.slice none 0 0)]) := ⟨Tryz.underlying162, Tryz.t162, by kernel_rfl, rfl, rfl, rfl⟩
@[simp] theorem D1W {v0 : Value} (h0 : v0.cells.size = 1) (K : Value → WP) : A0 PR (Instr.build 162 #[(0, v0)]) K = K (.agg (E3 #[(.slice none 0 0)] 0 v0.cells.toList)) := E0 (pl := #[(0, 1)]) C6K (fun w => by kernel_rfl) (by rw [B8 rfl h0 (by simp [C0])]; rfl)
theorem A4F : TI PR 164 Tryz.t163.desc 2 16 (.agg #[(.int .i64 0), (.int .i64 0)]) := ⟨Tryz.underlying164, Tryz.t164, by kernel_rfl, rfl, rfl, rfl⟩
@[simp] theorem D3C  (K : Value → WP) : A0 PR (Instr.build 164 #[]) K = K (.agg #[(.int .i64 0), (.int .i64 0)]) := E0 (pl := #[(0, 1), (1, 1)]) A4F (fun w => by kernel_rfl) rfl
@[simp] theorem C80 {v0 v1 : Value} (h0 : v0.cells.size = 1) (h1 : v1.cells.size = 1) (K : Value → WP) : A0 PR (Instr.build 164 #[(0, v0), (1, v1)]) K = K (.agg (E3 (E3 #[(.int .i64 0), (.int .i64 0)] 0 v0.cells.toList) 1 v1.cells.toList)) := E0 (pl := #[(0, 1), (1, 1)]) A4F (fun w => by kernel_rfl) (by rw [B8 rfl h0 (by simp [C0]), B8 rfl h1 (by simp [C0])]; rfl)
@[simp] theorem D0S {v0 : Value} (h0 : v0.cells.size = 1) (K : Value → WP) : A0 PR (Instr.build 164 #[(0, v0)]) K = K (.agg (E3 #[(.int .i64 0), (.int .i64 0)] 0 v0.cells.toList)) := E0 (pl := #[(0, 1), (1, 1)]) A4F (fun w => by kernel_rfl) (by rw [B8 rfl h0 (by simp [C0])]; rfl)
theorem C04 : TI PR 167 Tryz.t166.desc 17 136 (.agg #[(.int .i64 0), (.int .i64 0), (.int .i64 0), (.int .i64 0), (.int .i64 0), (.int .i64 0), (.int .i64 0), (.int .i64 0), (.int .i64 0), (.int .i64 0), (.int .i64 0), (.int .i64 0), (.int .i64 0), (.int .i64 0), (.int .i64 0), (.int .i64 0), (.int .i64 0)]) := ⟨Tryz.underlying167, Tryz.t167, by kernel_rfl, rfl, rfl, rfl⟩
@[simp] theorem C9n {v0 : Value} (h0 : v0.cells.size = 1) (K : Value → WP) : A0 PR (Instr.build 167 #[(1, v0)]) K = K (.agg (E3 #[(.int .i64 0), (.int .i64 0), (.int .i64 0), (.int .i64 0), (.int .i64 0), (.int .i64 0), (.int .i64 0), (.int .i64 0), (.int .i64 0), (.int .i64 0), (.int .i64 0), (.int .i64 0), (.int .i64 0), (.int .i64 0), (.int .i64 0), (.int .i64 0), (.int .i64 0)] 16 v0.cells.toList)) := E0 (pl := #[(0, 16), (16, 1)]) C04 (fun w => by kernel_rfl) (by rw [B8 rfl h0 (by simp [C0])]; rfl)
@[simp] theorem D3U  (K : Value → WP) : A0 PR (Instr.build 170 #[]) K = K (.agg #[]) := E0 (pl := #[]) B09 (fun w => by kernel_rfl) rfl
@[simp] theorem D2V  (K : Value → WP) : A0 PR (Instr.build 190 #[]) K = K (.agg #[(.int .i64 0), (.string (ByteArray.mk #[])), (.string (ByteArray.mk #[])), (.int .i64 0), (.int .i64 0), (.int .i64 0)]) := E0 (pl := #[(0, 1), (1, 1), (2, 1), (3, 1), (4, 1), (5, 1)]) A25 (fun w => by kernel_rfl) rfl
@[simp] theorem C5f {v0 v1 v2 v3 : Value} (h0 : v0.cells.size = 1) (h1 : v1.cells.size = 1) (h2 : v2.cells.size = 1) (h3 : v3.cells.size = 1) (K : Value → WP) : A0 PR (Instr.build 190 #[(0, v0), (1, v1), (2, v2), (5, v3)]) K = K (.agg (E3 (E3 (E3 (E3 #[(.int .i64 0), (.string (ByteArray.mk #[])), (.string (ByteArray.mk #[])), (.int .i64 0), (.int .i64 0), (.int .i64 0)] 0 v0.cells.toList) 1 v1.cells.toList) 2 v2.cells.toList) 5 v3.cells.toList)) := E0 (pl := #[(0, 1), (1, 1), (2, 1), (3, 1), (4, 1), (5, 1)]) A25 (fun w => by kernel_rfl) (by rw [B8 rfl h0 (by simp [C0]), B8 rfl h1 (by simp [C0]), B8 rfl h2 (by simp [C0]), B8 rfl h3 (by simp [C0])]; rfl)
@[simp] theorem D2C  (K : Value → WP) : A0 PR (Instr.build 192 #[]) K = K (.agg #[(.int .i64 0), (.string (ByteArray.mk #[])), (.string (ByteArray.mk #[])), (.int .i64 0), (.int .i64 0), (.int .i64 0), (.int .i64 0)]) := E0 (pl := #[(0, 6), (6, 1)]) B22 (fun w => by kernel_rfl) rfl
@[simp] theorem C8E {v0 v1 : Value} (h0 : v0.cells.size = 6) (h1 : v1.cells.size = 1) (K : Value → WP) : A0 PR (Instr.build 192 #[(0, v0), (1, v1)]) K = K (.agg (E3 (E3 #[(.int .i64 0), (.string (ByteArray.mk #[])), (.string (ByteArray.mk #[])), (.int .i64 0), (.int .i64 0), (.int .i64 0), (.int .i64 0)] 0 v0.cells.toList) 6 v1.cells.toList)) := E0 (pl := #[(0, 6), (6, 1)]) B22 (fun w => by kernel_rfl) (by rw [B8 rfl h0 (by simp [C0]), B8 rfl h1 (by simp [C0])]; rfl)
theorem B2s : TI PR 205 Tryz.t205.desc 2 16 (.agg #[(.int .i64 0), (.int .i64 0)]) := ⟨Tryz.underlying205, Tryz.t205, by kernel_rfl, rfl, rfl, rfl⟩
@[simp] theorem C9F {v0 v1 : Value} (h0 : v0.cells.size = 1) (h1 : v1.cells.size = 1) (K : Value → WP) : A0 PR (Instr.build 210 #[(0, v0), (1, v1)]) K = K (.agg (E3 (E3 #[(.int .u64 0), (.int .i64 0)] 0 v0.cells.toList) 1 v1.cells.toList)) := E0 (pl := #[(0, 1), (1, 1)]) A8C (fun w => by kernel_rfl) (by rw [B8 rfl h0 (by simp [C0]), B8 rfl h1 (by simp [C0])]; rfl)
@[simp] theorem D2y  (K : Value → WP) : A0 PR (Instr.build 228 #[]) K = K (.agg #[(.int .i64 0), (.int .i64 0), (.int .i64 0)]) := E0 (pl := #[(0, 1), (1, 1), (2, 1)]) A8u (fun w => by kernel_rfl) rfl
@[simp] theorem C8a {v0 v1 : Value} (h0 : v0.cells.size = 1) (h1 : v1.cells.size = 1) (K : Value → WP) : A0 PR (Instr.build 228 #[(0, v0), (1, v1)]) K = K (.agg (E3 (E3 #[(.int .i64 0), (.int .i64 0), (.int .i64 0)] 0 v0.cells.toList) 1 v1.cells.toList)) := E0 (pl := #[(0, 1), (1, 1), (2, 1)]) A8u (fun w => by kernel_rfl) (by rw [B8 rfl h0 (by simp [C0]), B8 rfl h1 (by simp [C0])]; rfl)
@[simp] theorem C7v {v0 v1 v2 : Value} (h0 : v0.cells.size = 1) (h1 : v1.cells.size = 1) (h2 : v2.cells.size = 1) (K : Value → WP) : A0 PR (Instr.build 228 #[(0, v0), (1, v1), (2, v2)]) K = K (.agg (E3 (E3 (E3 #[(.int .i64 0), (.int .i64 0), (.int .i64 0)] 0 v0.cells.toList) 1 v1.cells.toList) 2 v2.cells.toList)) := E0 (pl := #[(0, 1), (1, 1), (2, 1)]) A8u (fun w => by kernel_rfl) (by rw [B8 rfl h0 (by simp [C0]), B8 rfl h1 (by simp [C0]), B8 rfl h2 (by simp [C0])]; rfl)
theorem A4Q : TI PR 23 Tryz.t22.desc 5 40 (.agg #[(.int .i64 0), (.int .i64 0), (.int .i64 0), (.int .i64 0), (.int .i64 0)]) := ⟨Tryz.underlying23, Tryz.t23, by kernel_rfl, rfl, rfl, rfl⟩
@[simp] theorem C3g {v0 v1 v2 v3 v4 : Value} (h0 : v0.cells.size = 1) (h1 : v1.cells.size = 1) (h2 : v2.cells.size = 1) (h3 : v3.cells.size = 1) (h4 : v4.cells.size = 1) (K : Value → WP) : A0 PR (Instr.build 23 #[(0, v0), (1, v1), (2, v2), (3, v3), (4, v4)]) K = K (.agg (E3 (E3 (E3 (E3 (E3 #[(.int .i64 0), (.int .i64 0), (.int .i64 0), (.int .i64 0), (.int .i64 0)] 0 v0.cells.toList) 1 v1.cells.toList) 2 v2.cells.toList) 3 v3.cells.toList) 4 v4.cells.toList)) := E0 (pl := #[(0, 1), (1, 1), (2, 1), (3, 1), (4, 1)]) A4Q (fun w => by kernel_rfl) (by rw [B8 rfl h0 (by simp [C0]), B8 rfl h1 (by simp [C0]), B8 rfl h2 (by simp [C0]), B8 rfl h3 (by simp [C0]), B8 rfl h4 (by simp [C0])]; rfl)
@[simp] theorem D2s  (K : Value → WP) : A0 PR (Instr.build 265 #[]) K = K (.agg #[(.string (ByteArray.mk #[])), (.string (ByteArray.mk #[])), (.int .i64 0)]) := E0 (pl := #[(0, 1), (1, 1), (2, 1)]) B1C (fun w => by kernel_rfl) rfl
@[simp] theorem C66 {v0 v1 v2 : Value} (h0 : v0.cells.size = 1) (h1 : v1.cells.size = 1) (h2 : v2.cells.size = 1) (K : Value → WP) : A0 PR (Instr.build 265 #[(0, v0), (1, v1), (2, v2)]) K = K (.agg (E3 (E3 (E3 #[(.string (ByteArray.mk #[])), (.string (ByteArray.mk #[])), (.int .i64 0)] 0 v0.cells.toList) 1 v1.cells.toList) 2 v2.cells.toList)) := E0 (pl := #[(0, 1), (1, 1), (2, 1)]) B1C (fun w => by kernel_rfl) (by rw [B8 rfl h0 (by simp [C0]), B8 rfl h1 (by simp [C0]), B8 rfl h2 (by simp [C0])]; rfl)
@[simp] theorem D2G  (K : Value → WP) : A0 PR (Instr.build 269 #[]) K = K (.agg #[(.string (ByteArray.mk #[])), (.string (ByteArray.mk #[])), (.int .i64 0)]) := E0 (pl := #[(0, 1), (1, 1), (2, 1)]) B04 (fun w => by kernel_rfl) rfl
@[simp] theorem C7K {v0 v1 v2 : Value} (h0 : v0.cells.size = 1) (h1 : v1.cells.size = 1) (h2 : v2.cells.size = 1) (K : Value → WP) : A0 PR (Instr.build 269 #[(0, v0), (1, v1), (2, v2)]) K = K (.agg (E3 (E3 (E3 #[(.string (ByteArray.mk #[])), (.string (ByteArray.mk #[])), (.int .i64 0)] 0 v0.cells.toList) 1 v1.cells.toList) 2 v2.cells.toList)) := E0 (pl := #[(0, 1), (1, 1), (2, 1)]) B04 (fun w => by kernel_rfl) (by rw [B8 rfl h0 (by simp [C0]), B8 rfl h1 (by simp [C0]), B8 rfl h2 (by simp [C0])]; rfl)
@[simp] theorem C8W {v0 v1 : Value} (h0 : v0.cells.size = 1) (h1 : v1.cells.size = 1) (K : Value → WP) : A0 PR (Instr.build 306 #[(0, v0), (1, v1)]) K = K (.agg (E3 (E3 #[.nilFunc, (.int .i64 0)] 0 v0.cells.toList) 1 v1.cells.toList)) := E0 (pl := #[(0, 1), (1, 1)]) B1J (fun w => by kernel_rfl) (by rw [B8 rfl h0 (by simp [C0]), B8 rfl h1 (by simp [C0])]; rfl)
theorem C54 : TI PR 311 Tryz.t139.desc 0 0 (.agg #[]) := ⟨Tryz.underlying311, Tryz.t311, by kernel_rfl, rfl, rfl, rfl⟩
@[simp] theorem D3F  (K : Value → WP) : A0 PR (Instr.build 311 #[]) K = K (.agg #[]) := E0 (pl := #[]) C54 (fun w => by kernel_rfl) rfl
theorem C56 : TI PR 312 Tryz.t139.desc 0 0 (.agg #[]) := ⟨Tryz.underlying312, Tryz.t312, by kernel_rfl, rfl, rfl, rfl⟩
@[simp] theorem D2K  (K : Value → WP) : A0 PR (Instr.build 312 #[]) K = K (.agg #[]) := E0 (pl := #[]) C56 (fun w => by kernel_rfl) rfl
theorem A8L : TI PR 38 Tryz.t37.desc 4 56 (.agg #[(.int .i64 0), (.string (ByteArray.mk #[])), (.slice none 0 0), (.int .i64 0)]) := ⟨Tryz.underlying38, Tryz.t38, by kernel_rfl, rfl, rfl, rfl⟩
@[simp] theorem C9f {v0 v1 : Value} (h0 : v0.cells.size = 1) (h1 : v1.cells.size = 1) (K : Value → WP) : A0 PR (Instr.build 38 #[(0, v0), (2, v1)]) K = K (.agg (E3 (E3 #[(.int .i64 0), (.string (ByteArray.mk #[])), (.slice none 0 0), (.int .i64 0)] 0 v0.cells.toList) 2 v1.cells.toList)) := E0 (pl := #[(0, 1), (1, 1), (2, 1), (3, 1)]) A8L (fun w => by kernel_rfl) (by rw [B8 rfl h0 (by simp [C0]), B8 rfl h1 (by simp [C0])]; rfl)
@[simp] theorem D2A {v0 : Value} (h0 : v0.cells.size = 1) (K : Value → WP) : A0 PR (Instr.build 38 #[(0, v0)]) K = K (.agg (E3 #[(.int .i64 0), (.string (ByteArray.mk #[])), (.slice none 0 0), (.int .i64 0)] 0 v0.cells.toList)) := E0 (pl := #[(0, 1), (1, 1), (2, 1), (3, 1)]) A8L (fun w => by kernel_rfl) (by rw [B8 rfl h0 (by simp [C0])]; rfl)
@[simp] theorem D4j  (K : Value → WP) : A0 PR (Instr.build 49 #[]) K = K (.agg #[(.bool false), (.bool false), (.bool false)]) := E0 (pl := #[(0, 1), (1, 1), (2, 1)]) A9x (fun w => by kernel_rfl) rfl
@[simp] theorem C9e {v0 v1 : Value} (h0 : v0.cells.size = 1) (h1 : v1.cells.size = 1) (K : Value → WP) : A0 PR (Instr.build 49 #[(0, v0), (1, v1)]) K = K (.agg (E3 (E3 #[(.bool false), (.bool false), (.bool false)] 0 v0.cells.toList) 1 v1.cells.toList)) := E0 (pl := #[(0, 1), (1, 1), (2, 1)]) A9x (fun w => by kernel_rfl) (by rw [B8 rfl h0 (by simp [C0]), B8 rfl h1 (by simp [C0])]; rfl)
@[simp] theorem D2d {v0 : Value} (h0 : v0.cells.size = 1) (K : Value → WP) : A0 PR (Instr.build 49 #[(0, v0)]) K = K (.agg (E3 #[(.bool false), (.bool false), (.bool false)] 0 v0.cells.toList)) := E0 (pl := #[(0, 1), (1, 1), (2, 1)]) A9x (fun w => by kernel_rfl) (by rw [B8 rfl h0 (by simp [C0])]; rfl)
@[simp] theorem D25 {v0 : Value} (h0 : v0.cells.size = 1) (K : Value → WP) : A0 PR (Instr.build 49 #[(1, v0)]) K = K (.agg (E3 #[(.bool false), (.bool false), (.bool false)] 1 v0.cells.toList)) := E0 (pl := #[(0, 1), (1, 1), (2, 1)]) A9x (fun w => by kernel_rfl) (by rw [B8 rfl h0 (by simp [C0])]; rfl)
@[simp] theorem D4K  (K : Value → WP) : A0 PR (Instr.build 57 #[]) K = K (.agg #[(.int .i64 0), (.int .i64 0), (.bool false), (.int .i64 0)]) := E0 (pl := #[(0, 1), (1, 1), (2, 1), (3, 1)]) A8P (fun w => by kernel_rfl) rfl
@[simp] theorem D3q {v0 : Value} (h0 : v0.cells.size = 1) (K : Value → WP) : A0 PR (Instr.build 57 #[(0, v0)]) K = K (.agg (E3 #[(.int .i64 0), (.int .i64 0), (.bool false), (.int .i64 0)] 0 v0.cells.toList)) := E0 (pl := #[(0, 1), (1, 1), (2, 1), (3, 1)]) A8P (fun w => by kernel_rfl) (by rw [B8 rfl h0 (by simp [C0])]; rfl)
@[simp] theorem C9V {v0 v1 : Value} (h0 : v0.cells.size = 1) (h1 : v1.cells.size = 1) (K : Value → WP) : A0 PR (Instr.build 57 #[(1, v0), (2, v1)]) K = K (.agg (E3 (E3 #[(.int .i64 0), (.int .i64 0), (.bool false), (.int .i64 0)] 1 v0.cells.toList) 2 v1.cells.toList)) := E0 (pl := #[(0, 1), (1, 1), (2, 1), (3, 1)]) A8P (fun w => by kernel_rfl) (by rw [B8 rfl h0 (by simp [C0]), B8 rfl h1 (by simp [C0])]; rfl)
@[simp] theorem D2Q {v0 : Value} (h0 : v0.cells.size = 1) (K : Value → WP) : A0 PR (Instr.build 57 #[(1, v0)]) K = K (.agg (E3 #[(.int .i64 0), (.int .i64 0), (.bool false), (.int .i64 0)] 1 v0.cells.toList)) := E0 (pl := #[(0, 1), (1, 1), (2, 1), (3, 1)]) A8P (fun w => by kernel_rfl) (by rw [B8 rfl h0 (by simp [C0])]; rfl)
theorem B0N : TI PR 74 Tryz.t73.desc 11 120 (.agg #[(.int .i64 0), (.int .i64 0), (.int .i64 0), (.int .i64 0), (.int .i64 0), (.pointer none), (.pointer none), (.pointer none), (.slice none 0 0), (.slice none 0 0), (.int .i64 0)]) := ⟨Tryz.underlying74, Tryz.t74, by kernel_rfl, rfl, rfl, rfl⟩
@[simp] theorem D21 {v0 : Value} (h0 : v0.cells.size = 5) (K : Value → WP) : A0 PR (Instr.build 74 #[(0, v0)]) K = K (.agg (E3 #[(.int .i64 0), (.int .i64 0), (.int .i64 0), (.int .i64 0), (.int .i64 0), (.pointer none), (.pointer none), (.pointer none), (.slice none 0 0), (.slice none 0 0), (.int .i64 0)] 0 v0.cells.toList)) := E0 (pl := #[(0, 5), (5, 1), (6, 1), (7, 1), (8, 1), (9, 1), (10, 1)]) B0N (fun w => by kernel_rfl) (by rw [B8 rfl h0 (by simp [C0])]; rfl)
@[simp] theorem C9Y {v0 v1 : Value} (h0 : v0.cells.size = 1) (h1 : v1.cells.size = 1) (K : Value → WP) : A0 PR (Instr.build 83 #[(0, v0), (1, v1)]) K = K (.agg (E3 (E3 #[(.int .i64 0), (.int .i64 0)] 0 v0.cells.toList) 1 v1.cells.toList)) := E0 (pl := #[(0, 1), (1, 1)]) B14 (fun w => by kernel_rfl) (by rw [B8 rfl h0 (by simp [C0]), B8 rfl h1 (by simp [C0])]; rfl)
@[simp] theorem D16 {v0 : Value} (h0 : v0.cells.size = 1) (K : Value → WP) : A0 PR (Instr.build 91 #[(0, v0)]) K = K (.agg (E3 #[(.int .i64 0), (.int .i64 0), (.int .i64 0), (.int .i64 0), (.bool false), (.int .i64 0)] 0 v0.cells.toList)) := E0 (pl := #[(0, 1), (1, 1), (2, 4)]) A8g (fun w => by kernel_rfl) (by rw [B8 rfl h0 (by simp [C0])]; rfl)
theorem B47 : TI PR 94 Tryz.t93.desc 10 112 (.agg #[(.int .i64 0), (.int .i64 0), (.int .i64 0), (.int .i64 0), (.bool false), (.int .i64 0), (.slice none 0 0), (.slice none 0 0), (.int .i64 0), (.int .i64 0)]) := ⟨Tryz.underlying94, Tryz.t94, by kernel_rfl, rfl, rfl, rfl⟩
@[simp] theorem C9W {v0 v1 : Value} (h0 : v0.cells.size = 6) (h1 : v1.cells.size = 1) (K : Value → WP) : A0 PR (Instr.build 94 #[(0, v0), (1, v1)]) K = K (.agg (E3 (E3 #[(.int .i64 0), (.int .i64 0), (.int .i64 0), (.int .i64 0), (.bool false), (.int .i64 0), (.slice none 0 0), (.slice none 0 0), (.int .i64 0), (.int .i64 0)] 0 v0.cells.toList) 6 v1.cells.toList)) := E0 (pl := #[(0, 6), (6, 1), (7, 1), (8, 1), (9, 1)]) B47 (fun w => by kernel_rfl) (by rw [B8 rfl h0 (by simp [C0]), B8 rfl h1 (by simp [C0])]; rfl)
theorem C8D : TI PR 98 Tryz.t97.desc 1 16 (.agg #[.nilIface]) := ⟨Tryz.underlying98, Tryz.t98, by kernel_rfl, rfl, rfl, rfl⟩
@[simp] theorem D2E {v0 : Value} (h0 : v0.cells.size = 1) (K : Value → WP) : A0 PR (Instr.build 98 #[(0, v0)]) K = K (.agg (E3 #[.nilIface] 0 v0.cells.toList)) := E0 (pl := #[(0, 1)]) C8D (fun w => by kernel_rfl) (by rw [B8 rfl h0 (by simp [C0])]; rfl)
theorem C0v : TI PR 159 Tryz.t159.desc 1 24 (.slice none 0 0) := ⟨Tryz.underlying159, Tryz.t159, by kernel_rfl, rfl, rfl, rfl⟩
theorem C4r : TI PR 87 Tryz.t87.desc 1 8 .nilFunc := ⟨Tryz.underlying87, Tryz.t87, by kernel_rfl, rfl, rfl, rfl⟩
theorem C0W : TI PR 252 Tryz.t252.desc 1 24 (.slice none 0 0) := ⟨Tryz.underlying252, Tryz.t252, by kernel_rfl, rfl, rfl, rfl⟩
theorem C1P : TI PR 336 Tryz.t336.desc 1 24 (.slice none 0 0) := ⟨Tryz.underlying336, Tryz.t336, by kernel_rfl, rfl, rfl, rfl⟩
@[simp] theorem C94 {k : IntKind} (a : Int) (K : Value → WP) : A0 PR (convert 208 3 (.int k a)) K = K (.int .i64 (IntKind.i64.wrap a)) := A3a G9 A5g
theorem ty5 : TI PR 5 Tryz.t5.desc 1 1 (.int .u8 0) := ⟨Tryz.underlying5, Tryz.t5, by kernel_rfl, rfl, rfl, rfl⟩
@[simp] theorem D0g {k : IntKind} (a : Int) (K : Value → WP) : A0 PR (convert 208 5 (.int k a)) K = K (.int .u8 (IntKind.u8.wrap a)) := A3a ty5 A5g
theorem B9J {K : Value → WP} {w : World} {b o cap : Nat} {ns : List Int} (hr : N6 w b o (ns.map (Value.int .u8))) : A6 PR (convert 234 9 (.slice (some ⟨b, o, none⟩) ns.length cap)) K w = K (.string (A4P ns)) w := D04 B06 ty5 ty9 hr
theorem C6N : TI PR 236 Tryz.t236.desc 1 8 (.int .u64 0) := ⟨Tryz.underlying236, Tryz.t236, by kernel_rfl, rfl, rfl, rfl⟩
@[simp] theorem D1p {k : IntKind} (a : Int) (K : Value → WP) : A0 PR (convert 236 3 (.int k a)) K = K (.int .i64 (IntKind.i64.wrap a)) := A3a G9 C6N
@[simp] theorem D0s {k : IntKind} (a : Int) (K : Value → WP) : A0 PR (convert 3 208 (.int k a)) K = K (.int .u64 (IntKind.u64.wrap a)) := A3a A5g G9
@[simp] theorem D0P {k : IntKind} (a : Int) (K : Value → WP) : A0 PR (convert 3 236 (.int k a)) K = K (.int .u64 (IntKind.u64.wrap a)) := A3a C6N G9
@[simp] theorem D0C {k : IntKind} (a : Int) (K : Value → WP) : A0 PR (convert 5 208 (.int k a)) K = K (.int .u64 (IntKind.u64.wrap a)) := A3a A5g ty5
@[simp] theorem D4Q {k : IntKind} (a : Int) (K : Value → WP) : A0 PR (convert 5 3 (.int k a)) K = K (.int .i64 (IntKind.i64.wrap a)) := A3a G9 ty5
@[simp] theorem D0q {k : IntKind} (a : Int) (K : Value → WP) : A0 PR (convert 5 316 (.int k a)) K = K (.int .u64 (IntKind.u64.wrap a)) := A3a C6T ty5
theorem C6E : TI PR 137 Tryz.t137.desc 1 8 (.pointer none) := ⟨Tryz.underlying137, Tryz.t137, by kernel_rfl, rfl, rfl, rfl⟩
@[simp] theorem C0s (a : Option Addr) (x y : Operand) (K : Value → WP) (w : World) : A6 PR (H6 .eql 137 x y (.pointer a) (.pointer none)) K w = K (.bool a.isNone) w := B1K C6E
@[simp] theorem C1f (a0 b0 : Int) (a1 b1 : Int) (x y : Operand) (K : Value → WP) (w : World) : A6 PR (H6 .eql 164 x y (.agg #[.int .i64 a0, .int .i64 a1]) (.agg #[.int .i64 b0, .int .i64 b1])) K w = K (.bool (decide (a0 = b0) && (decide (a1 = b1) && true))) w := C00 (by kernel_rfl) (A2F (e := 9999) A4F (by kernel_rfl) (P7 rfl G9 rfl rfl rfl (m4 (e := 9998) G9) (P7 rfl G9 rfl rfl rfl (m4 (e := 9998) G9) (A7s))))
theorem C8w : TI PR 30 Tryz.t30.desc 1 8 (.pointer none) := ⟨Tryz.underlying30, Tryz.t30, by kernel_rfl, rfl, rfl, rfl⟩
@[simp] theorem C2H (a : Option Addr) (x y : Operand) (K : Value → WP) (w : World) : A6 PR (H6 .eql 30 x y (.pointer a) (.pointer none)) K w = K (.bool a.isNone) w := B1K C8w
theorem D4g : TI PR 34 Tryz.t34.desc 1 8 (.pointer none) := ⟨Tryz.underlying34, Tryz.t34, by kernel_rfl, rfl, rfl, rfl⟩
@[simp] theorem C1w (a : Option Addr) (x y : Operand) (K : Value → WP) (w : World) : A6 PR (H6 .eql 34 x y (.pointer a) (.pointer none)) K w = K (.bool a.isNone) w := B1K D4g
theorem ty4 : TI PR 4 Tryz.t4.desc 1 1 (.bool false) := ⟨Tryz.underlying4, Tryz.t4, by kernel_rfl, rfl, rfl, rfl⟩
@[simp] theorem C4K (a0 b0 : Bool) (a1 b1 : Bool) (a2 b2 : Bool) (x y : Operand) (K : Value → WP) (w : World) : A6 PR (H6 .eql 49 x y (.agg #[.bool a0, .bool a1, .bool a2]) (.agg #[.bool b0, .bool b1, .bool b2])) K w = K (.bool ((a0 == b0) && ((a1 == b1) && ((a2 == b2) && true)))) w := C00 (by kernel_rfl) (A2F (e := 9999) A9x (by kernel_rfl) (P7 rfl ty4 rfl rfl rfl (A2j (e := 9998) ty4) (P7 rfl ty4 rfl rfl rfl (A2j (e := 9998) ty4) (P7 rfl ty4 rfl rfl rfl (A2j (e := 9998) ty4) (A7s)))))
@[simp] theorem C4T (a0 b0 : Int) (a1 b1 : Int) (a2 b2 : Bool) (a3 b3 : Int) (x y : Operand) (K : Value → WP) (w : World) : A6 PR (H6 .eql 57 x y (.agg #[.int .i64 a0, .int .i64 a1, .bool a2, .int .i64 a3]) (.agg #[.int .i64 b0, .int .i64 b1, .bool b2, .int .i64 b3])) K w = K (.bool (decide (a0 = b0) && (decide (a1 = b1) && ((a2 == b2) && (decide (a3 = b3) && true))))) w := C00 (by kernel_rfl) (A2F (e := 9999) A8P (by kernel_rfl) (P7 rfl B4J rfl rfl rfl (m4 (e := 9998) B4J) (P7 rfl G9 rfl rfl rfl (m4 (e := 9998) G9) (P7 rfl ty4 rfl rfl rfl (A2j (e := 9998) ty4) (P7 rfl G9 rfl rfl rfl (m4 (e := 9998) G9) (A7s))))))
theorem D4Z : TI PR 63 Tryz.t63.desc 1 8 (.pointer none) := ⟨Tryz.underlying63, Tryz.t63, by kernel_rfl, rfl, rfl, rfl⟩
@[simp] theorem C12 (a : Option Addr) (x y : Operand) (K : Value → WP) (w : World) : A6 PR (H6 .eql 63 x y (.pointer a) (.pointer none)) K w = K (.bool a.isNone) w := B1K D4Z
@[simp] theorem C07 (a : Option Addr) (x y : Operand) (K : Value → WP) (w : World) : A6 PR (H6 .neq 137 x y (.pointer a) (.pointer none)) K w = K (.bool (!a.isNone)) w := A7W C6E
@[simp] theorem C1s (a0 b0 : Int) (a1 b1 : ByteArray) (a2 b2 : Int) (a3 b3 : Int) (x y : Operand) (K : Value → WP) (w : World) : A6 PR (H6 .neq 155 x y (.agg #[.int .i64 a0, .string a1, .int .i64 a2, .int .i64 a3]) (.agg #[.int .i64 b0, .string b1, .int .i64 b2, .int .i64 b3])) K w = K (.bool !(decide (a0 = b0) && ((a1 == b1) && (decide (a2 = b2) && (decide (a3 = b3) && true))))) w := C57 (by kernel_rfl) (A2F (e := 9999) A2B (by kernel_rfl) (P7 rfl G9 rfl rfl rfl (m4 (e := 9998) G9) (P7 rfl ty9 rfl rfl rfl (C1Y (e := 9998) ty9) (P7 rfl G9 rfl rfl rfl (m4 (e := 9998) G9) (P7 rfl G9 rfl rfl rfl (m4 (e := 9998) G9) (A7s))))))
@[simp] theorem C2U (a : Option Addr) (x y : Operand) (K : Value → WP) (w : World) : A6 PR (H6 .neq 30 x y (.pointer a) (.pointer none)) K w = K (.bool (!a.isNone)) w := A7W C8w
@[simp] theorem C5T (a0 b0 : Int) (a1 b1 : Int) (a2 b2 : Bool) (a3 b3 : Int) (x y : Operand) (K : Value → WP) (w : World) : A6 PR (H6 .neq 57 x y (.agg #[.int .i64 a0, .int .i64 a1, .bool a2, .int .i64 a3]) (.agg #[.int .i64 b0, .int .i64 b1, .bool b2, .int .i64 b3])) K w = K (.bool !(decide (a0 = b0) && (decide (a1 = b1) && ((a2 == b2) && (decide (a3 = b3) && true))))) w := C57 (by kernel_rfl) (A2F (e := 9999) A8P (by kernel_rfl) (P7 rfl B4J rfl rfl rfl (m4 (e := 9998) B4J) (P7 rfl G9 rfl rfl rfl (m4 (e := 9998) G9) (P7 rfl ty4 rfl rfl rfl (A2j (e := 9998) ty4) (P7 rfl G9 rfl rfl rfl (m4 (e := 9998) G9) (A7s))))))
theorem C3r : TI PR 69 Tryz.t69.desc 1 8 (.pointer none) := ⟨Tryz.underlying69, Tryz.t69, by kernel_rfl, rfl, rfl, rfl⟩
@[simp] theorem C13 (a : Option Addr) (x y : Operand) (K : Value → WP) (w : World) : A6 PR (H6 .neq 69 x y (.pointer a) (.pointer none)) K w = K (.bool (!a.isNone)) w := A7W C3r
theorem C5L : TI PR 70 Tryz.t70.desc 1 8 (.pointer none) := ⟨Tryz.underlying70, Tryz.t70, by kernel_rfl, rfl, rfl, rfl⟩
@[simp] theorem C2W (a : Option Addr) (x y : Operand) (K : Value → WP) (w : World) : A6 PR (H6 .neq 70 x y (.pointer a) (.pointer none)) K w = K (.bool (!a.isNone)) w := A7W C5L
theorem C5r : TI PR 71 Tryz.t71.desc 1 8 (.pointer none) := ⟨Tryz.underlying71, Tryz.t71, by kernel_rfl, rfl, rfl, rfl⟩
@[simp] theorem C26 (a : Option Addr) (x y : Operand) (K : Value → WP) (w : World) : A6 PR (H6 .neq 71 x y (.pointer a) (.pointer none)) K w = K (.bool (!a.isNone)) w := A7W C5r
@[simp] theorem D0w (b o : Nat) (K : Value → WP) : A0 PR (Instr.fieldAt 101 (.pointer (some ⟨b, o, none⟩)) 0) K = K (.pointer (some ⟨b, o, none⟩)) := B3 (i := 0) B2x rfl ⟨_, _, _, _, A8g⟩ b o
@[simp] theorem D1F (b o : Nat) (K : Value → WP) : A0 PR (Instr.fieldAt 101 (.pointer (some ⟨b, o, none⟩)) 1) K = K (.pointer (some ⟨b, o + 6, none⟩)) := B3 (i := 1) B2x rfl ⟨_, _, _, _, G9⟩ b o
@[simp] theorem D1a (b o : Nat) (K : Value → WP) : A0 PR (Instr.fieldAt 101 (.pointer (some ⟨b, o, none⟩)) 2) K = K (.pointer (some ⟨b, o + 7, none⟩)) := B3 (i := 2) B2x rfl ⟨_, _, _, _, G9⟩ b o
@[simp] theorem C9r (b o : Nat) (K : Value → WP) : A0 PR (Instr.fieldAt 101 (.pointer (some ⟨b, o, none⟩)) 3) K = K (.pointer (some ⟨b, o + 8, none⟩)) := B3 (i := 3) B2x rfl ⟨_, _, _, _, A8v⟩ b o
@[simp] theorem D1D (b o : Nat) (K : Value → WP) : A0 PR (Instr.fieldAt 104 (.pointer (some ⟨b, o, none⟩)) 0) K = K (.pointer (some ⟨b, o, none⟩)) := B3 (i := 0) C5y rfl ⟨_, _, _, _, A8g⟩ b o
@[simp] theorem D0D (b o : Nat) (K : Value → WP) : A0 PR (Instr.fieldAt 106 (.pointer (some ⟨b, o, none⟩)) 0) K = K (.pointer (some ⟨b, o, none⟩)) := B3 (i := 0) C6A rfl ⟨_, _, _, _, A8g⟩ b o
@[simp] theorem D1N (b o : Nat) (K : Value → WP) : A0 PR (Instr.fieldAt 130 (.pointer (some ⟨b, o, none⟩)) 0) K = K (.pointer (some ⟨b, o, none⟩)) := B3 (i := 0) B6f rfl ⟨_, _, _, _, A4Q⟩ b o
@[simp] theorem D1G (b o : Nat) (K : Value → WP) : A0 PR (Instr.fieldAt 130 (.pointer (some ⟨b, o, none⟩)) 1) K = K (.pointer (some ⟨b, o + 5, none⟩)) := B3 (i := 1) B6f rfl ⟨_, _, _, _, B0G⟩ b o
theorem B3Q : TI PR 128 Tryz.t128.desc 1 24 (.slice none 0 0) := ⟨Tryz.underlying128, Tryz.t128, by kernel_rfl, rfl, rfl, rfl⟩
@[simp] theorem C9y (b o : Nat) (K : Value → WP) : A0 PR (Instr.fieldAt 130 (.pointer (some ⟨b, o, none⟩)) 2) K = K (.pointer (some ⟨b, o + 6, none⟩)) := B3 (i := 2) B6f rfl ⟨_, _, _, _, B3Q⟩ b o
theorem C5w : TI PR 132 Tryz.t131.desc 1 24 (.agg #[(.slice none 0 0)]) := ⟨Tryz.underlying132, Tryz.t132, by kernel_rfl, rfl, rfl, rfl⟩
@[simp] theorem C93 (b o : Nat) (K : Value → WP) : A0 PR (Instr.fieldAt 132 (.pointer (some ⟨b, o, none⟩)) 0) K = K (.pointer (some ⟨b, o, none⟩)) := B3 (i := 0) C5w rfl ⟨_, _, _, _, A8v⟩ b o
theorem B6V : TI PR 134 Tryz.t133.desc 2 32 (.agg #[(.slice none 0 0), (.int .i64 0)]) := ⟨Tryz.underlying134, Tryz.t134, by kernel_rfl, rfl, rfl, rfl⟩
@[simp] theorem D0L (b o : Nat) (K : Value → WP) : A0 PR (Instr.fieldAt 134 (.pointer (some ⟨b, o, none⟩)) 0) K = K (.pointer (some ⟨b, o, none⟩)) := B3 (i := 0) B6V rfl ⟨_, _, _, _, C5w⟩ b o
@[simp] theorem D1M (b o : Nat) (K : Value → WP) : A0 PR (Instr.fieldAt 134 (.pointer (some ⟨b, o, none⟩)) 1) K = K (.pointer (some ⟨b, o + 1, none⟩)) := B3 (i := 1) B6V rfl ⟨_, _, _, _, G9⟩ b o
theorem C59 : TI PR 143 Tryz.t142.desc 1 8 (.agg #[(.int .i64 0)]) := ⟨Tryz.underlying143, Tryz.t143, by kernel_rfl, rfl, rfl, rfl⟩
theorem ty2 : TI PR 2 Tryz.t2.desc 1 8 (.int .i64 0) := ⟨Tryz.underlying2, Tryz.t2, by kernel_rfl, rfl, rfl, rfl⟩
@[simp] theorem C95 (b o : Nat) (K : Value → WP) : A0 PR (Instr.fieldAt 143 (.pointer (some ⟨b, o, none⟩)) 2) K = K (.pointer (some ⟨b, o, none⟩)) := B3 (i := 2) C59 rfl ⟨_, _, _, _, ty2⟩ b o
theorem C6V : TI PR 145 Tryz.t144.desc 1 8 (.agg #[(.int .i64 0)]) := ⟨Tryz.underlying145, Tryz.t145, by kernel_rfl, rfl, rfl, rfl⟩
@[simp] theorem D1l (b o : Nat) (K : Value → WP) : A0 PR (Instr.fieldAt 145 (.pointer (some ⟨b, o, none⟩)) 0) K = K (.pointer (some ⟨b, o, none⟩)) := B3 (i := 0) C6V rfl ⟨_, _, _, _, C59⟩ b o
@[simp] theorem D0y (b o : Nat) (K : Value → WP) : A0 PR (Instr.fieldAt 147 (.pointer (some ⟨b, o, none⟩)) 0) K = K (.pointer (some ⟨b, o, none⟩)) := B3 (i := 0) B6b rfl ⟨_, _, _, _, C6V⟩ b o
@[simp] theorem C9w (b o : Nat) (K : Value → WP) : A0 PR (Instr.fieldAt 147 (.pointer (some ⟨b, o, none⟩)) 1) K = K (.pointer (some ⟨b, o + 1, none⟩)) := B3 (i := 1) B6b rfl ⟨_, _, _, _, A8s⟩ b o
@[simp] theorem D0z (b o : Nat) (K : Value → WP) : A0 PR (Instr.fieldAt 147 (.pointer (some ⟨b, o, none⟩)) 2) K = K (.pointer (some ⟨b, o + 2, none⟩)) := B3 (i := 2) B6b rfl ⟨_, _, _, _, A8s⟩ b o
theorem C1J : TI PR 149 Tryz.t36.desc 1 24 (.slice none 0 0) := ⟨Tryz.underlying149, Tryz.t149, by kernel_rfl, rfl, rfl, rfl⟩
@[simp] theorem D1u (b o : Nat) (K : Value → WP) : A0 PR (Instr.fieldAt 152 (.pointer (some ⟨b, o, none⟩)) 0) K = K (.pointer (some ⟨b, o, none⟩)) := B3 (i := 0) A8N rfl ⟨_, _, _, _, C1J⟩ b o
@[simp] theorem D0Y (b o : Nat) (K : Value → WP) : A0 PR (Instr.fieldAt 155 (.pointer (some ⟨b, o, none⟩)) 0) K = K (.pointer (some ⟨b, o, none⟩)) := B3 (i := 0) A2B rfl ⟨_, _, _, _, G9⟩ b o
@[simp] theorem C99 (b o : Nat) (K : Value → WP) : A0 PR (Instr.fieldAt 155 (.pointer (some ⟨b, o, none⟩)) 1) K = K (.pointer (some ⟨b, o + 1, none⟩)) := B3 (i := 1) A2B rfl ⟨_, _, _, _, ty9⟩ b o
@[simp] theorem D0n (b o : Nat) (K : Value → WP) : A0 PR (Instr.fieldAt 155 (.pointer (some ⟨b, o, none⟩)) 2) K = K (.pointer (some ⟨b, o + 2, none⟩)) := B3 (i := 2) A2B rfl ⟨_, _, _, _, G9⟩ b o
@[simp] theorem D06 (b o : Nat) (K : Value → WP) : A0 PR (Instr.fieldAt 155 (.pointer (some ⟨b, o, none⟩)) 3) K = K (.pointer (some ⟨b, o + 3, none⟩)) := B3 (i := 3) A2B rfl ⟨_, _, _, _, G9⟩ b o
theorem B3s : TI PR 160 Tryz.t160.desc 1 24 (.slice none 0 0) := ⟨Tryz.underlying160, Tryz.t160, by kernel_rfl, rfl, rfl, rfl⟩
@[simp] theorem D1J (b o : Nat) (K : Value → WP) : A0 PR (Instr.fieldAt 162 (.pointer (some ⟨b, o, none⟩)) 0) K = K (.pointer (some ⟨b, o, none⟩)) := B3 (i := 0) C6K rfl ⟨_, _, _, _, B3s⟩ b o
@[simp] theorem D1s (b o : Nat) (K : Value → WP) : A0 PR (Instr.fieldAt 164 (.pointer (some ⟨b, o, none⟩)) 0) K = K (.pointer (some ⟨b, o, none⟩)) := B3 (i := 0) A4F rfl ⟨_, _, _, _, G9⟩ b o
@[simp] theorem D0p (b o : Nat) (K : Value → WP) : A0 PR (Instr.fieldAt 164 (.pointer (some ⟨b, o, none⟩)) 1) K = K (.pointer (some ⟨b, o + 1, none⟩)) := B3 (i := 1) A4F rfl ⟨_, _, _, _, G9⟩ b o
theorem C05 : TI PR 165 Tryz.t165.desc 16 128 (.agg #[(.int .i64 0), (.int .i64 0), (.int .i64 0), (.int .i64 0), (.int .i64 0), (.int .i64 0), (.int .i64 0), (.int .i64 0), (.int .i64 0), (.int .i64 0), (.int .i64 0), (.int .i64 0), (.int .i64 0), (.int .i64 0), (.int .i64 0), (.int .i64 0)]) := ⟨Tryz.underlying165, Tryz.t165, by kernel_rfl, rfl, rfl, rfl⟩
@[simp] theorem D0r (b o : Nat) (K : Value → WP) : A0 PR (Instr.fieldAt 167 (.pointer (some ⟨b, o, none⟩)) 0) K = K (.pointer (some ⟨b, o, none⟩)) := B3 (i := 0) C04 rfl ⟨_, _, _, _, C05⟩ b o
@[simp] theorem D11 (b o : Nat) (K : Value → WP) : A0 PR (Instr.fieldAt 167 (.pointer (some ⟨b, o, none⟩)) 1) K = K (.pointer (some ⟨b, o + 16, none⟩)) := B3 (i := 1) C04 rfl ⟨_, _, _, _, G9⟩ b o
@[simp] theorem D1g (b o : Nat) (K : Value → WP) : A0 PR (Instr.fieldAt 190 (.pointer (some ⟨b, o, none⟩)) 0) K = K (.pointer (some ⟨b, o, none⟩)) := B3 (i := 0) A25 rfl ⟨_, _, _, _, G9⟩ b o
@[simp] theorem D1P (b o : Nat) (K : Value → WP) : A0 PR (Instr.fieldAt 190 (.pointer (some ⟨b, o, none⟩)) 1) K = K (.pointer (some ⟨b, o + 1, none⟩)) := B3 (i := 1) A25 rfl ⟨_, _, _, _, ty9⟩ b o
@[simp] theorem D1Y (b o : Nat) (K : Value → WP) : A0 PR (Instr.fieldAt 190 (.pointer (some ⟨b, o, none⟩)) 2) K = K (.pointer (some ⟨b, o + 2, none⟩)) := B3 (i := 2) A25 rfl ⟨_, _, _, _, ty9⟩ b o
@[simp] theorem D0E (b o : Nat) (K : Value → WP) : A0 PR (Instr.fieldAt 190 (.pointer (some ⟨b, o, none⟩)) 3) K = K (.pointer (some ⟨b, o + 3, none⟩)) := B3 (i := 3) A25 rfl ⟨_, _, _, _, G9⟩ b o
@[simp] theorem D0K (b o : Nat) (K : Value → WP) : A0 PR (Instr.fieldAt 190 (.pointer (some ⟨b, o, none⟩)) 4) K = K (.pointer (some ⟨b, o + 4, none⟩)) := B3 (i := 4) A25 rfl ⟨_, _, _, _, G9⟩ b o
@[simp] theorem D1q (b o : Nat) (K : Value → WP) : A0 PR (Instr.fieldAt 190 (.pointer (some ⟨b, o, none⟩)) 5) K = K (.pointer (some ⟨b, o + 5, none⟩)) := B3 (i := 5) A25 rfl ⟨_, _, _, _, G9⟩ b o
@[simp] theorem D1n (b o : Nat) (K : Value → WP) : A0 PR (Instr.fieldAt 192 (.pointer (some ⟨b, o, none⟩)) 0) K = K (.pointer (some ⟨b, o, none⟩)) := B3 (i := 0) B22 rfl ⟨_, _, _, _, A25⟩ b o
@[simp] theorem D0M (b o : Nat) (K : Value → WP) : A0 PR (Instr.fieldAt 192 (.pointer (some ⟨b, o, none⟩)) 1) K = K (.pointer (some ⟨b, o + 6, none⟩)) := B3 (i := 1) B22 rfl ⟨_, _, _, _, G9⟩ b o
@[simp] theorem D0A (b o : Nat) (K : Value → WP) : A0 PR (Instr.fieldAt 210 (.pointer (some ⟨b, o, none⟩)) 0) K = K (.pointer (some ⟨b, o, none⟩)) := B3 (i := 0) A8C rfl ⟨_, _, _, _, A5g⟩ b o
@[simp] theorem D07 (b o : Nat) (K : Value → WP) : A0 PR (Instr.fieldAt 210 (.pointer (some ⟨b, o, none⟩)) 1) K = K (.pointer (some ⟨b, o + 1, none⟩)) := B3 (i := 1) A8C rfl ⟨_, _, _, _, G9⟩ b o
@[simp] theorem C9m (b o : Nat) (K : Value → WP) : A0 PR (Instr.fieldAt 216 (.pointer (some ⟨b, o, none⟩)) 0) K = K (.pointer (some ⟨b, o, none⟩)) := B3 (i := 0) B6c rfl ⟨_, _, _, _, A5g⟩ b o
@[simp] theorem D0u (b o : Nat) (K : Value → WP) : A0 PR (Instr.fieldAt 216 (.pointer (some ⟨b, o, none⟩)) 1) K = K (.pointer (some ⟨b, o + 1, none⟩)) := B3 (i := 1) B6c rfl ⟨_, _, _, _, G9⟩ b o
@[simp] theorem D0G (b o : Nat) (K : Value → WP) : A0 PR (Instr.fieldAt 228 (.pointer (some ⟨b, o, none⟩)) 0) K = K (.pointer (some ⟨b, o, none⟩)) := B3 (i := 0) A8u rfl ⟨_, _, _, _, G9⟩ b o
@[simp] theorem D0e (b o : Nat) (K : Value → WP) : A0 PR (Instr.fieldAt 228 (.pointer (some ⟨b, o, none⟩)) 1) K = K (.pointer (some ⟨b, o + 1, none⟩)) := B3 (i := 1) A8u rfl ⟨_, _, _, _, G9⟩ b o
@[simp] theorem D1B (b o : Nat) (K : Value → WP) : A0 PR (Instr.fieldAt 228 (.pointer (some ⟨b, o, none⟩)) 2) K = K (.pointer (some ⟨b, o + 2, none⟩)) := B3 (i := 2) A8u rfl ⟨_, _, _, _, G9⟩ b o
@[simp] theorem D2j (b o : Nat) (K : Value → WP) : A0 PR (Instr.fieldAt 23 (.pointer (some ⟨b, o, none⟩)) 0) K = K (.pointer (some ⟨b, o, none⟩)) := B3 (i := 0) A4Q rfl ⟨_, _, _, _, G9⟩ b o
@[simp] theorem D3c (b o : Nat) (K : Value → WP) : A0 PR (Instr.fieldAt 23 (.pointer (some ⟨b, o, none⟩)) 1) K = K (.pointer (some ⟨b, o + 1, none⟩)) := B3 (i := 1) A4Q rfl ⟨_, _, _, _, G9⟩ b o
@[simp] theorem D3k (b o : Nat) (K : Value → WP) : A0 PR (Instr.fieldAt 23 (.pointer (some ⟨b, o, none⟩)) 2) K = K (.pointer (some ⟨b, o + 2, none⟩)) := B3 (i := 2) A4Q rfl ⟨_, _, _, _, G9⟩ b o
@[simp] theorem D2T (b o : Nat) (K : Value → WP) : A0 PR (Instr.fieldAt 23 (.pointer (some ⟨b, o, none⟩)) 3) K = K (.pointer (some ⟨b, o + 3, none⟩)) := B3 (i := 3) A4Q rfl ⟨_, _, _, _, G9⟩ b o
@[simp] theorem D2k (b o : Nat) (K : Value → WP) : A0 PR (Instr.fieldAt 23 (.pointer (some ⟨b, o, none⟩)) 4) K = K (.pointer (some ⟨b, o + 4, none⟩)) := B3 (i := 4) A4Q rfl ⟨_, _, _, _, G9⟩ b o
@[simp] theorem D1C (b o : Nat) (K : Value → WP) : A0 PR (Instr.fieldAt 265 (.pointer (some ⟨b, o, none⟩)) 0) K = K (.pointer (some ⟨b, o, none⟩)) := B3 (i := 0) B1C rfl ⟨_, _, _, _, ty9⟩ b o
@[simp] theorem D0b (b o : Nat) (K : Value → WP) : A0 PR (Instr.fieldAt 265 (.pointer (some ⟨b, o, none⟩)) 1) K = K (.pointer (some ⟨b, o + 1, none⟩)) := B3 (i := 1) B1C rfl ⟨_, _, _, _, ty9⟩ b o
@[simp] theorem D0j (b o : Nat) (K : Value → WP) : A0 PR (Instr.fieldAt 265 (.pointer (some ⟨b, o, none⟩)) 2) K = K (.pointer (some ⟨b, o + 2, none⟩)) := B3 (i := 2) B1C rfl ⟨_, _, _, _, G9⟩ b o
@[simp] theorem D1E (b o : Nat) (K : Value → WP) : A0 PR (Instr.fieldAt 269 (.pointer (some ⟨b, o, none⟩)) 0) K = K (.pointer (some ⟨b, o, none⟩)) := B3 (i := 0) B04 rfl ⟨_, _, _, _, ty9⟩ b o
@[simp] theorem C91 (b o : Nat) (K : Value → WP) : A0 PR (Instr.fieldAt 269 (.pointer (some ⟨b, o, none⟩)) 1) K = K (.pointer (some ⟨b, o + 1, none⟩)) := B3 (i := 1) B04 rfl ⟨_, _, _, _, ty9⟩ b o
@[simp] theorem D1K (b o : Nat) (K : Value → WP) : A0 PR (Instr.fieldAt 269 (.pointer (some ⟨b, o, none⟩)) 2) K = K (.pointer (some ⟨b, o + 2, none⟩)) := B3 (i := 2) B04 rfl ⟨_, _, _, _, G9⟩ b o
theorem C8x : TI PR 26 Tryz.t26.desc 1 8 .nilFunc := ⟨Tryz.underlying26, Tryz.t26, by kernel_rfl, rfl, rfl, rfl⟩
@[simp] theorem D0v (b o : Nat) (K : Value → WP) : A0 PR (Instr.fieldAt 306 (.pointer (some ⟨b, o, none⟩)) 0) K = K (.pointer (some ⟨b, o, none⟩)) := B3 (i := 0) B1J rfl ⟨_, _, _, _, C8x⟩ b o
@[simp] theorem C92 (b o : Nat) (K : Value → WP) : A0 PR (Instr.fieldAt 306 (.pointer (some ⟨b, o, none⟩)) 1) K = K (.pointer (some ⟨b, o + 1, none⟩)) := B3 (i := 1) B1J rfl ⟨_, _, _, _, B4J⟩ b o
@[simp] theorem D3e (b o : Nat) (K : Value → WP) : A0 PR (Instr.fieldAt 38 (.pointer (some ⟨b, o, none⟩)) 0) K = K (.pointer (some ⟨b, o, none⟩)) := B3 (i := 0) A8L rfl ⟨_, _, _, _, G9⟩ b o
@[simp] theorem D3H (b o : Nat) (K : Value → WP) : A0 PR (Instr.fieldAt 38 (.pointer (some ⟨b, o, none⟩)) 1) K = K (.pointer (some ⟨b, o + 1, none⟩)) := B3 (i := 1) A8L rfl ⟨_, _, _, _, ty9⟩ b o
@[simp] theorem D24 (b o : Nat) (K : Value → WP) : A0 PR (Instr.fieldAt 38 (.pointer (some ⟨b, o, none⟩)) 2) K = K (.pointer (some ⟨b, o + 2, none⟩)) := B3 (i := 2) A8L rfl ⟨_, _, _, _, B0G⟩ b o
@[simp] theorem D2p (b o : Nat) (K : Value → WP) : A0 PR (Instr.fieldAt 38 (.pointer (some ⟨b, o, none⟩)) 3) K = K (.pointer (some ⟨b, o + 3, none⟩)) := B3 (i := 3) A8L rfl ⟨_, _, _, _, G9⟩ b o
@[simp] theorem D2L (b o : Nat) (K : Value → WP) : A0 PR (Instr.fieldAt 49 (.pointer (some ⟨b, o, none⟩)) 0) K = K (.pointer (some ⟨b, o, none⟩)) := B3 (i := 0) A9x rfl ⟨_, _, _, _, ty4⟩ b o
@[simp] theorem D3K (b o : Nat) (K : Value → WP) : A0 PR (Instr.fieldAt 49 (.pointer (some ⟨b, o, none⟩)) 2) K = K (.pointer (some ⟨b, o + 2, none⟩)) := B3 (i := 2) A9x rfl ⟨_, _, _, _, ty4⟩ b o
@[simp] theorem D27 (b o : Nat) (K : Value → WP) : A0 PR (Instr.fieldAt 57 (.pointer (some ⟨b, o, none⟩)) 3) K = K (.pointer (some ⟨b, o + 3, none⟩)) := B3 (i := 3) A8P rfl ⟨_, _, _, _, G9⟩ b o
@[simp] theorem D3W (b o : Nat) (K : Value → WP) : A0 PR (Instr.fieldAt 74 (.pointer (some ⟨b, o, none⟩)) 0) K = K (.pointer (some ⟨b, o, none⟩)) := B3 (i := 0) B0N rfl ⟨_, _, _, _, A4Q⟩ b o
@[simp] theorem D2r (b o : Nat) (K : Value → WP) : A0 PR (Instr.fieldAt 74 (.pointer (some ⟨b, o, none⟩)) 1) K = K (.pointer (some ⟨b, o + 5, none⟩)) := B3 (i := 1) B0N rfl ⟨_, _, _, _, C3r⟩ b o
@[simp] theorem D2W (b o : Nat) (K : Value → WP) : A0 PR (Instr.fieldAt 74 (.pointer (some ⟨b, o, none⟩)) 2) K = K (.pointer (some ⟨b, o + 6, none⟩)) := B3 (i := 2) B0N rfl ⟨_, _, _, _, C5L⟩ b o
@[simp] theorem D2c (b o : Nat) (K : Value → WP) : A0 PR (Instr.fieldAt 74 (.pointer (some ⟨b, o, none⟩)) 3) K = K (.pointer (some ⟨b, o + 7, none⟩)) := B3 (i := 3) B0N rfl ⟨_, _, _, _, C5r⟩ b o
@[simp] theorem D2M (b o : Nat) (K : Value → WP) : A0 PR (Instr.fieldAt 74 (.pointer (some ⟨b, o, none⟩)) 4) K = K (.pointer (some ⟨b, o + 8, none⟩)) := B3 (i := 4) B0N rfl ⟨_, _, _, _, B8L⟩ b o
@[simp] theorem D3u (b o : Nat) (K : Value → WP) : A0 PR (Instr.fieldAt 74 (.pointer (some ⟨b, o, none⟩)) 5) K = K (.pointer (some ⟨b, o + 9, none⟩)) := B3 (i := 5) B0N rfl ⟨_, _, _, _, A8s⟩ b o
@[simp] theorem D3L (b o : Nat) (K : Value → WP) : A0 PR (Instr.fieldAt 74 (.pointer (some ⟨b, o, none⟩)) 6) K = K (.pointer (some ⟨b, o + 10, none⟩)) := B3 (i := 6) B0N rfl ⟨_, _, _, _, G9⟩ b o
@[simp] theorem D2n (b o : Nat) (K : Value → WP) : A0 PR (Instr.fieldAt 83 (.pointer (some ⟨b, o, none⟩)) 0) K = K (.pointer (some ⟨b, o, none⟩)) := B3 (i := 0) B14 rfl ⟨_, _, _, _, G9⟩ b o
@[simp] theorem D18 (b o : Nat) (K : Value → WP) : A0 PR (Instr.fieldAt 83 (.pointer (some ⟨b, o, none⟩)) 1) K = K (.pointer (some ⟨b, o + 1, none⟩)) := B3 (i := 1) B14 rfl ⟨_, _, _, _, G9⟩ b o
@[simp] theorem D2F (b o : Nat) (K : Value → WP) : A0 PR (Instr.fieldAt 91 (.pointer (some ⟨b, o, none⟩)) 0) K = K (.pointer (some ⟨b, o, none⟩)) := B3 (i := 0) A8g rfl ⟨_, _, _, _, G9⟩ b o
@[simp] theorem D2Y (b o : Nat) (K : Value → WP) : A0 PR (Instr.fieldAt 91 (.pointer (some ⟨b, o, none⟩)) 1) K = K (.pointer (some ⟨b, o + 1, none⟩)) := B3 (i := 1) A8g rfl ⟨_, _, _, _, G9⟩ b o
@[simp] theorem D22 (b o : Nat) (K : Value → WP) : A0 PR (Instr.fieldAt 91 (.pointer (some ⟨b, o, none⟩)) 2) K = K (.pointer (some ⟨b, o + 2, none⟩)) := B3 (i := 2) A8g rfl ⟨_, _, _, _, A8P⟩ b o
@[simp] theorem D3Z (b o : Nat) (K : Value → WP) : A0 PR (Instr.fieldAt 94 (.pointer (some ⟨b, o, none⟩)) 0) K = K (.pointer (some ⟨b, o, none⟩)) := B3 (i := 0) B47 rfl ⟨_, _, _, _, A8g⟩ b o
@[simp] theorem D3Q (b o : Nat) (K : Value → WP) : A0 PR (Instr.fieldAt 94 (.pointer (some ⟨b, o, none⟩)) 1) K = K (.pointer (some ⟨b, o + 6, none⟩)) := B3 (i := 1) B47 rfl ⟨_, _, _, _, B0G⟩ b o
@[simp] theorem D2b (b o : Nat) (K : Value → WP) : A0 PR (Instr.fieldAt 94 (.pointer (some ⟨b, o, none⟩)) 2) K = K (.pointer (some ⟨b, o + 7, none⟩)) := B3 (i := 2) B47 rfl ⟨_, _, _, _, A8s⟩ b o
@[simp] theorem D2B (b o : Nat) (K : Value → WP) : A0 PR (Instr.fieldAt 94 (.pointer (some ⟨b, o, none⟩)) 3) K = K (.pointer (some ⟨b, o + 8, none⟩)) := B3 (i := 3) B47 rfl ⟨_, _, _, _, G9⟩ b o
@[simp] theorem D13 (b o : Nat) (K : Value → WP) : A0 PR (Instr.fieldAt 94 (.pointer (some ⟨b, o, none⟩)) 4) K = K (.pointer (some ⟨b, o + 9, none⟩)) := B3 (i := 4) B47 rfl ⟨_, _, _, _, G9⟩ b o
theorem C9D : TI PR 96 Tryz.t95.desc 1 16 .nilIface := ⟨Tryz.underlying96, Tryz.t96, by kernel_rfl, rfl, rfl, rfl⟩
@[simp] theorem D3N (b o : Nat) (K : Value → WP) : A0 PR (Instr.fieldAt 98 (.pointer (some ⟨b, o, none⟩)) 0) K = K (.pointer (some ⟨b, o, none⟩)) := B3 (i := 0) C8D rfl ⟨_, _, _, _, C9D⟩ b o
theorem g6 {k1 : IntKind} {i : Int} {s : ByteArray} {b : UInt8} (h0 : 0 ≤ i) (h1 : s[i.toNat]? = some b) (K : Value → WP) : A0 PR (Instr.index 9 (.string s) (.int k1 i)) K = K (.int .u8 b.toNat) := C5K ty9 h0 h1
@[simp] theorem D37 {k : IntKind} {i : Int} {len cap : Nat} (h0 : 0 ≤ i) (h1 : i < len) (b o : Nat) (K : Value → WP) : A0 PR (Instr.indexAt 128 (.slice (some ⟨b, o, none⟩) len cap) (.int k i)) K = K (.pointer (some ⟨b, o + i.toNat * 2, none⟩)) := (P5 (K := K) B3Q B6V h0 h1 b o)
theorem C0n : TI PR 135 Tryz.t135.desc 1 8 .nilFunc := ⟨Tryz.underlying135, Tryz.t135, by kernel_rfl, rfl, rfl, rfl⟩
@[simp] theorem D39 {k : IntKind} {i : Int} (h0 : 0 ≤ i) (h1 : i < (4 : Nat)) (b o : Nat) (K : Value → WP) : A0 PR (Instr.indexAt 136 (.pointer (some ⟨b, o, none⟩)) (.int k i)) K = K (.pointer (some ⟨b, o + i.toNat, none⟩)) := (by simpa using A8b (K := K) C0H C0n h0 h1 b o)
@[simp] theorem D32 {k : IntKind} {i : Int} {len cap : Nat} (h0 : 0 ≤ i) (h1 : i < len) (b o : Nat) (K : Value → WP) : A0 PR (Instr.indexAt 159 (.slice (some ⟨b, o, none⟩) len cap) (.int k i)) K = K (.pointer (some ⟨b, o + i.toNat, none⟩)) := (by simpa using P5 (K := K) C0v C4r h0 h1 b o)
theorem C0E : TI PR 174 Tryz.t173.desc 1 16 .nilIface := ⟨Tryz.underlying174, Tryz.t174, by kernel_rfl, rfl, rfl, rfl⟩
@[simp] theorem D4B {k : IntKind} {i : Int} {len cap : Nat} (h0 : 0 ≤ i) (h1 : i < len) (b o : Nat) (K : Value → WP) : A0 PR (Instr.indexAt 160 (.slice (some ⟨b, o, none⟩) len cap) (.int k i)) K = K (.pointer (some ⟨b, o + i.toNat, none⟩)) := (by simpa using P5 (K := K) B3s C0E h0 h1 b o)
@[simp] theorem D4P {k : IntKind} {i : Int} (h0 : 0 ≤ i) (h1 : i < (8 : Nat)) (b o : Nat) (K : Value → WP) : A0 PR (Instr.indexAt 165 (.pointer (some ⟨b, o, none⟩)) (.int k i)) K = K (.pointer (some ⟨b, o + i.toNat * 2, none⟩)) := (A8b (K := K) C05 A4F h0 h1 b o)
@[simp] theorem D4G {k : IntKind} {i : Int} (h0 : 0 ≤ i) (h1 : i < (2 : Nat)) (b o : Nat) (K : Value → WP) : A0 PR (Instr.indexAt 205 (.pointer (some ⟨b, o, none⟩)) (.int k i)) K = K (.pointer (some ⟨b, o + i.toNat, none⟩)) := (by simpa using A8b (K := K) B2s G9 h0 h1 b o)
@[simp] theorem D4W {k : IntKind} {i : Int} {len cap : Nat} (h0 : 0 ≤ i) (h1 : i < len) (b o : Nat) (K : Value → WP) : A0 PR (Instr.indexAt 206 (.slice (some ⟨b, o, none⟩) len cap) (.int k i)) K = K (.pointer (some ⟨b, o + i.toNat * 2, none⟩)) := (P5 (K := K) B6U A8C h0 h1 b o)
@[simp] theorem D4A {k : IntKind} {i : Int} {len cap : Nat} (h0 : 0 ≤ i) (h1 : i < len) (b o : Nat) (K : Value → WP) : A0 PR (Instr.indexAt 234 (.slice (some ⟨b, o, none⟩) len cap) (.int k i)) K = K (.pointer (some ⟨b, o + i.toNat, none⟩)) := (by simpa using P5 (K := K) B06 ty5 h0 h1 b o)
theorem C8f : TI PR 24 Tryz.t24.desc 1 24 (.slice none 0 0) := ⟨Tryz.underlying24, Tryz.t24, by kernel_rfl, rfl, rfl, rfl⟩
@[simp] theorem D5C {k : IntKind} {i : Int} {len cap : Nat} (h0 : 0 ≤ i) (h1 : i < len) (b o : Nat) (K : Value → WP) : A0 PR (Instr.indexAt 24 (.slice (some ⟨b, o, none⟩) len cap) (.int k i)) K = K (.pointer (some ⟨b, o + i.toNat * 4, none⟩)) := (P5 (K := K) C8f A8L h0 h1 b o)
@[simp] theorem D3y {k : IntKind} {i : Int} {len cap : Nat} (h0 : 0 ≤ i) (h1 : i < len) (b o : Nat) (K : Value → WP) : A0 PR (Instr.indexAt 252 (.slice (some ⟨b, o, none⟩) len cap) (.int k i)) K = K (.pointer (some ⟨b, o + i.toNat * 2, none⟩)) := (P5 (K := K) C0W B2s h0 h1 b o)
@[simp] theorem D40 {k : IntKind} {i : Int} {len cap : Nat} (h0 : 0 ≤ i) (h1 : i < len) (b o : Nat) (K : Value → WP) : A0 PR (Instr.indexAt 289 (.slice (some ⟨b, o, none⟩) len cap) (.int k i)) K = K (.pointer (some ⟨b, o + i.toNat * 4, none⟩)) := (P5 (K := K) C0u A2B h0 h1 b o)
@[simp] theorem D4z {k : IntKind} {i : Int} {len cap : Nat} (h0 : 0 ≤ i) (h1 : i < len) (b o : Nat) (K : Value → WP) : A0 PR (Instr.indexAt 309 (.slice (some ⟨b, o, none⟩) len cap) (.int k i)) K = K (.pointer (some ⟨b, o + i.toNat, none⟩)) := (by simpa using P5 (K := K) C6C ty9 h0 h1 b o)
theorem C1S : TI PR 324 Tryz.t150.desc 1 24 (.slice none 0 0) := ⟨Tryz.underlying324, Tryz.t324, by kernel_rfl, rfl, rfl, rfl⟩
@[simp] theorem D4C {k : IntKind} {i : Int} {len cap : Nat} (h0 : 0 ≤ i) (h1 : i < len) (b o : Nat) (K : Value → WP) : A0 PR (Instr.indexAt 324 (.slice (some ⟨b, o, none⟩) len cap) (.int k i)) K = K (.pointer (some ⟨b, o + i.toNat * 2, none⟩)) := (P5 (K := K) C1S B6c h0 h1 b o)
@[simp] theorem D35 {k : IntKind} {i : Int} {len cap : Nat} (h0 : 0 ≤ i) (h1 : i < len) (b o : Nat) (K : Value → WP) : A0 PR (Instr.indexAt 336 (.slice (some ⟨b, o, none⟩) len cap) (.int k i)) K = K (.pointer (some ⟨b, o + i.toNat * 2, none⟩)) := (P5 (K := K) C1P B1J h0 h1 b o)
@[simp] theorem D5L {k : IntKind} {i : Int} {len cap : Nat} (h0 : 0 ≤ i) (h1 : i < len) (b o : Nat) (K : Value → WP) : A0 PR (Instr.indexAt 36 (.slice (some ⟨b, o, none⟩) len cap) (.int k i)) K = K (.pointer (some ⟨b, o + i.toNat * 2, none⟩)) := (P5 (K := K) B0G B14 h0 h1 b o)
@[simp] theorem D5N {k : IntKind} {i : Int} {len cap : Nat} (h0 : 0 ≤ i) (h1 : i < len) (b o : Nat) (K : Value → WP) : A0 PR (Instr.indexAt 54 (.slice (some ⟨b, o, none⟩) len cap) (.int k i)) K = K (.pointer (some ⟨b, o + i.toNat, none⟩)) := (by simpa using P5 (K := K) A8s G9 h0 h1 b o)
@[simp] theorem D5D {k : IntKind} {i : Int} {len cap : Nat} (h0 : 0 ≤ i) (h1 : i < len) (b o : Nat) (K : Value → WP) : A0 PR (Instr.indexAt 55 (.slice (some ⟨b, o, none⟩) len cap) (.int k i)) K = K (.pointer (some ⟨b, o + i.toNat * 4, none⟩)) := (P5 (K := K) A8v A2B h0 h1 b o)
@[simp] theorem D5B {k : IntKind} {i : Int} {len cap : Nat} (h0 : 0 ≤ i) (h1 : i < len) (b o : Nat) (K : Value → WP) : A0 PR (Instr.indexAt 72 (.slice (some ⟨b, o, none⟩) len cap) (.int k i)) K = K (.pointer (some ⟨b, o + i.toNat, none⟩)) := (by simpa using P5 (K := K) B8L A8v h0 h1 b o)
@[simp] theorem D29 (a : Option Addr) (n c : Nat) (K : Value → WP) : A0 PR (A8 .len #[128] 0 [.slice a n c]) K = K (.int .i64 n) := p6 B3Q a n c
@[simp] theorem D2S (a : Option Addr) (n c : Nat) (K : Value → WP) : A0 PR (A8 .len #[149] 0 [.slice a n c]) K = K (.int .i64 n) := p6 C1J a n c
@[simp] theorem D3a (a : Option Addr) (n c : Nat) (K : Value → WP) : A0 PR (A8 .len #[159] 0 [.slice a n c]) K = K (.int .i64 n) := p6 C0v a n c
@[simp] theorem D3J (a : Option Addr) (n c : Nat) (K : Value → WP) : A0 PR (A8 .len #[160] 0 [.slice a n c]) K = K (.int .i64 n) := p6 B3s a n c
@[simp] theorem D17 (a : Option Addr) (n c : Nat) (K : Value → WP) : A0 PR (A8 .len #[206] 0 [.slice a n c]) K = K (.int .i64 n) := p6 B6U a n c
@[simp] theorem D4J (a : Option Addr) (n c : Nat) (K : Value → WP) : A0 PR (A8 .len #[24] 0 [.slice a n c]) K = K (.int .i64 n) := p6 C8f a n c
@[simp] theorem D2e (a : Option Addr) (n c : Nat) (K : Value → WP) : A0 PR (A8 .len #[252] 0 [.slice a n c]) K = K (.int .i64 n) := p6 C0W a n c
@[simp] theorem D2N (a : Option Addr) (n c : Nat) (K : Value → WP) : A0 PR (A8 .len #[289] 0 [.slice a n c]) K = K (.int .i64 n) := p6 C0u a n c
@[simp] theorem D15 (a : Option Addr) (n c : Nat) (K : Value → WP) : A0 PR (A8 .len #[324] 0 [.slice a n c]) K = K (.int .i64 n) := p6 C1S a n c
@[simp] theorem D28 (a : Option Addr) (n c : Nat) (K : Value → WP) : A0 PR (A8 .len #[336] 0 [.slice a n c]) K = K (.int .i64 n) := p6 C1P a n c
@[simp] theorem D44 (a : Option Addr) (n c : Nat) (K : Value → WP) : A0 PR (A8 .len #[36] 0 [.slice a n c]) K = K (.int .i64 n) := p6 B0G a n c
theorem C9j : TI PR 371 Tryz.t371.desc 1 24 (.slice none 0 0) := ⟨Tryz.underlying371, Tryz.t371, by kernel_rfl, rfl, rfl, rfl⟩
@[simp] theorem D3r (a : Option Addr) (n c : Nat) (K : Value → WP) : A0 PR (A8 .len #[371] 0 [.slice a n c]) K = K (.int .i64 n) := p6 C9j a n c
@[simp] theorem D4N (a : Option Addr) (n c : Nat) (K : Value → WP) : A0 PR (A8 .len #[54] 0 [.slice a n c]) K = K (.int .i64 n) := p6 A8s a n c
@[simp] theorem D4E (a : Option Addr) (n c : Nat) (K : Value → WP) : A0 PR (A8 .len #[55] 0 [.slice a n c]) K = K (.int .i64 n) := p6 A8v a n c
@[simp] theorem D4S (a : Option Addr) (n c : Nat) (K : Value → WP) : A0 PR (A8 .len #[72] 0 [.slice a n c]) K = K (.int .i64 n) := p6 B8L a n c
@[simp] theorem D5Q (s : ByteArray) (K : Value → WP) : A0 PR (A8 .len #[9] 0 [.string s]) K = K (.int .i64 s.size) := C8r ty9 s
@[simp] theorem D43 (a : Addr) (K : Value → WP) (w : World) : A6 PR (Instr.loadAt 208 (.pointer (some a))) K w = rdc (w.cell? a) K (far PR 208 a K) w := B7n A5g rfl a
@[simp] theorem D5W (a : Addr) (K : Value → WP) (w : World) : A6 PR (Instr.loadAt 3 (.pointer (some a))) K w = rdc (w.cell? a) K (far PR 3 a K) w := B7n G9 rfl a
theorem D0f : TI PR 102 Tryz.t102.desc 1 8 (.pointer none) := ⟨Tryz.underlying102, Tryz.t102, by kernel_rfl, rfl, rfl, rfl⟩
@[simp] theorem D4r (v : Value) (K : Value → WP) : A0 PR (Instr.makeInterface 102 v) K = K (.iface 102 v) := n7 D0f (by intro ms h; cases h) v
theorem D00 : TI PR 105 Tryz.t105.desc 1 8 (.pointer none) := ⟨Tryz.underlying105, Tryz.t105, by kernel_rfl, rfl, rfl, rfl⟩
@[simp] theorem D4w (v : Value) (K : Value → WP) : A0 PR (Instr.makeInterface 105 v) K = K (.iface 105 v) := n7 D00 (by intro ms h; cases h) v
@[simp] theorem D4m (v : Value) (K : Value → WP) : A0 PR (Instr.makeInterface 152 v) K = K (.iface 152 v) := n7 A8N (by intro ms h; cases h) v
@[simp] theorem D45 (v : Value) (K : Value → WP) : A0 PR (Instr.makeInterface 170 v) K = K (.iface 170 v) := n7 B09 (by intro ms h; cases h) v
@[simp] theorem D4p (v : Value) (K : Value → WP) : A0 PR (Instr.makeInterface 311 v) K = K (.iface 311 v) := n7 C54 (by intro ms h; cases h) v
@[simp] theorem D4y (v : Value) (K : Value → WP) : A0 PR (Instr.makeInterface 312 v) K = K (.iface 312 v) := n7 C56 (by intro ms h; cases h) v
theorem D46 : TI PR 92 Tryz.t92.desc 1 8 (.pointer none) := ⟨Tryz.underlying92, Tryz.t92, by kernel_rfl, rfl, rfl, rfl⟩
@[simp] theorem D5G (v : Value) (K : Value → WP) : A0 PR (Instr.makeInterface 92 v) K = K (.iface 92 v) := n7 D46 (by intro ms h; cases h) v
theorem D42 : TI PR 99 Tryz.t99.desc 1 8 (.pointer none) := ⟨Tryz.underlying99, Tryz.t99, by kernel_rfl, rfl, rfl, rfl⟩
@[simp] theorem D48 (v : Value) (K : Value → WP) : A0 PR (Instr.makeInterface 99 v) K = K (.iface 99 v) := n7 D42 (by intro ms h; cases h) v
@[simp] theorem D0B {k1 : IntKind} {hi : Int} (b o : Nat) (h0 : 0 ≤ hi) (h1 : hi ≤ (8 : Nat)) (K : Value → WP) : A0 PR (Instr.sliceAt 165 (.pointer (some ⟨b, o, none⟩)) none (some (.int k1 hi)) none) K = K (.slice (some ⟨b, o, none⟩) hi.toNat 8) := C2m C05 A4F b o h0 h1
@[simp] theorem D1L (b o : Nat) (K : Value → WP) : A0 PR (Instr.sliceAt 233 (.pointer (some ⟨b, o, none⟩)) none none none) K = K (.slice (some ⟨b, o, none⟩) 38 38) := C3Z C1D ty5 b o
@[simp] theorem D49 {k1 : IntKind} {hi : Int} {s : ByteArray} (h0 : 0 ≤ hi) (h1 : hi ≤ s.size) (K : Value → WP) : A0 PR (Instr.sliceAt 9 (.string s) none (some (.int k1 hi)) none) K = K (.string (s.extract 0 hi.toNat)) := C2y ty9 h0 h1
@[simp] theorem D5A {k1 : IntKind} {lo : Int} {s : ByteArray} (h0 : 0 ≤ lo) (h1 : lo ≤ s.size) (K : Value → WP) : A0 PR (Instr.sliceAt 9 (.string s) (some (.int k1 lo)) none none) K = K (.string (s.extract lo.toNat s.size)) := C3L ty9 h0 h1
@[simp] theorem D5g {k1 k2 : IntKind} {lo hi : Int} {s : ByteArray} (h0 : 0 ≤ lo) (h1 : lo ≤ hi) (h2 : hi ≤ s.size) (K : Value → WP) : A0 PR (Instr.sliceAt 9 (.string s) (some (.int k1 lo)) (some (.int k2 hi)) none) K = K (.string (s.extract lo.toNat hi.toNat)) := C38 ty9 h0 h1 h2
theorem C6H : TI PR 203 Tryz.t203.desc 1 8 (.map none) := ⟨Tryz.underlying203, Tryz.t203, by kernel_rfl, rfl, rfl, rfl⟩
theorem B6d : TI PR 273 Tryz.t272.desc 1 16 .nilIface := ⟨Tryz.underlying273, Tryz.t273, by kernel_rfl, rfl, rfl, rfl⟩
theorem B6j : TI PR 274 Tryz.t274.desc 1 8 (.map none) := ⟨Tryz.underlying274, Tryz.t274, by kernel_rfl, rfl, rfl, rfl⟩
end Go.Proofs.YtpnidmkaobfhiaaGreat
namespace Go.Proofs.YtpnidmkaobfhiaaGreat
open Go
@[simp] theorem C2C (a b : ByteArray) : (a == b) = decide (a = b) := by
 obtain ⟨x⟩ := a; obtain ⟨y⟩ := b
 have h : ((⟨x⟩ : ByteArray) == ⟨y⟩) = (x == y) := rfl
 rw [h]
 by_cases e : x = y
 ·subst e; simp
 ·simp [e]
@[simp] theorem D1d (a : Array UInt8) : (ByteArray.mk a).size = a.size := rfl
theorem B7f (ns : List Int) : (A4P ns).data.toList = ns.map fun n => UInt8.ofNat n.toNat := by
 have : ∀ (l : List Int) (r : ByteArray), (l.foldl (fun r n => r.push (UInt8.ofNat n.toNat)) r).data.toList = r.data.toList ++ l.map fun n => UInt8.ofNat n.toNat := by
  intro l
  induction l with
  | nil => intro r; simp
  | cons x l ih => intro r; rw [List.foldl_cons, ih]; simp [ByteArray.push]
 have h := this ns ByteArray.empty
 rw [show ByteArray.empty.data.toList = [] from rfl, List.nil_append] at h
 exact h
@[simp] theorem C9E (ns : List Int) : (A4P ns).size = ns.length := by
 have := congrArg List.length (B7f ns)
 rw [List.length_map] at this
 exact this
class TS (t : TypeId) (z : outParam Value) : Prop where
 ti : ∃ d m, TI PR t d 1 m z ∧ T1 d = false
class TG (t : TypeId) (n : outParam Nat) (z : outParam Value) : Prop where
 ti : ∃ d m, TI PR t d n m z ∧ T1 d = true
class TA (t : TypeId) (n : outParam Nat) (z : outParam Value) : Prop where
 ti : ∃ d m, TI PR t d n m z
class SL (t : TypeId) (e : outParam TypeId) (k by' : outParam Nat) (z : outParam Value) : Prop where
 ti : (∃ n m z', TI PR t (.slice e) n m z') ∧ (∃ d, TI PR e d k by' z) ∧ z.cells.size = k
instance TS.ta {t : TypeId} {z : Value} [h : TS t z] : TA t 1 z := ⟨let ⟨d, m, h, _⟩ := h.ti; ⟨d, m, h⟩⟩
instance TG.ta {t : TypeId} {n : Nat} {z : Value} [h : TG t n z] : TA t n z := ⟨let ⟨d, m, h, _⟩ := h.ti; ⟨d, m, h⟩⟩
def rdq (x : Option (List Value)) (G : List Value → WP) (F : WP) : WP := match x with | some l => G l | none => F
@[simp] theorem B2f (l : List Value) (G : List Value → WP) (F : WP) : rdq (some l) G F = G l := id rfl
@[congr] theorem D3l {x x' : Option (List Value)} {G : List Value → WP} {F : WP} (h : x = x') {q : Nat} (hq : Z4 = q) : rdq x G F = rdq x' G F := by rw [h]
@[simp] theorem D4u (xs : List Value) : U3 xs 0 0 = some [] := by simp [U3]
@[simp] theorem D1f (x : Value) (xs : List Value) (n : Nat) : U3 (x :: xs) 0 (n + 1) = (U3 xs 0 n).map (x :: ·) := by
 simp only [U3, Nat.zero_add, List.length_cons, List.drop_zero, List.take_succ_cons]
 by_cases h : n ≤ xs.length
 ·rw [if_pos h, if_pos (by omega)]; rfl
 ·rw [if_neg h, if_neg (by omega)]; rfl
theorem B5B {α : Type} {l : List α} {f : α → List Value} {k i : Nat} {x : α} (hk : ∀ x, (f x).length = k) (hx : l[i]? = some x) : U3 (l.flatMap f) (i * k) k = some (f x) := by
 obtain ⟨hlt, hx'⟩ := List.getElem?_eq_some_iff.1 hx
 have h1 : (i + 1) * k ≤ l.length * k := Nat.mul_le_mul_right k hlt
 rw [Nat.add_mul] at h1
 rw [U3, if_pos (by rw [K3 hk]; omega), A5Q hk, List.drop_eq_getElem_cons hlt, List.flatMap_cons, hx']
 rw [List.take_left' (hk x)]
inductive Sel (r : Res) : List Res → List Res → Prop where
 | here {H : List Res} : Sel r (r :: H) H
 | there {x : Res} {H H' : List Res} : Sel r H H' → Sel r (x :: H) (x :: H')
theorem Sel.perm {r : Res} {H Hr : List Res} (h : Sel r H Hr) : H.Perm (r :: Hr) := by
 induction h with
 | here => exact .refl _
 | there _ ih => exact (ih.cons _).trans (.swap ..)
theorem Sel.sub {r : Res} {H Hr : List Res} (h : Sel r H Hr) : Hr.Sublist H := by
 induction h with
 | here => exact List.sublist_cons_self ..
 | there _ ih => exact ih.cons_cons _
theorem A1 {r : Res} {H : List Res} : r ∈ r :: H := List.mem_cons_self ..
theorem uH {r r' : Res} {H : List Res} : Up r r' (r :: H) (r' :: H) := Up.here
theorem uT {r r' x : Res} {H H' : List Res} (h : Up r r' H H') : Up r r' (x :: H) (x :: H') := Up.there h
theorem A2 {r x : Res} {H : List Res} (h : r ∈ H) : r ∈ x :: H := List.mem_cons_of_mem _ h
inductive Sels : List Res → List Res → Prop where
 | nil {H : List Res} : Sels [] H
 | cons {r : Res} {rs H Hr : List Res} : Sel r H Hr → Sels rs Hr → Sels (r :: rs) H
theorem Sels.sub {rs H : List Res} (h : Sels rs H) : ∃ H', H.Perm H' ∧ rs.Sublist H' := by
 induction h with
 | nil => exact ⟨_, .refl _, List.nil_sublist _⟩
 | cons h1 _ ih => obtain ⟨H', h2, h3⟩ := ih; exact ⟨_ :: H', h1.perm.trans (h2.cons _), h3.cons_cons _⟩
theorem Sels.lw {κ : Bool} {S : List Nat} {w0 w : World} {rs H : List Res} (h : Sels rs H) (hw : LW κ S w0 H w) : LW κ S w0 rs w := let ⟨_, h1, h2⟩ := h.sub; (hw.perm h1).sub h2
theorem Sels.tw {κ : Bool} {S : List Nat} {w0 : World} {rs H : List Res} {K : WP} (h : Sels rs H) (hk : TW κ S w0 rs K) : TW κ S w0 H K := fun w hw => hk w (h.lw hw)
inductive Part : List Res → List Res → List Res → Prop where
 | nil {H : List Res} : Part [] H H
 | cons {r : Res} {rs H H1 Hk : List Res} : Sel r H H1 → Part rs H1 Hk → Part (r :: rs) H Hk
theorem Part.perm {Hc H Hk : List Res} (h : Part Hc H Hk) : H.Perm (Hc ++ Hk) := by
 induction h with
 | nil => exact .refl _
 | cons h1 _ ih => exact h1.perm.trans (ih.cons _)
theorem D0 {κ : Bool} {X : Nat → Prop} {S : List Nat} {w0 : World} {H Hk Hc : List Res} {K : Value → WP} {f : FuncId} {args : List Value} {α : Type} {φ : α → Value → Prop} {Hn : α → List Res} (he : A9 PR f)
  (hf : ∀ w, LW κ S w0 (Hc ++ Hk) w → LW false (B2 Hc) w Hc w → Fn PR B6 f args.toArray w (Rn (B2 Hc) w φ Hn)) (hp : Part Hc H Hk) (hK : ∀ a v, φ a v → TW κ S w0 (Hn a ++ Hk) (K v)) : TW κ S w0 H (B7 PR X f args K) :=
 C3d he hp.perm (fun w hw => let h := hw.perm hp.perm; hf w h (h.sub (List.sublist_append_left _ _)).self) hK
theorem B1 {κ : Bool} {S : List Nat} {w0 : World} {H : List Res} {α : Type} {φ : α → Value → Prop} {Hn : α → List Res} {v : Value} (a : α) (h : φ a v) (hs : Sels (Hn a) H) : TW κ S w0 H (Rn S w0 φ Hn v) := fun w hw => ⟨a, h, hs.lw hw.low⟩
theorem D0J {κ : Bool} {S : List Nat} {w0 : World} {H : List Res} {F : Value → WP} {A : (Value → WP) → WP} {α : Type} (φ : α → Prop) (Hh : α → List Res) (v1 : α → Value) (hF : ∀ x, φ x → TW κ S w0 (Hh x) (F (v1 x)))
  (hA : ∀ J : Value → WP, (∀ x, φ x → TW κ S w0 (Hh x) (J (v1 x))) → TW κ S w0 H (A J)) : TW κ S w0 H (kt (n := 1) F A) := hA F hF
theorem C0x {κ : Bool} {S : List Nat} {w0 : World} {H : List Res} {F : Value → Value → WP} {A : (Value → Value → WP) → WP} {α : Type} (φ : α → Prop) (Hh : α → List Res) (v1 v2 : α → Value) (hF : ∀ x, φ x → TW κ S w0 (Hh x) (F (v1 x) (v2 x)))
  (hA : ∀ J : Value → Value → WP, (∀ x, φ x → TW κ S w0 (Hh x) (J (v1 x) (v2 x))) → TW κ S w0 H (A J)) : TW κ S w0 H (kt (n := 2) F A) := hA F hF
theorem E2.form {w : World} {v : Value} {n : Nat} {xs : List Value} (h : E2 w v n xs) : ∃ a c, v = .slice a n c ∧ (0 < n → ∃ b o, a = some ⟨b, o, none⟩ ∧ N6 w b o xs) := by
 rcases h with ⟨rfl, rfl, a, c, rfl⟩ | ⟨b, o, c, rfl, hr⟩
 ·exact ⟨a, c, rfl, fun h => absurd h (by omega)⟩
 ·exact ⟨_, c, rfl, fun _ => ⟨b, o, rfl, hr⟩⟩
theorem N6.at {w : World} {b o k : Nat} {α : Type} {l : List α} {f : α → List Value} (h : N6 w b o (l.flatMap f)) (hk : ∀ x, (f x).length = k) {i : Nat} {x : α} (hx : l[i]? = some x) : a6 w b (o + i * k) k = some (f x) := by
 have h1 : N6 w b (o + i * k) (f x) := fun j hj => by
  rw [hk] at hj
  have h2 := Q8 hk l i j hj
  rw [hx] at h2
  have h3 : (l.flatMap f)[i * k + j]? = some ((f x)[j]'(by rw [hk]; exact hj)) := by rw [h2]; simp [List.getElem?_eq_getElem, hk, hj]
  rw [Nat.add_assoc, h.get h3]; simp [List.getElem?_eq_getElem, hk, hj]
 have := A4L h1
 rwa [hk] at this
theorem N6.cellAt {w : World} {b o k : Nat} {α : Type} {l : List α} {f : α → List Value} (h : N6 w b o (l.flatMap f)) (hk : ∀ x, (f x).length = k) {i j : Nat} {x : α} {u : Value} (hx : l[i]? = some x) (hu : (f x)[j]? = some u) : w.cell? ⟨b, o + i * k + j, none⟩ = some u := by
 have hj : j < k := by rw [← hk x]; exact (List.getElem?_eq_some_iff.1 hu).1
 have h2 := Q8 hk l i j hj
 rw [hx] at h2
 rw [Nat.add_assoc]
 exact h.get (by rw [h2]; exact hu)
theorem N6.one {w : World} {b o : Nat} {α : Type} {l : List α} {f : α → Value} (h : N6 w b o (l.map f)) {i : Nat} {x : α} (hx : l[i]? = some x) : w.cell? ⟨b, o + i, none⟩ = some (f x) := h.get (by simp [hx])
section
variable {κ : Bool} {X : Nat → Prop} {S : List Nat} {w0 : World} {H H' Hr : List Res} {K : Value → WP} {K0 : WP} {t e : TypeId} {n k by' : Nat} {z : Value}
theorem D0l {s : Sem Value} {v : Value} (h : ∀ w, LW κ S w0 H w → A6 PR s K w = K v w) : TW κ S w0 H (A6 PR s K) = TW κ S w0 H (K v) := TW.congr h
theorem l2 {v : Value} {q : Nat} {xs : List Value} (hm : Res.own e k v q xs ∈ H) (hq : 0 < q) (h : ∀ g c, v = .slice (some ⟨g, 0, none⟩) q c → TW κ S w0 H K0) : TW κ S w0 H K0 := fun w hw => by
 rcases (hw.hold _ hm).2 with ⟨_, rfl⟩ | ⟨g, c, _, rfl, _⟩
 ·omega
 ·exact h g c rfl w hw
@[simp] theorem D5F [h : TS t z] {b o : Nat} {c : Array Value} {T : TypeId} {f : Nat × Nat} (hm : Res.pt b (.cells c T f) ∈ H) :
  TW κ S w0 H (A6 PR (Instr.loadAt t (.pointer (some ⟨b, o, none⟩))) K) = TW κ S w0 H (rdc c[o]? K (far PR t ⟨b, o, none⟩ K)) := let ⟨_, _, h, hd⟩ := h.ti; C6u h hd hm
@[simp] theorem D3v [h : TS t z] {g o : Nat} {k q c : Nat} {xs : List Value} (hm : Res.own e k (.slice (some ⟨g, 0, none⟩) q c) q xs ∈ H) :
  TW κ S w0 H (A6 PR (Instr.loadAt t (.pointer (some ⟨g, o, none⟩))) K) = TW κ S w0 H (rdc xs[o]? K (A6 PR (Instr.loadAt t (.pointer (some ⟨g, o, none⟩))) K)) := by
 cases hv : xs[o]? with
 | none => rfl
 | some v => exact let ⟨_, _, h, hd⟩ := h.ti; C4J h hd hm hv
@[simp] theorem D3z [h : TS t z] {b o : Nat} {v : Value} (hc : w0.cell? ⟨b, o, none⟩ = some v) (hS : b ∉ S) :
  TW κ S w0 H (A6 PR (Instr.loadAt t (.pointer (some ⟨b, o, none⟩))) K) = TW κ S w0 H (K v) := let ⟨_, _, h, hd⟩ := h.ti; C4y h hd hc hS
@[simp] theorem D4V [h : TG t n z] {b o : Nat} {c : Array Value} {T : TypeId} {f : Nat × Nat} (hm : Res.pt b (.cells c T f) ∈ H) :
  TW κ S w0 H (A6 PR (Instr.loadAt t (.pointer (some ⟨b, o, none⟩))) K) = TW κ S w0 H (rdq (U3 c.toList o n) (fun l => K (.agg l.toArray)) (A6 PR (Instr.loadAt t (.pointer (some ⟨b, o, none⟩))) K)) := by
 cases hl : U3 c.toList o n with
 | none => rfl
 | some l => exact let ⟨_, _, h, hd⟩ := h.ti; C3k h hd hm hl
@[simp] theorem D2H [h : TG t n z] {g o : Nat} {k q c : Nat} {xs : List Value} (hm : Res.own e k (.slice (some ⟨g, 0, none⟩) q c) q xs ∈ H) :
  TW κ S w0 H (A6 PR (Instr.loadAt t (.pointer (some ⟨g, o, none⟩))) K) = TW κ S w0 H (rdq (U3 xs o n) (fun l => K (.agg l.toArray)) (A6 PR (Instr.loadAt t (.pointer (some ⟨g, o, none⟩))) K)) := by
 cases hl : U3 xs o n with
 | none => rfl
 | some l => exact let ⟨_, _, h, hd⟩ := h.ti; C3P h hd hm hl
@[simp] theorem D2a [h : TG t n z] {b o : Nat} {l : List Value} (hc : a6 w0 b o n = some l) (hS : b ∉ S) :
  TW κ S w0 H (A6 PR (Instr.loadAt t (.pointer (some ⟨b, o, none⟩))) K) = TW κ S w0 H (K (.agg l.toArray)) := let ⟨_, _, h, hd⟩ := h.ti; C16 h hd hc hS
@[simp] theorem C79 [h : TS t z] {b o : Nat} {c : Array Value} {T : TypeId} {f : Nat × Nat} (hm : Res.pt b (.cells c T f) ∈ H) {v : Value} (hv : c[o]? = some v) :
  TW κ S w0 H (A6 PR (D6 [.c t (.pointer (some ⟨b, o, none⟩))]) K) = TW κ S w0 H (K v) := let ⟨_, _, h, hd⟩ := h.ti; C8p h hd hm hv
@[simp] theorem D5a [h : TG t n z] {b o : Nat} {c : Array Value} {T : TypeId} {f : Nat × Nat} (hm : Res.pt b (.cells c T f) ∈ H) :
  TW κ S w0 H (A6 PR (D6 [.c t (.pointer (some ⟨b, o, none⟩))]) K) = TW κ S w0 H (rdq (U3 c.toList o n) (fun l => K (.agg l.toArray)) (A6 PR (D6 [.c t (.pointer (some ⟨b, o, none⟩))]) K)) := by
 cases hl : U3 c.toList o n with
 | none => rfl
 | some l => exact let ⟨_, _, h, hd⟩ := h.ti; C9M h hd hm hl
@[simp] theorem D5P [h : TG t n z] {b o : Nat} {c : Array Value} {T : TypeId} {f : Nat × Nat} {x : Value} (hm : Res.pt b (.cells c T f) ∈ H) :
  TW κ S w0 H (A6 PR (D6 [.c t (.pointer (some ⟨b, o, none⟩)), .v x]) K) = TW κ S w0 H (rdq (U3 c.toList o n) (fun l => K (.tuple #[.agg l.toArray, x])) (A6 PR (D6 [.c t (.pointer (some ⟨b, o, none⟩)), .v x]) K)) := by
 cases hl : U3 c.toList o n with
 | none => rfl
 | some l =>
   obtain ⟨_, _, h, hd⟩ := h.ti
   refine TW.congr fun w hw => ?_
   rw [B2f]
   have hr := A1A hl (N6.bl (hw.pt hm)); have h2 := x5 hr
   refine Y2 ?_ K
   have := A1S h hd h2.1 h2.2
   simp only [Instr.loadAt, Instr.sureAddr, Sem.run_bind, Sem.run_pure, Result.andThen_ok] at this
   simp [D6, A3m, RV.sem, asAddr, this, one]
@[simp] theorem D5H [h : TG t n z] {b o : Nat} {c : Array Value} {T : TypeId} {f : Nat × Nat} {x y : Value} (hm : Res.pt b (.cells c T f) ∈ H) :
  TW κ S w0 H (A6 PR (D6 [.c t (.pointer (some ⟨b, o, none⟩)), .v x, .v y]) K) = TW κ S w0 H (rdq (U3 c.toList o n) (fun l => K (.tuple #[.agg l.toArray, x, y])) (A6 PR (D6 [.c t (.pointer (some ⟨b, o, none⟩)), .v x, .v y]) K)) := by
 cases hl : U3 c.toList o n with
 | none => rfl
 | some l =>
   obtain ⟨_, _, h, hd⟩ := h.ti
   refine TW.congr fun w hw => ?_
   rw [B2f]
   have hr := A1A hl (N6.bl (hw.pt hm)); have h2 := x5 hr
   refine Y2 ?_ K
   have := A1S h hd h2.1 h2.2
   simp only [Instr.loadAt, Instr.sureAddr, Sem.run_bind, Sem.run_pure, Result.andThen_ok] at this
   simp [D6, A3m, RV.sem, asAddr, this, one]
@[simp] theorem D1j [h : TS t z] {b o : Nat} {c : Array Value} {T : TypeId} {f : Nat × Nat} {v : Value} {l : List Rd} (hm : Res.pt b (.cells c T f) ∈ H) (hv : c[o]? = some v) :
  TW κ S w0 H (watch PR ((none, Instr.loadAt t (.pointer (some ⟨b, o, none⟩)), v) :: l) K0) = TW κ S w0 H (watch PR l K0) := let ⟨_, _, h, hd⟩ := h.ti; B07 fun w hw => y0 h hd (by rw [D8 (hw.pt hm)]; exact hv)
@[simp] theorem C9b [h : TS t z] {g o : Nat} {k q c : Nat} {xs : List Value} {v : Value} {l : List Rd} (hm : Res.own e k (.slice (some ⟨g, 0, none⟩) q c) q xs ∈ H) (hv : xs[o]? = some v) :
  TW κ S w0 H (watch PR ((none, Instr.loadAt t (.pointer (some ⟨g, o, none⟩)), v) :: l) K0) = TW κ S w0 H (watch PR l K0) := let ⟨_, _, h, hd⟩ := h.ti; B07 fun w hw => y0 h hd (by have := (hw.ownr hm).get hv; rwa [Nat.zero_add] at this)
@[simp] theorem C9T [h : TS t z] {b o : Nat} {v : Value} {l : List Rd} (hc : w0.cell? ⟨b, o, none⟩ = some v) (hS : b ∉ S) :
  TW κ S w0 H (watch PR ((none, Instr.loadAt t (.pointer (some ⟨b, o, none⟩)), v) :: l) K0) = TW κ S w0 H (watch PR l K0) := let ⟨_, _, h, hd⟩ := h.ti; B07 fun w hw => y0 h hd (hw.ks.cell hS hc)
@[simp] theorem D4e [h : TA t n z] {v : Value} {b o : Nat} {c : Array Value} {T : TypeId} (hv : v.cells.size = n)
  (hu : Up (.pt b (.cells c T (0, 0))) (.pt b (.cells (E3 c o v.cells.toList) T (0, 0))) H H') (hs : o + n ≤ c.size) (hp : v.cells.toList.all plain = true) :
  TW κ S w0 H (B9 PR X (Instr.storeAt t (.pointer (some ⟨b, o, none⟩)) v) K0) = TW κ S w0 H' K0 := let ⟨_, _, h⟩ := h.ti; D4a h hv hu hs hp
theorem Q7 [h : TA t n z] {v : Value} {g o q c : Nat} {xs : List Value} (hu : Up (.own e k (.slice (some ⟨g, 0, none⟩) q c) q xs) (.own e k (.slice (some ⟨g, 0, none⟩) q c) q (W0 xs o v.cells.toList)) H H')
  (hv : v.cells.size = n) (hs : o + n ≤ xs.length) (hp : v.cells.toList.all plain = true) (hK : TW κ S w0 H' K0) :
  TW κ S w0 H (B9 PR X (Instr.storeAt t (.pointer (some ⟨g, o, none⟩)) v) K0) := let ⟨_, _, h⟩ := h.ti; C4U h hv hu hs hp hK
theorem A4 [h : TA t n z] (hK : ∀ b, TW κ S w0 (.pt b (.cells z.cells t) :: H) (K (.pointer (some ⟨b, 0, none⟩)))) : TW κ S w0 H (B4 PR X (Instr.alloc t true (.tuple #[])) K) := let ⟨_, _, h⟩ := h.ti; D31 h hK
theorem A6N {k1 k2 : IntKind} {l : Int} [h : SL t e k by' z] (h0 : 0 ≤ l) (hb : l * by' ≤ 140737488355328) (hc : l ≤ 9223372036854775807) (hk : 0 < k)
  (hK : ∀ b, TW κ S w0 (.own e k (.slice (some ⟨b, 0, none⟩) l.toNat l.toNat) l.toNat (Builtin.zeroCells z.cells l.toNat).toList :: H) (K (.slice (some ⟨b, 0, none⟩) l.toNat l.toNat))) :
  TW κ S w0 H (B4 PR X (Instr.makeSlice t (.int k1 l) (.int k2 l)) K) := let ⟨⟨_, _, _, h1⟩, ⟨_, h2⟩, h3⟩ := h.ti; D34 h1 h2 h3 hk h0 rfl hb hc hK
theorem G1 [h : SL t e k by' z] (hK : ∀ b, TW κ S w0 (.own e k (.slice (some ⟨b, 0, none⟩) 0 0) 0 [] :: H) (K (.slice (some ⟨b, 0, none⟩) 0 0))) : TW κ S w0 H (B4 PR X (Instr.buildSlice t 0 #[]) K) :=
 let ⟨⟨_, _, _, h1⟩, ⟨_, h2⟩, h3⟩ := h.ti; D0Z h1 h2 hK
theorem C3v {m n q : Nat} (hq : 0 < n) : ∀ (vs : List Value) (i : Nat) (cs : Array Value), (∀ v ∈ vs, v.cells.size = n) → (i + vs.length) * n ≤ cs.size →
  Instr.fill (fun i => some (i * n, n)) cs ((List.range' i vs.length).zip vs) = some (E3 cs (i * n) (vs.flatMap fun v => v.cells.toList)) := by
 intro vs
 induction vs with
 | nil => intro i cs _ _; simp [Instr.fill]
 | cons v vs ih =>
  intro i cs hv hs
  simp only [List.length_cons] at hs
  have hv0 : v.cells.size = n := hv v (by simp)
  have e1 : (i + (vs.length + 1)) * n = i * n + n + vs.length * n := by rw [Nat.add_mul, Nat.add_mul]; omega
  simp only [List.length_cons, List.range'_succ, List.zip_cons_cons]
  rw [B8 rfl hv0 (by omega), ih (i + 1) _ (fun u hu => hv u (by simp [hu])) (by rw [C0]; (have : (i + 1 + vs.length) * n = i * n + n + vs.length * n := by (rw [Nat.add_mul, Nat.add_mul]; omega)); omega)]
  have spl_spl : ∀ (l l' : List Value) (c : Array Value) (o : Nat), E3 (E3 c o l) (o + l.length) l' = E3 c o (l ++ l') := by
   intro l
   induction l with
   | nil => intro l' c o; simp
   | cons u l ih => intro l' c o; simp only [A7x, List.cons_append, List.length_cons]; rw [← ih]; congr 1; omega
  rw [List.flatMap_cons, ← spl_spl]
  congr 2
  have : v.cells.toList.length = n := by simp [hv0]
  rw [this, Nat.add_mul]; omega
theorem B7p {len : Nat} {parts : Array (Nat × Value)} (vs : List Value) [h : SL t e k by' z] (hk : 0 < k) (h0 : 0 < len) (hb : len * k ≤ 2 ^ 24) (hp : parts.toList = (List.range' 0 len).zip vs) (hl : vs.length = len) (hv : ∀ v ∈ vs, v.cells.size = k)
  (hK : ∀ b, TW κ S w0 (.own e k (.slice (some ⟨b, 0, none⟩) len len) len (vs.flatMap fun v => v.cells.toList) :: H) (K (.slice (some ⟨b, 0, none⟩) len len))) :
  TW κ S w0 H (B4 PR X (Instr.buildSlice t len parts) K) := by
 obtain ⟨⟨_, _, _, h1⟩, ⟨_, h2⟩, h3⟩ := h.ti
 have hlen : (vs.flatMap fun v => v.cells.toList).length = len * k := by
  rw [← hl]; clear hp hl hK hb h0
  induction vs with
  | nil => simp
  | cons v vs ih =>
   have := hv v (by simp)
   rw [List.flatMap_cons, List.length_append, ih fun u hu => hv u (by simp [hu])]
   simp only [Array.length_toList, List.length_cons, this]; rw [Nat.add_mul]; omega
 have hf := C3v (m := 0) (q := 0) hk vs 0 ((Array.range (len * k)).map (z.cells[· % z.cells.size]!)) hv (by simp [hl])
 rw [hl, ← hp] at hf
 have hz : E3 ((Array.range (len * k)).map (z.cells[· % z.cells.size]!)) (0 * k) (vs.flatMap fun v => v.cells.toList) = (vs.flatMap fun v => v.cells.toList).toArray := by
  apply Array.toList_inj.1
  rw [A1v _ _ _ (by simp [-List.length_flatMap, hlen])]
  simp only [Nat.zero_mul, List.take_zero, List.nil_append, hlen, Nat.zero_add]
  rw [List.drop_eq_nil_of_le (by simp)]; simp
 refine D4M h1 h2 hb (by have : 0 < len * k := Nat.mul_pos h0 hk; omega) (hf.trans (by rw [hz])) (by simp [-List.length_flatMap, hlen]) ?_
 simpa using hK
theorem F7 {v0 : Value} [h : SL t e k by' z] (hk : 0 < k := by decide) (hb : 1 * k ≤ 2 ^ 24 := by decide) (h0 : v0.cells.size = k := by simp) (hK : ∀ b, TW κ S w0 (.own e k (.slice (some ⟨b, 0, none⟩) 1 1) 1 (v0.cells.toList) :: H) (K (.slice (some ⟨b, 0, none⟩) 1 1))) :
  TW κ S w0 H (B4 PR X (Instr.buildSlice t 1 #[(0, v0)]) K) := B7p [v0] hk (by omega) hb rfl rfl (by intro v hv; simp only [List.mem_cons, List.not_mem_nil, or_false] at hv; subst hv; assumption) (by simpa using hK)
theorem F9 {v0 v1 : Value} [h : SL t e k by' z] (hk : 0 < k := by decide) (hb : 2 * k ≤ 2 ^ 24 := by decide) (h0 : v0.cells.size = k := by simp) (h1 : v1.cells.size = k := by simp) (hK : ∀ b, TW κ S w0 (.own e k (.slice (some ⟨b, 0, none⟩) 2 2) 2 (v0.cells.toList ++ v1.cells.toList) :: H) (K (.slice (some ⟨b, 0, none⟩) 2 2))) :
  TW κ S w0 H (B4 PR X (Instr.buildSlice t 2 #[(0, v0), (1, v1)]) K) := B7p [v0, v1] hk (by omega) hb rfl rfl (by intro v hv; simp only [List.mem_cons, List.not_mem_nil, or_false] at hv; rcases hv with rfl | rfl <;> assumption) (by simpa using hK)
theorem F8 {v0 v1 v2 : Value} [h : SL t e k by' z] (hk : 0 < k := by decide) (hb : 3 * k ≤ 2 ^ 24 := by decide) (h0 : v0.cells.size = k := by simp) (h1 : v1.cells.size = k := by simp) (h2 : v2.cells.size = k := by simp) (hK : ∀ b, TW κ S w0 (.own e k (.slice (some ⟨b, 0, none⟩) 3 3) 3 (v0.cells.toList ++ v1.cells.toList ++ v2.cells.toList) :: H) (K (.slice (some ⟨b, 0, none⟩) 3 3))) :
  TW κ S w0 H (B4 PR X (Instr.buildSlice t 3 #[(0, v0), (1, v1), (2, v2)]) K) := B7p [v0, v1, v2] hk (by omega) hb rfl rfl (by intro v hv; simp only [List.mem_cons, List.not_mem_nil, or_false] at hv; rcases hv with rfl | rfl | rfl <;> assumption) (by simpa using hK)
theorem F6 {v0 v1 v2 v3 v4 : Value} [h : SL t e k by' z] (hk : 0 < k := by decide) (hb : 5 * k ≤ 2 ^ 24 := by decide) (h0 : v0.cells.size = k := by simp) (h1 : v1.cells.size = k := by simp) (h2 : v2.cells.size = k := by simp) (h3 : v3.cells.size = k := by simp) (h4 : v4.cells.size = k := by simp) (hK : ∀ b, TW κ S w0 (.own e k (.slice (some ⟨b, 0, none⟩) 5 5) 5 (v0.cells.toList ++ v1.cells.toList ++ v2.cells.toList ++ v3.cells.toList ++ v4.cells.toList) :: H) (K (.slice (some ⟨b, 0, none⟩) 5 5))) :
  TW κ S w0 H (B4 PR X (Instr.buildSlice t 5 #[(0, v0), (1, v1), (2, v2), (3, v3), (4, v4)]) K) := B7p [v0, v1, v2, v3, v4] hk (by omega) hb rfl rfl (by intro v hv; simp only [List.mem_cons, List.not_mem_nil, or_false] at hv; rcases hv with rfl | rfl | rfl | rfl | rfl <;> assumption) (by simpa using hK)
theorem G0 {v0 v1 v2 v3 v4 v5 : Value} [h : SL t e k by' z] (hk : 0 < k := by decide) (hb : 6 * k ≤ 2 ^ 24 := by decide) (h0 : v0.cells.size = k := by simp) (h1 : v1.cells.size = k := by simp) (h2 : v2.cells.size = k := by simp) (h3 : v3.cells.size = k := by simp) (h4 : v4.cells.size = k := by simp) (h5 : v5.cells.size = k := by simp) (hK : ∀ b, TW κ S w0 (.own e k (.slice (some ⟨b, 0, none⟩) 6 6) 6 (v0.cells.toList ++ v1.cells.toList ++ v2.cells.toList ++ v3.cells.toList ++ v4.cells.toList ++ v5.cells.toList) :: H) (K (.slice (some ⟨b, 0, none⟩) 6 6))) :
  TW κ S w0 H (B4 PR X (Instr.buildSlice t 6 #[(0, v0), (1, v1), (2, v2), (3, v3), (4, v4), (5, v5)]) K) := B7p [v0, v1, v2, v3, v4, v5] hk (by omega) hb rfl rfl (by intro v hv; simp only [List.mem_cons, List.not_mem_nil, or_false] at hv; rcases hv with rfl | rfl | rfl | rfl | rfl | rfl <;> assumption) (by simpa using hK)
theorem S8.form {w : World} {e : TypeId} {k n : Nat} {v : Value} {xs : List Value} (h : S8 w e k v n xs) : ∃ a c, v = .slice a n c := by
 rcases h.2 with ⟨rfl, rfl⟩ | ⟨g, cap, cur, rfl, _⟩
 ·exact ⟨_, _, rfl⟩
 ·exact ⟨_, _, rfl⟩
theorem C9G {q : Nat} {xs : List Value} {A : Value → WP} (h : ∀ a c, TW κ S w0 (.own e k (.slice a q c) q xs :: H) (A (.slice a q c))) (v : Value) : TW κ S w0 (.own e k v q xs :: H) (A v) := fun w hw => by
 obtain ⟨a, c, rfl⟩ := S8.form (hw.hold _ A1)
 exact h a c w hw
theorem A22 {ty : TypeId} {v x : Value} {q r : Nat} {xs news : List Value} [h : SL t e k by' z] (hs : Sel (.own e k v q xs) H Hr) (hx : P4 κ S w0 H x r news) (hk : 0 < k) (hl : news.length = r * k) (hp : news.all plain = true)
  (h63 : q + r ≤ maxLen) (hby : (q + r) * by' ≤ 140737488355328) (hK : ∀ a c, TW κ S w0 (.own e k (.slice a (q + r) c) (q + r) (xs ++ news) :: Hr) (K (.slice a (q + r) c))) : TW κ S w0 H (B4 PR X (A8 .append #[t, t] ty [v, x]) K) := by
 obtain ⟨⟨_, _, _, h1⟩, ⟨_, h2⟩, h3⟩ := h.ti
 refine TW.perm ?_ hs.perm
 exact D1w (H'' := fun v' => .own e k v' (q + r) (xs ++ news) :: Hr) h1 h2 h3 hk (fun v' => .here) (fun w hw => hx w (hw.perm hs.perm.symm)) hl hp h63 hby (C9G hK)
end
end Go.Proofs.YtpnidmkaobfhiaaGreat
namespace Go.Proofs.YtpnidmkaobfhiaaGreat
open Go
instance : TS 3 (.int .i64 0) := ⟨_, _, G9, rfl⟩
instance : TS 4 (.bool false) := ⟨_, _, ty4, rfl⟩
instance : TS 5 (.int .u8 0) := ⟨_, _, ty5, rfl⟩
instance : TS 9 (.string (ByteArray.mk #[])) := ⟨_, _, ty9, rfl⟩
instance : TG 23 5 (.agg #[(.int .i64 0), (.int .i64 0), (.int .i64 0), (.int .i64 0), (.int .i64 0)]) := ⟨_, _, A4Q, rfl⟩
instance : TS 26 .nilFunc := ⟨_, _, C8x, rfl⟩
instance : TS 31 (.int .i64 0) := ⟨_, _, B4J, rfl⟩
instance : TS 36 (.slice none 0 0) := ⟨_, _, B0G, rfl⟩
instance : SL 36 83 2 16 (.agg #[(.int .i64 0), (.int .i64 0)]) := ⟨⟨_, _, _, B0G⟩, ⟨_, B14⟩, rfl⟩
instance : TG 38 4 (.agg #[(.int .i64 0), (.string (ByteArray.mk #[])), (.slice none 0 0), (.int .i64 0)]) := ⟨_, _, A8L, rfl⟩
instance : TG 49 3 (.agg #[(.bool false), (.bool false), (.bool false)]) := ⟨_, _, A9x, rfl⟩
instance : TS 54 (.slice none 0 0) := ⟨_, _, A8s, rfl⟩
instance : SL 54 3 1 8 (.int .i64 0) := ⟨⟨_, _, _, A8s⟩, ⟨_, G9⟩, rfl⟩
instance : TS 55 (.slice none 0 0) := ⟨_, _, A8v, rfl⟩
instance : SL 55 155 4 40 (.agg #[(.int .i64 0), (.string (ByteArray.mk #[])), (.int .i64 0), (.int .i64 0)]) := ⟨⟨_, _, _, A8v⟩, ⟨_, A2B⟩, rfl⟩
instance : TG 57 4 (.agg #[(.int .i64 0), (.int .i64 0), (.bool false), (.int .i64 0)]) := ⟨_, _, A8P, rfl⟩
instance : TS 69 (.pointer none) := ⟨_, _, C3r, rfl⟩
instance : TS 70 (.pointer none) := ⟨_, _, C5L, rfl⟩
instance : TS 71 (.pointer none) := ⟨_, _, C5r, rfl⟩
instance : TS 72 (.slice none 0 0) := ⟨_, _, B8L, rfl⟩
instance : SL 72 55 1 24 (.slice none 0 0) := ⟨⟨_, _, _, B8L⟩, ⟨_, A8v⟩, rfl⟩
instance : TG 83 2 (.agg #[(.int .i64 0), (.int .i64 0)]) := ⟨_, _, B14, rfl⟩
instance : TS 87 .nilFunc := ⟨_, _, C4r, rfl⟩
instance : TG 91 6 (.agg #[(.int .i64 0), (.int .i64 0), (.int .i64 0), (.int .i64 0), (.bool false), (.int .i64 0)]) := ⟨_, _, A8g, rfl⟩
instance : TS 96 .nilIface := ⟨_, _, C9D, rfl⟩
instance : TS 113 .nilFunc := ⟨_, _, D1b, rfl⟩
instance : TS 128 (.slice none 0 0) := ⟨_, _, B3Q, rfl⟩
instance : SL 128 134 2 32 (.agg #[(.slice none 0 0), (.int .i64 0)]) := ⟨⟨_, _, _, B3Q⟩, ⟨_, B6V⟩, rfl⟩
instance : TS 135 .nilFunc := ⟨_, _, C0n, rfl⟩
instance : TG 136 4 (.agg #[.nilFunc, .nilFunc, .nilFunc, .nilFunc]) := ⟨_, _, C0H, rfl⟩
instance : TS 149 (.slice none 0 0) := ⟨_, _, C1J, rfl⟩
instance : SL 150 216 2 16 (.agg #[(.int .u64 0), (.int .i64 0)]) := ⟨⟨_, _, _, D09⟩, ⟨_, B6c⟩, rfl⟩
instance : TG 152 2 (.agg #[(.slice none 0 0), (.slice none 0 0)]) := ⟨_, _, A8N, rfl⟩
instance : TG 155 4 (.agg #[(.int .i64 0), (.string (ByteArray.mk #[])), (.int .i64 0), (.int .i64 0)]) := ⟨_, _, A2B, rfl⟩
instance : SL 159 87 1 8 .nilFunc := ⟨⟨_, _, _, C0v⟩, ⟨_, C4r⟩, rfl⟩
instance : TS 160 (.slice none 0 0) := ⟨_, _, B3s, rfl⟩
instance : SL 160 174 1 16 .nilIface := ⟨⟨_, _, _, B3s⟩, ⟨_, C0E⟩, rfl⟩
instance : TG 164 2 (.agg #[(.int .i64 0), (.int .i64 0)]) := ⟨_, _, A4F, rfl⟩
instance : TG 170 0 (.agg #[]) := ⟨_, _, B09, rfl⟩
instance : TS 174 .nilIface := ⟨_, _, C0E, rfl⟩
instance : TG 190 6 (.agg #[(.int .i64 0), (.string (ByteArray.mk #[])), (.string (ByteArray.mk #[])), (.int .i64 0), (.int .i64 0), (.int .i64 0)]) := ⟨_, _, A25, rfl⟩
instance : TG 192 7 (.agg #[(.int .i64 0), (.string (ByteArray.mk #[])), (.string (ByteArray.mk #[])), (.int .i64 0), (.int .i64 0), (.int .i64 0), (.int .i64 0)]) := ⟨_, _, B22, rfl⟩
instance : TG 205 2 (.agg #[(.int .i64 0), (.int .i64 0)]) := ⟨_, _, B2s, rfl⟩
instance : TS 206 (.slice none 0 0) := ⟨_, _, B6U, rfl⟩
instance : SL 206 210 2 16 (.agg #[(.int .u64 0), (.int .i64 0)]) := ⟨⟨_, _, _, B6U⟩, ⟨_, A8C⟩, rfl⟩
instance : TS 208 (.int .u64 0) := ⟨_, _, A5g, rfl⟩
instance : TG 210 2 (.agg #[(.int .u64 0), (.int .i64 0)]) := ⟨_, _, A8C, rfl⟩
instance : TG 228 3 (.agg #[(.int .i64 0), (.int .i64 0), (.int .i64 0)]) := ⟨_, _, A8u, rfl⟩
instance : TG 233 38 (.agg #[(.int .u8 0), (.int .u8 0), (.int .u8 0), (.int .u8 0), (.int .u8 0), (.int .u8 0), (.int .u8 0), (.int .u8 0), (.int .u8 0), (.int .u8 0), (.int .u8 0), (.int .u8 0), (.int .u8 0), (.int .u8 0), (.int .u8 0), (.int .u8 0), (.int .u8 0), (.int .u8 0), (.int .u8 0), (.int .u8 0), (.int .u8 0), (.int .u8 0), (.int .u8 0), (.int .u8 0), (.int .u8 0), (.int .u8 0), (.int .u8 0), (.int .u8 0), (.int .u8 0), (.int .u8 0), (.int .u8 0), (.int .u8 0), (.int .u8 0), (.int .u8 0), (.int .u8 0), (.int .u8 0), (.int .u8 0), (.int .u8 0)]) := ⟨_, _, C1D, rfl⟩
instance : TS 234 (.slice none 0 0) := ⟨_, _, B06, rfl⟩
instance : SL 234 5 1 1 (.int .u8 0) := ⟨⟨_, _, _, B06⟩, ⟨_, ty5⟩, rfl⟩
instance : TS 244 .nilFunc := ⟨_, _, D05, rfl⟩
instance : SL 252 205 2 16 (.agg #[(.int .i64 0), (.int .i64 0)]) := ⟨⟨_, _, _, C0W⟩, ⟨_, B2s⟩, rfl⟩
instance : TG 265 3 (.agg #[(.string (ByteArray.mk #[])), (.string (ByteArray.mk #[])), (.int .i64 0)]) := ⟨_, _, B1C, rfl⟩
instance : TG 269 3 (.agg #[(.string (ByteArray.mk #[])), (.string (ByteArray.mk #[])), (.int .i64 0)]) := ⟨_, _, B04, rfl⟩
instance : TS 289 (.slice none 0 0) := ⟨_, _, C0u, rfl⟩
instance : TG 306 2 (.agg #[.nilFunc, (.int .i64 0)]) := ⟨_, _, B1J, rfl⟩
instance : SL 309 9 1 16 (.string (ByteArray.mk #[])) := ⟨⟨_, _, _, C6C⟩, ⟨_, ty9⟩, rfl⟩
instance : TS 314 .nilFunc := ⟨_, _, D1T, rfl⟩
instance : TS 316 (.int .u64 0) := ⟨_, _, C6T, rfl⟩
instance : TS 324 (.slice none 0 0) := ⟨_, _, C1S, rfl⟩
instance : SL 336 306 2 16 (.agg #[.nilFunc, (.int .i64 0)]) := ⟨⟨_, _, _, C1P⟩, ⟨_, B1J⟩, rfl⟩
@[simp] theorem C9g (a : Option Addr) (x y : Operand) (K : Value → WP) : A6 PR (H6 .eql 137 x y (.pointer a) (.pointer none)) K = K (.bool a.isNone) := funext fun w => C0s a x y K w
@[simp] theorem D3B (a0 b0 : Int) (a1 b1 : Int) (x y : Operand) (K : Value → WP) : A6 PR (H6 .eql 164 x y (.agg #[.int .i64 a0, .int .i64 a1]) (.agg #[.int .i64 b0, .int .i64 b1])) K = K (.bool (decide (a0 = b0) && (decide (a1 = b1) && true))) := funext fun w => C1f a0 b0 a1 b1 x y K w
@[simp] theorem D2l (a : Option Addr) (x y : Operand) (K : Value → WP) : A6 PR (H6 .eql 30 x y (.pointer a) (.pointer none)) K = K (.bool a.isNone) := funext fun w => C2H a x y K w
@[simp] theorem D2U (a : Option Addr) (x y : Operand) (K : Value → WP) : A6 PR (H6 .eql 34 x y (.pointer a) (.pointer none)) K = K (.bool a.isNone) := funext fun w => C1w a x y K w
@[simp] theorem D36 (a0 b0 : Bool) (a1 b1 : Bool) (a2 b2 : Bool) (x y : Operand) (K : Value → WP) : A6 PR (H6 .eql 49 x y (.agg #[.bool a0, .bool a1, .bool a2]) (.agg #[.bool b0, .bool b1, .bool b2])) K = K (.bool ((a0 == b0) && ((a1 == b1) && ((a2 == b2) && true)))) := funext fun w => C4K a0 b0 a1 b1 a2 b2 x y K w
@[simp] theorem D4v (a0 b0 : Int) (a1 b1 : Int) (a2 b2 : Bool) (a3 b3 : Int) (x y : Operand) (K : Value → WP) : A6 PR (H6 .eql 57 x y (.agg #[.int .i64 a0, .int .i64 a1, .bool a2, .int .i64 a3]) (.agg #[.int .i64 b0, .int .i64 b1, .bool b2, .int .i64 b3])) K = K (.bool (decide (a0 = b0) && (decide (a1 = b1) && ((a2 == b2) && (decide (a3 = b3) && true))))) := funext fun w => C4T a0 b0 a1 b1 a2 b2 a3 b3 x y K w
@[simp] theorem D3V (a : Option Addr) (x y : Operand) (K : Value → WP) : A6 PR (H6 .eql 63 x y (.pointer a) (.pointer none)) K = K (.bool a.isNone) := funext fun w => C12 a x y K w
@[simp] theorem D1c (a : Option Addr) (x y : Operand) (K : Value → WP) : A6 PR (H6 .neq 137 x y (.pointer a) (.pointer none)) K = K (.bool (!a.isNone)) := funext fun w => C07 a x y K w
@[simp] theorem D3Y (a0 b0 : Int) (a1 b1 : ByteArray) (a2 b2 : Int) (a3 b3 : Int) (x y : Operand) (K : Value → WP) : A6 PR (H6 .neq 155 x y (.agg #[.int .i64 a0, .string a1, .int .i64 a2, .int .i64 a3]) (.agg #[.int .i64 b0, .string b1, .int .i64 b2, .int .i64 b3])) K = K (.bool !(decide (a0 = b0) && ((a1 == b1) && (decide (a2 = b2) && (decide (a3 = b3) && true))))) := funext fun w => C1s a0 b0 a1 b1 a2 b2 a3 b3 x y K w
@[simp] theorem D3d (a : Option Addr) (x y : Operand) (K : Value → WP) : A6 PR (H6 .neq 30 x y (.pointer a) (.pointer none)) K = K (.bool (!a.isNone)) := funext fun w => C2U a x y K w
@[simp] theorem D4U (a0 b0 : Int) (a1 b1 : Int) (a2 b2 : Bool) (a3 b3 : Int) (x y : Operand) (K : Value → WP) : A6 PR (H6 .neq 57 x y (.agg #[.int .i64 a0, .int .i64 a1, .bool a2, .int .i64 a3]) (.agg #[.int .i64 b0, .int .i64 b1, .bool b2, .int .i64 b3])) K = K (.bool !(decide (a0 = b0) && (decide (a1 = b1) && ((a2 == b2) && (decide (a3 = b3) && true))))) := funext fun w => C5T a0 b0 a1 b1 a2 b2 a3 b3 x y K w
@[simp] theorem D2J (a : Option Addr) (x y : Operand) (K : Value → WP) : A6 PR (H6 .neq 69 x y (.pointer a) (.pointer none)) K = K (.bool (!a.isNone)) := funext fun w => C13 a x y K w
@[simp] theorem D3m (a : Option Addr) (x y : Operand) (K : Value → WP) : A6 PR (H6 .neq 70 x y (.pointer a) (.pointer none)) K = K (.bool (!a.isNone)) := funext fun w => C2W a x y K w
@[simp] theorem D3G (a : Option Addr) (x y : Operand) (K : Value → WP) : A6 PR (H6 .neq 71 x y (.pointer a) (.pointer none)) K = K (.bool (!a.isNone)) := funext fun w => C26 a x y K w
end Go.Proofs.YtpnidmkaobfhiaaGreat
namespace Go.Proofs.YtpnidmkaobfhiaaGreat
open Go
def B4k (n i : Nat) : List Value := [.int .i64 (i : Int), .int .u64 (8 * ((n : Int) - 1 - i))]
abbrev C2F (b : Nat) : Value := .func (.func 176) #[] #[.pointer (some ⟨b, 0, none⟩)]
theorem B68 (w : World) (n : Int) : Fn PR B6 146 #[.int .i64 n] w (Rn [] w (fun b v => v = C2F b) fun b => [.pt b (.cells #[.int .i64 n] 3)]) := by
 refine B4x (TW.go (κ := false) (S := []) ?_)
 unfold A6s
 (have zz:=trivial;repeat((first|clear zz|with_reducible first|refine A3 ?_|refine A5 fun _=>?_|refine A4 fun _=>?_);try simp(disch:=first|omega|assumption|((repeat(first|exact A1|exact uH|apply A2|apply uT));first|done|fail)|(simp;first|done|omega|fail))[]))
 rename_i b
 exact v8 b rfl (by simp)
theorem B65 (b : Nat) {n : Nat} (hn : n ≤ 8) : A4H (C2F b) [.pt b (.cells #[.int .i64 (n : Int)] 3)] (fun _ _ => True) ((List.range n).map (B4k n)) := by
 refine ⟨_, _, _, rfl, fun l J E hJ hE stJ stE hy w0 h0 => ?_⟩
 refine B1b (B1Y (TW.at (κ := true) ?_ (hJ _ _ _ h0).1))
 unfold A32
 (have zz:=trivial;repeat((first|clear zz|with_reducible first|refine A3 ?_|refine A5 fun _=>?_|refine A4 fun _=>?_);try simp(disch:=first|omega|assumption|((repeat(first|exact A1|exact uH|apply A2|apply uT));first|done|fail)|(simp;first|done|omega|fail))[]))
 refine A3D n (fun i => i) (fun _ => _) hJ stJ h0 fun i a hi hJi _ L hL => ?_
 by_cases hlt : i < n
 ·(have zz:=trivial;repeat((first|clear zz|with_reducible first|refine A3 ?_|refine A5 fun _=>?_|refine A4 fun _=>?_);try simp(disch:=first|omega|assumption|((repeat(first|exact A1|exact uH|apply A2|apply uT));first|done|fail)|(simp;first|done|omega|fail))[hlt]))
  refine A5U hJ hE stJ hy hJi (by simpa using hlt) (by simp [B4k]) (fun w3 h => ?_) (fun w3 h => ?_)
  ·(have zz:=trivial;repeat((first|clear zz|with_reducible first|refine A3 ?_|refine A5 fun _=>?_|refine A4 fun _=>?_);try simp(disch:=first|omega|assumption|((repeat(first|exact A1|exact uH|apply A2|apply uT));first|done|fail)|(simp;first|done|omega|fail))[]))
   exact fun w' hw' => hL hlt w' (stJ _ _ _ _ _ h hw')
  ·(have zz:=trivial;repeat((first|clear zz|with_reducible first|refine A3 ?_|refine A5 fun _=>?_|refine A4 fun _=>?_);try simp(disch:=first|omega|assumption|((repeat(first|exact A1|exact uH|apply A2|apply uT));first|done|fail)|(simp;first|done|omega|fail))[]))
   exact A3W stE h
 ·obtain rfl : i = n := by omega
  (have zz:=trivial;repeat((first|clear zz|with_reducible first|refine A3 ?_|refine A5 fun _=>?_|refine A4 fun _=>?_);try simp(disch:=first|omega|assumption|((repeat(first|exact A1|exact uH|apply A2|apply uT));first|done|fail)|(simp;first|done|omega|fail))[]))
  exact A29 stJ (by simpa using hJi)
def F4 (s : ByteArray) (i : Nat) : Nat := (s.data.getD i 0).toNat
def u6 (s : ByteArray) (a : Nat) : Nat → Nat
 | 0 => 0
 | i + 1 => u6 s a i * 256 + F4 s (a + i)
theorem A1b (s : ByteArray) (i : Nat) : F4 s i < 256 := (s.data.getD i 0).toNat_lt
theorem B0r (s : ByteArray) (a i : Nat) : u6 s a i < 256 ^ i := by
 induction i with
 | zero => simp [u6]
 | succ i ih =>
  have := A1b s (a + i)
  simp only [u6, Nat.pow_succ]
  omega
theorem A00 {s : ByteArray} {i : Nat} (h : i < s.size) : ∃ b : UInt8, s[i]? = some b ∧ b.toNat = F4 s i := by
 refine ⟨s[i], by simp [h], ?_⟩
 have h' : i < s.data.size := h
 have e : s.data.getD i 0 = s[i] := by rw [Array.getD_eq_getD_getElem?, Array.getElem?_eq_getElem h']; rfl
 rw [F4, e]
def A24 (s : ByteArray) (a n : Int) : Bool := decide (1 ≤ n ∧ n ≤ 8 ∧ 0 ≤ a ∧ a ≤ s.size - n)
def A6J (s : ByteArray) (a n : Int) : Int := if A24 s a n = true then (u6 s a.toNat n.toNat : Nat) else 0
theorem A3K (w : World) (s : ByteArray) (hs : s.size < 2 ^ 63) (a n : Int) :
  Fn PR B6 144 #[.string s, .int .i64 a, .int .i64 n] w (fun v w' => v = .tuple #[.int .u64 (A6J s a n), .bool (A24 s a n)] ∧ C6 [] w w') := by
 refine Fn.pure (B6p (TW.go (κ := false) (S := []) ?_))
 unfold A9q
 by_cases hok : A24 s a n = true
 case neg =>
  have hv : A6J s a n = 0 := if_neg hok
  have hok' : A24 s a n = false := by simpa using hok
  rw [hv, hok']
  have hc : n < 1 ∨ 8 < n ∨ a < 0 ∨ (s.size : Int) - n < a := by
   simp only [A24, decide_eq_true_eq] at hok; omega
  by_cases h1 : n < 1
  ·(have zz:=trivial;repeat((first|clear zz|with_reducible first|refine A3 ?_|refine A5 fun _=>?_|refine A4 fun _=>?_);try simp(disch:=first|omega|assumption|((repeat(first|exact A1|exact uH|apply A2|apply uT));first|done|fail)|(simp;first|done|omega|fail))[h1])); exact B0 rfl
  by_cases h2 : 8 < n
  ·(have zz:=trivial;repeat((first|clear zz|with_reducible first|refine A3 ?_|refine A5 fun _=>?_|refine A4 fun _=>?_);try simp(disch:=first|omega|assumption|((repeat(first|exact A1|exact uH|apply A2|apply uT));first|done|fail)|(simp;first|done|omega|fail))[h1, h2])); exact B0 rfl
  by_cases h3 : a < 0
  ·(have zz:=trivial;repeat((first|clear zz|with_reducible first|refine A3 ?_|refine A5 fun _=>?_|refine A4 fun _=>?_);try simp(disch:=first|omega|assumption|((repeat(first|exact A1|exact uH|apply A2|apply uT));first|done|fail)|(simp;first|done|omega|fail))[h1, h2, h3])); exact B0 rfl
  have h4 : (s.size : Int) - n < a := by omega
  (have zz:=trivial;repeat((first|clear zz|with_reducible first|refine A3 ?_|refine A5 fun _=>?_|refine A4 fun _=>?_);try simp(disch:=first|omega|assumption|((repeat(first|exact A1|exact uH|apply A2|apply uT));first|done|fail)|(simp;first|done|omega|fail))[h1, h2, h3, h4])); exact B0 rfl
 have hv : A6J s a n = (u6 s a.toNat n.toNat : Nat) := if_pos hok
 rw [hv, hok]
 simp only [A24, decide_eq_true_eq] at hok
 obtain ⟨m, rfl⟩ : ∃ m : Nat, n = m := ⟨n.toNat, by omega⟩
 obtain ⟨k, rfl⟩ : ∃ k : Nat, a = k := ⟨a.toNat, by omega⟩
 have h1 : ¬ (m : Int) < 1 := by omega
 have h2 : ¬ 8 < (m : Int) := by omega
 have h4 : ¬ (s.size : Int) - m < k := by omega
 have h5 : ¬ (k : Int) < 0 := by omega
 (have zz:=trivial;repeat((first|clear zz|with_reducible first|refine A3 ?_|refine A5 fun _=>?_|refine A4 fun _=>?_);try simp(disch:=first|omega|assumption|((repeat(first|exact A1|exact uH|apply A2|apply uT));first|done|fail)|(simp;first|done|omega|fail))[h1, h2, h4, h5]))
 rename_i bs ba bv
 refine H9 A55 (fun w' _ => B68 w' m) ?_
 rintro b v rfl
 refine A28 (B65 b (n := m) (by omega)) (by simp [B4k]) (fun _ (_ : Unit) => True) (fun i _ => [.pt bv (.cells #[.int .u64 ((u6 s k i * 256 ^ (m - i) : Nat) : Int)] 208), .pt ba (.cells #[.int .i64 (k : Int)] 3), .pt bs (.cells #[.string s] 9)])
  (fun _ (_ : Unit) => False) (fun _ => []) () trivial ?_ ?_ ?_ ?_ (by simp [u6])
 ·intros; trivial
 ·rintro i hi _ F _ K' hK _
  have hi' : i < m := by simpa using hi
  obtain ⟨by0, hb0, hb1⟩ := A00 (s := s) (i := k + i) (by omega)
  have hidx : ((k : Int) + i).toNat = k + i := by omega
  have hbl := A1b s (k + i)
  rw [← hidx] at hb0
  have hsh : (0 : Int) ≤ 8 * ((m : Int) - 1 - i) := by omega
  simp only [List.getElem_map, List.getElem_range, B4k, VF.app]
  (have zz:=trivial;repeat((first|clear zz|with_reducible first|refine A3 ?_|refine A5 fun _=>?_|refine A4 fun _=>?_);try simp(disch:=first|omega|assumption|((repeat(first|exact A1|exact uH|apply A2|apply uT));first|done|fail)|(simp;first|done|omega|fail))[g6]))
  refine TW.eqH ?_ (hK () trivial)
  have hlt : (u6 s k i * 256 + F4 s (k + i)) * 256 ^ (m - 1 - i) < 2 ^ 64 := by
   have hA : u6 s k (i + 1) < 256 ^ (i + 1) := B0r s k (i + 1)
   have h8 : 256 ^ (i + 1) * 256 ^ (m - 1 - i) ≤ 2 ^ 64 := by
    rw [← Nat.pow_add, show (2 : Nat) ^ 64 = 256 ^ 8 from rfl]
    exact Nat.pow_le_pow_right (by omega) (by omega)
   exact Nat.lt_of_lt_of_le (Nat.mul_lt_mul_of_pos_right hA (Nat.pow_pos (by omega))) h8
  have hval := C6f hbl hlt (by omega)
  rw [show m - (i + 1) = m - 1 - i from by omega]
  simp [u6, ← hval]
  rw [hb1, show (8 * ((m : Int) - 1 - i)).toNat = 8 * (m - 1 - i) from by omega, show m - i = m - 1 - i + 1 from by omega]
 ·rintro _ _
  (have zz:=trivial;repeat((first|clear zz|with_reducible first|refine A3 ?_|refine A5 fun _=>?_|refine A4 fun _=>?_);try simp(disch:=first|omega|assumption|((repeat(first|exact A1|exact uH|apply A2|apply uT));first|done|fail)|(simp;first|done|omega|fail))[]))
  exact B0 (by simp)
 ·rintro _ _ h; exact h.elim
def B6k (v : Int) (n i : Nat) : Int := IntKind.u8.wrap (v.fdiv (2 ^ min (8 * ((n : Int) - 1 - i)).toNat IntKind.u64.bits))
def A0x (v : Int) (n i : Nat) : List Int := (List.range n).map fun j => if j < i then B6k v n j else 0
def M2 (v n : Int) : ByteArray := if 1 ≤ n ∧ n ≤ 8 then A4P (A0x v n.toNat n.toNat) else ByteArray.mk #[]
theorem C5S (v : Int) {n i : Nat} (h : i < n) : (A0x v n i).set i (B6k v n i) = A0x v n (i + 1) := by
 apply List.ext_getElem (by simp [A0x])
 intro j h1 h2
 simp only [A0x, List.length_set, List.length_map, List.length_range] at h1
 rw [List.getElem_set]
 simp only [A0x, List.getElem_map, List.getElem_range]
 by_cases hij : i = j
 ·subst hij; simp
 ·by_cases hj : j < i
  ·simp [hij, hj, Nat.lt_succ_of_lt hj]
  ·have : ¬ j < i + 1 := by omega
   simp [hij, hj, this]
def A6n (v : Int) (n i : Nat) : Array Value := ((A0x v n i).map (Value.int .u8)).toArray
theorem C2p (v : Int) {m : Nat} (h : m ≤ 8) : Builtin.zeroCells (Value.int .u8 0).cells m = A6n v m 0 := by
 have : m = 0 ∨ m = 1 ∨ m = 2 ∨ m = 3 ∨ m = 4 ∨ m = 5 ∨ m = 6 ∨ m = 7 ∨ m = 8 := by omega
 rcases this with rfl | rfl | rfl | rfl | rfl | rfl | rfl | rfl | rfl <;>
  (apply Array.ext'; simp [Builtin.zeroCells, A6n, A0x, List.range, List.range.loop])
@[simp] theorem D23 {v n : Int} (h1 : 1 ≤ n) (h2 : n ≤ 8) : (M2 v n).size = n.toNat := by simp [M2, h1, h2, A0x]
theorem v6 (w : World) (v n : Int) :
  Fn PR B6 114 #[.int .u64 v, .int .i64 n] w (fun u w' => u = .string (M2 v n) ∧ C6 [] w w') := by
 refine Fn.pure (B71 (TW.go (κ := false) (S := []) ?_))
 unfold A96
 by_cases hok : 1 ≤ n ∧ n ≤ 8
 case neg =>
  have hv : M2 v n = ByteArray.mk #[] := if_neg hok
  rw [hv]
  by_cases h1 : n < 1
  ·(have zz:=trivial;repeat((first|clear zz|with_reducible first|refine A3 ?_|refine A5 fun _=>?_|refine A4 fun _=>?_);try simp(disch:=first|omega|assumption|((repeat(first|exact A1|exact uH|apply A2|apply uT));first|done|fail)|(simp;first|done|omega|fail))[h1])); exact B0 rfl
  ·have h2 : 8 < n := by omega
   (have zz:=trivial;repeat((first|clear zz|with_reducible first|refine A3 ?_|refine A5 fun _=>?_|refine A4 fun _=>?_);try simp(disch:=first|omega|assumption|((repeat(first|exact A1|exact uH|apply A2|apply uT));first|done|fail)|(simp;first|done|omega|fail))[h1, h2])); exact B0 rfl
 have hv : M2 v n = A4P (A0x v n.toNat n.toNat) := if_pos hok
 rw [hv]
 obtain ⟨m, rfl⟩ : ∃ m : Nat, n = m := ⟨n.toNat, by omega⟩
 have h1 : ¬ (m : Int) < 1 := by omega
 have h2 : ¬ 8 < (m : Int) := by omega
 (have zz:=trivial;repeat((first|clear zz|with_reducible first|refine A3 ?_|refine A5 fun _=>?_|refine A4 fun _=>?_);try simp(disch:=first|omega|assumption|((repeat(first|exact A1|exact uH|apply A2|apply uT));first|done|fail)|(simp;first|done|omega|fail))[h1, h2]))
 refine A6N (by omega) (by omega) (by omega) (by omega) fun bs => ?_
 rw [Int.toNat_natCast, C2p v (by omega)]
 (have zz:=trivial;repeat((first|clear zz|with_reducible first|refine A3 ?_|refine A5 fun _=>?_|refine A4 fun _=>?_);try simp(disch:=first|omega|assumption|((repeat(first|exact A1|exact uH|apply A2|apply uT));first|done|fail)|(simp;first|done|omega|fail))[h1, h2]))
 rename_i bv bb
 refine H9 A55 (fun w' _ => B68 w' m) ?_
 rintro b v rfl
 refine A28 (B65 b (n := m) (by omega)) (by simp [B4k]) (fun _ (_ : Unit) => True) (fun i _ => [.pt bb (.cells #[.slice (some ⟨bs, 0, none⟩) m m] 234),
   .own 5 1 (.slice (some ⟨bs, 0, none⟩) m m) m (A6n v m i).toList, .pt bv (.cells #[.int .u64 v] 208)])
  (fun _ (_ : Unit) => False) (fun _ => []) () trivial ?_ ?_ ?_ ?_ (by simp)
 ·intros; trivial
 ·rintro i hi _ F _ K' hK _
  have hi' : i < m := by simpa using hi
  have hsh : (0 : Int) ≤ 8 * ((m : Int) - 1 - i) := by omega
  simp only [List.getElem_map, List.getElem_range, B4k, VF.app]
  (have zz:=trivial;repeat((first|clear zz|with_reducible first|refine A3 ?_|refine A5 fun _=>?_|refine A4 fun _=>?_);try simp(disch:=first|omega|assumption|((repeat(first|exact A1|exact uH|apply A2|apply uT));first|done|fail)|(simp;first|done|omega|fail))[]))
  refine Q7 (by (repeat constructor)) (by simp) (by simp [A6n, A0x]; omega) (by simp) ?_
  refine TW.eqH ?_ (hK () trivial)
  have e : W0 (A6n v m i).toList i [.int .u8 (B6k v m i)] = (A6n v m (i + 1)).toList := by
   rw [B7S (by simp [A6n, A0x]; omega)]; simp [A6n, ← C5S v hi', List.map_set]
  rw [← e]; simp [B6k]
 ·rintro _ _
  (have zz:=trivial;repeat((first|clear zz|with_reducible first|refine A3 ?_|refine A5 fun _=>?_|refine A4 fun _=>?_);try simp(disch:=first|omega|assumption|((repeat(first|exact A1|exact uH|apply A2|apply uT));first|done|fail)|(simp;first|done|omega|fail))[]))
  have hlen : (A0x v m m).length = m := by simp [A0x]
  have := fun w' K (hr : N6 w' bs 0 ((A0x v m m).map (Value.int .u8))) => @B9J K w' bs 0 m _ hr
  rw [hlen] at this
  rw [D0l fun w' hw' => this w' _ (by simpa [A6n] using hw'.ownr (e := 5) (k := 1) (q := m) (c := m) (xs := (A6n v m m).toList) (by (repeat constructor)))]
  simp only [D1r]
  exact B0 rfl
 ·rintro _ _ h; exact h.elim
end Go.Proofs.YtpnidmkaobfhiaaGreat
