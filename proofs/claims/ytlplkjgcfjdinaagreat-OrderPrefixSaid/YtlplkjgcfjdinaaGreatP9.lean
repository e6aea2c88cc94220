/- The proof of a given statement, a part of it (ShFlows ShProbe ShPacket ShPort). No condition but what each lemma says. -/
import Derived.Test.YtlplkjgcfjdinaaGreatP8
set_option linter.unusedVariables false
set_option linter.unusedSimpArgs false
namespace Go.Proofs.YtlplkjgcfjdinaaGreat
open Go
def A5f (X : Nat → Prop) (t0 : Value) (R : Value → WP) : WP :=
 A0 PR (A8 .min #[3, 3] 0 [t0, (.int .i64 64)]) fun t4 =>
 A0 PR (A8 .max #[3, 3] 0 [(.int .i64 0), t4]) fun t5 =>
 B1 PR X (Instr.makeSlice 79 t5 t5) fun t6 =>
 R t6
theorem A5A : B0 PR 33 := A7 Tryz.func33 (by kernel_rfl) rfl
theorem B14 {X : Nat → Prop} {t0 : Value} {R : Value → WP} {w : World} (h : A5f X t0 R w) : Fn PR X 33 #[t0] w R := C8 (args := [t0]) mixed Tryz.func33 (by kernel_rfl) h
def A2w (X : Nat → Prop) (t0 t1 : Value) (R : Value → WP) : WP :=
 B1 PR X (Instr.box 9 t1) fun t3 =>
 A0 PR (Instr.makeFunc (.func 129) #[] #[t3]) fun t10 =>
 B7 PR X 128 [t0, t10] fun t11 =>
 A0 PR (Instr.extract t11 0) fun t12 =>
 A0 PR (Instr.extract t11 1) fun t13 =>
 jn (n := 1) (fun t6 =>
 R (.tuple #[t6, t13])) fun J1 =>
 gj t13 true (fun J => J t12) fun t16 =>
 gj t13 true (fun J => B7 PR X 105 [t16, (.int .i64 2)] J) fun t17 =>
 gj t13 true (fun J => A0 PR (binOp .mul 3 (.int .i64 2) t17) J) fun t18 =>
 gj t13 true (fun J => J t12) fun t19 =>
 gj t13 true (fun J => A0 PR (A8 .len #[79] 0 [t19]) J) fun t20 =>
 gj t13 true (fun J => A0 PR (binOp .gtr 3 t18 t20) J) fun t21 =>
 A0 PR (do pure (if ← asBool t13 then t21 else (.bool false))) fun t22 =>
 B6 t22 (
 B7 PR X 106 [t12] fun t24 =>
 J1 t24) (
 J1 t12)
theorem A7b : B0 PR 99 := A7 Tryz.func99 (by kernel_rfl) rfl
theorem A8T {X : Nat → Prop} {t0 t1 : Value} {R : Value → WP} {w : World} (h : A2w X t0 t1 R w) : Fn PR X 99 #[t0, t1] w R := C8 (args := [t0, t1]) mixed Tryz.func99 (by kernel_rfl) h
def A6Q (X : Nat → Prop) (t0 t1 t2 t3 : Value) (R : Value → WP) : WP :=
 A0 PR (Instr.build 119 #[(0, (.int .i64 1)), (1, t1), (2, t2), (3, t3)]) fun t16 =>
 B1 PR X (Instr.alloc 119 true (.tuple #[])) fun t10 =>
 B8 PR X (Instr.storeAt 119 t10 t16) <|
 A0 PR (Instr.makeFunc (.func 130) #[] #[t10]) fun t19 =>
 B7 PR X 128 [t0, t19] fun t20 =>
 A0 PR (Instr.extract t20 0) fun t21 =>
 A0 PR (Instr.extract t20 1) fun t22 =>
 jn (n := 2) (fun t8 t9 =>
 R (.tuple #[t21, (.int .i64 0)])) fun J1 =>
 A0 PR (Op.unary .not t22) fun t24 =>
 B6 t24 (
 R (.tuple #[t21, (.int .i64 12)])) (
 J1 (.slice none 0 0) (.int .i64 0))
theorem B0p : B0 PR 100 := A7 Tryz.func100 (by kernel_rfl) rfl
theorem B1x {X : Nat → Prop} {t0 t1 t2 t3 : Value} {R : Value → WP} {w : World} (h : A6Q X t0 t1 t2 t3 R w) : Fn PR X 100 #[t0, t1, t2, t3] w R := C8 (args := [t0, t1, t2, t3]) mixed Tryz.func100 (by kernel_rfl) h
def A5B (X : Nat → Prop) (t0 : Value) (R : Value → WP) : WP :=
 A0 PR (A8 .len #[79] 0 [t0]) fun t7 =>
 B7 PR X 33 [t7] fun t8 =>
 B1 PR X (Instr.alloc 205 true (.tuple #[])) fun t3 =>
 B8 PR X (Instr.storeAt 205 t3 t8) <|
 jn (n := 0) (
 A6 PR (Instr.loadAt 205 t3) fun t16 =>
 U5 (R t16)) fun J1 =>
 B7 PR X 137 [t0] fun t10 =>
 rng (N := 2) PR X (fun t11 t12 K2 =>
 B1 PR (fun _ => False) (Instr.alloc 119 true (.tuple #[])) fun t5 =>
 B8 PR (fun _ => False) (Instr.storeAt 119 t5 t12) <|
 bgn <|
 A6 PR (Instr.loadAt 205 t3) fun t13 =>
 A6 PR (Instr.loadAt 119 t5) fun t14 =>
 B7 PR (fun _ => False) 131 [t13, t14] fun t15 =>
 K2 none) t10 (fun j => match j with | none => (J1) | some (.exit i) => (match Nat.beq i 0 with | true => (J1) | false => (E7)) | some .ret => (U5 (R (.slice none 0 0))) | some _ => E7)
theorem A30 : B0 PR 106 := A7 Tryz.func106 (by kernel_rfl) rfl
theorem B0z {X : Nat → Prop} {t0 : Value} {R : Value → WP} {w : World} (h : A5B X t0 R w) : Fn PR X 106 #[t0] w R := C8 (args := [t0]) mixed Tryz.func106 (by kernel_rfl) h
def A18 (X : Nat → Prop) (t0 t1 : Value) (R : Value → WP) : WP :=
 B7 PR X 103 [t0] fun t8 =>
 jn (n := 2) (fun t4 t5 =>
 R (.tuple #[t8, (.bool true)])) fun J1 =>
 F5 PR X t1 [t8] fun t11 =>
 A0 PR (Op.unary .not t11) fun t12 =>
 B6 t12 (
 R (.tuple #[t0, (.bool false)])) (
 J1 (.slice none 0 0) (.bool false))
theorem A1M : B0 PR 128 := A7 Tryz.func128 (by kernel_rfl) rfl
theorem A7V {X : Nat → Prop} {t0 t1 : Value} {R : Value → WP} {w : World} (h : A18 X t0 t1 R w) : Fn PR X 128 #[t0, t1] w R := C8 (args := [t0, t1]) mixed Tryz.func128 (by kernel_rfl) h
def A1A (X : Nat → Prop) (t0 t1 : Value) (R : Value → WP) : WP :=
 A6 PR (Instr.loadAt 9 t1) fun t6 =>
 B7 PR X 124 [t0, t6] fun t7 =>
 jn (n := 1) (fun t3 =>
 A0 PR (Instr.build 119 #[(0, (.int .i64 2))]) fun t12 =>
 A0 PR (Instr.indexAt 205 t0 t7) fun t13 =>
 B8 PR X (Instr.storeAt 119 t13 t12) <|
 R (.bool true)) fun J1 =>
 A0 PR (binOp .lss 3 t7 (.int .i64 0)) fun t9 =>
 B6 t9 (
 R (.bool false)) (
 J1 (.bool false))
theorem A5K : B0 PR 129 := A7 Tryz.func129 (by kernel_rfl) rfl
theorem A5U {X : Nat → Prop} {t0 t1 : Value} {R : Value → WP} {w : World} (h : A1A X t0 t1 R w) : Fn PR X 129 #[t0, t1] w R := C8 (args := [t0, t1]) mixed Tryz.func129 (by kernel_rfl) h
def A2g (X : Nat → Prop) (t0 t1 : Value) (R : Value → WP) : WP :=
 A6 PR (Instr.loadAt 119 t1) fun t5 =>
 B7 PR X 131 [t0, t5] fun t6 =>
 R t6
theorem A7k : B0 PR 130 := A7 Tryz.func130 (by kernel_rfl) rfl
theorem A76 {X : Nat → Prop} {t0 t1 : Value} {R : Value → WP} {w : World} (h : A2g X t0 t1 R w) : Fn PR X 130 #[t0, t1] w R := C8 (args := [t0, t1]) mixed Tryz.func130 (by kernel_rfl) h
def A08 (X : Nat → Prop) (t0 t1 : Value) (R : Value → WP) : WP :=
 B1 PR X (Instr.box 119 t1) fun t3 =>
 A0 PR (Instr.fieldAt 119 t3 1) fun t7 =>
 A6 PR (Instr.loadAt 9 t7) fun t8 =>
 B7 PR X 124 [t0, t8] fun t9 =>
 jn (n := 1) (fun t5 =>
 jn (n := 1) (fun t4 =>
 A6 PR (Instr.loadAt 119 t3) fun t20 =>
 A0 PR (Instr.indexAt 205 t0 t5) fun t21 =>
 B8 PR X (Instr.storeAt 119 t21 t20) <|
 R (.bool true)) fun J1 =>
 A0 PR (binOp .lss 3 t5 (.int .i64 0)) fun t17 =>
 B6 t17 (
 R (.bool false)) (
 J1 (.bool false))) fun J2 =>
 A0 PR (binOp .lss 3 t9 (.int .i64 0)) fun t11 =>
 B6 t11 (
 A0 PR (Instr.fieldAt 119 t3 1) fun t13 =>
 A6 PR (Instr.loadAt 9 t13) fun t14 =>
 B7 PR X 160 [t0, t14] fun t15 =>
 J2 t15) (
 J2 t9)
theorem A0D : B0 PR 131 := A7 Tryz.func131 (by kernel_rfl) rfl
theorem A58 {X : Nat → Prop} {t0 t1 : Value} {R : Value → WP} {w : World} (h : A08 X t0 t1 R w) : Fn PR X 131 #[t0, t1] w R := C8 (args := [t0, t1]) mixed Tryz.func131 (by kernel_rfl) h
def A0N (X : Nat → Prop) (t0 : Value) (R : Value → WP) : WP :=
 B1 PR X (Instr.box 205 t0) fun t1 =>
 A0 PR (Instr.makeFunc (.func 162) #[] #[t1]) fun t3 =>
 R t3
theorem A4G : B0 PR 137 := A7 Tryz.func137 (by kernel_rfl) rfl
theorem A5J {X : Nat → Prop} {t0 : Value} {R : Value → WP} {w : World} (h : A0N X t0 R w) : Fn PR X 137 #[t0] w R := C8 (args := [t0]) mixed Tryz.func137 (by kernel_rfl) h
def q8 (X : Nat → Prop) (t0 t1 : Value) (R : Value → WP) : WP :=
 A6 PR (Instr.loadAt 205 t1) fun t5 =>
 A0 PR (A8 .len #[205] 0 [t5]) fun t6 =>
 lp (n := 1) (fun L1 t7 =>
 A0 PR (binOp .lss 3 t7 t6) fun t8 =>
 jn (n := 0) (
 jn (n := 0) (
 A0 PR (binOp .add 3 t7 (.int .i64 1)) fun t22 =>
 L1 t22) fun J2 =>
 A0 PR (Instr.indexAt 205 t5 t7) fun t10 =>
 A6 PR (Instr.loadAt 119 t10) fun t11 =>
 B1 PR X (Instr.alloc 119 true (.tuple #[])) fun t4 =>
 B8 PR X (Instr.storeAt 119 t4 t11) <|
 A0 PR (Instr.fieldAt 119 t4 0) fun t12 =>
 A6 PR (Instr.loadAt 3 t12) fun t13 =>
 A0 PR (binOp .eql 3 t13 (.int .i64 1)) fun t14 =>
 gj t14 true (fun J => J t0) fun t16 =>
 gj t14 true (fun J => J t7) fun t17 =>
 gj t14 true (fun J => A6 PR (Instr.loadAt 119 t4) J) fun t18 =>
 gj t14 true (fun J => F5 PR X t16 [t17, t18] J) fun t19 =>
 gj t14 true (fun J => A0 PR (Op.unary .not t19) J) fun t20 =>
 A0 PR (do pure (if ← asBool t14 then t20 else (.bool false))) fun t21 =>
 B6 t21 (
 R (.tuple #[])) (
 J2)) fun J3 =>
 B6 t8 (
 J3) (
 R (.tuple #[]))) (.int .i64 0)
theorem A2P : B0 PR 162 := A7 Tryz.func162 (by kernel_rfl) rfl
theorem A3D {X : Nat → Prop} {t0 t1 : Value} {R : Value → WP} {w : World} (h : q8 X t0 t1 R w) : Fn PR X 162 #[t0, t1] w R := C8 (args := [t0, t1]) mixed Tryz.func162 (by kernel_rfl) h
theorem A3J {X : Nat → Prop} {t0 t1 : Value} {K : Value → WP} {w : World} (h : Fn PR X 162 #[t0, t1] w K) : s7 PR X 162 [t0, t1] K w := ⟨A2P, h⟩
end Go.Proofs.YtlplkjgcfjdinaaGreat
namespace Go.Proofs.YtlplkjgcfjdinaaGreat
open Go
def A3U (X : Nat → Prop) (t0 t1 : Value) (R : Value → WP) : WP :=
 B1 PR X (Instr.box 3 t1) fun t3 =>
 A0 PR (Instr.makeFunc (.func 136) #[] #[t3]) fun t6 =>
 B7 PR X 135 [t0, t6] fun t7 =>
 R t7
theorem A0B : B0 PR 105 := A7 Tryz.func105 (by kernel_rfl) rfl
theorem A9Z {X : Nat → Prop} {t0 t1 : Value} {R : Value → WP} {w : World} (h : A3U X t0 t1 R w) : Fn PR X 105 #[t0, t1] w R := C8 (args := [t0, t1]) mixed Tryz.func105 (by kernel_rfl) h
def A5C (X : Nat → Prop) (t0 t1 : Value) (R : Value → WP) : WP :=
 B1 PR X (Instr.box 9 t1) fun t3 =>
 B1 PR X (Instr.alloc 3 true (.tuple #[])) fun t5 =>
 B8 PR X (Instr.storeAt 3 t5 (.int .i64 (-1))) <|
 jn (n := 0) (
 A6 PR (Instr.loadAt 3 t5) fun t28 =>
 U5 (R t28)) fun J1 =>
 A6 PR (Instr.loadAt 9 t3) fun t9 =>
 B7 PR X 153 [t0, t9] fun t10 =>
 rng (N := 2) PR X (fun t11 t12 K2 =>
 B1 PR (fun _ => False) (Instr.alloc 119 true (.tuple #[])) fun t7 =>
 B8 PR (fun _ => False) (Instr.storeAt 119 t7 t12) <|
 bgn <|
 A0 PR (Instr.fieldAt 119 t7 0) fun t14 =>
 A6 PR (Instr.loadAt 3 t14) fun t15 =>
 A0 PR (binOp .eql 3 t15 (.int .i64 0)) fun t16 =>
 B6 t16 (
 K2 (some (.exit 0))) (
 A0 PR (Instr.fieldAt 119 t7 0) fun t18 =>
 A6 PR (Instr.loadAt 3 t18) fun t19 =>
 A0 PR (binOp .eql 3 t19 (.int .i64 1)) fun t20 =>
 gj t20 true (fun J => A0 PR (Instr.fieldAt 119 t7 1) J) fun t22 =>
 gj t20 true (fun J => A6 PR (Instr.loadAt 9 t22) J) fun t23 =>
 gj t20 true (fun J => A6 PR (Instr.loadAt 9 t3) J) fun t24 =>
 gj t20 true (fun J => A0 PR (binOp .eql 9 t23 t24) J) fun t25 =>
 A0 PR (do pure (if ← asBool t20 then t25 else (.bool false))) fun t26 =>
 B6 t26 (
 B8 PR (fun _ => False) (Instr.storeAt 3 t5 t11) <|
 K2 (some (.exit 0))) (
 K2 none))) t10 (fun j => match j with | none => (J1) | some (.exit i) => (match Nat.beq i 0 with | true => (J1) | false => (E7)) | some .ret => (U5 (R (.int .i64 0))) | some _ => E7)
theorem m7 : B0 PR 124 := A7 Tryz.func124 (by kernel_rfl) rfl
theorem B1J {X : Nat → Prop} {t0 t1 : Value} {R : Value → WP} {w : World} (h : A5C X t0 t1 R w) : Fn PR X 124 #[t0, t1] w R := C8 (args := [t0, t1]) mixed Tryz.func124 (by kernel_rfl) h
def j8 (X : Nat → Prop) (t0 t1 : Value) (R : Value → WP) : WP :=
 jn (n := 2) (fun t5 t10 =>
 R t5) fun J1 =>
 A0 PR (A8 .len #[79] 0 [t0]) fun t9 =>
 lp (n := 2) (fun L2 t5_1 t10_1 =>
 A0 PR (binOp .lss 3 t10_1 t9) fun t11 =>
 jn (n := 0) (
 jn (n := 1) (fun t5_2 =>
 A0 PR (binOp .add 3 t10_1 (.int .i64 1)) fun t19 =>
 L2 t5_2 t19) fun J3 =>
 A0 PR (Instr.indexAt 79 t0 t10_1) fun t12 =>
 A6 PR (Instr.loadAt 119 t12) fun t13 =>
 B1 PR X (Instr.alloc 119 true (.tuple #[])) fun t7 =>
 B8 PR X (Instr.storeAt 119 t7 t13) <|
 A6 PR (Instr.loadAt 119 t7) fun t15 =>
 F5 PR X t1 [t15] fun t16 =>
 B6 t16 (
 A0 PR (binOp .add 3 t5_1 (.int .i64 1)) fun t18 =>
 J3 t18) (
 J3 t5_1)) fun J4 =>
 B6 t11 (
 J4) (
 J1 t5_1 t10_1)) (.int .i64 0) (.int .i64 0)
theorem A1f : B0 PR 135 := A7 Tryz.func135 (by kernel_rfl) rfl
theorem A1u {X : Nat → Prop} {t0 t1 : Value} {R : Value → WP} {w : World} (h : j8 X t0 t1 R w) : Fn PR X 135 #[t0, t1] w R := C8 (args := [t0, t1]) mixed Tryz.func135 (by kernel_rfl) h
def A1U (X : Nat → Prop) (t0 t1 : Value) (R : Value → WP) : WP :=
 B1 PR X (Instr.box 119 t0) fun t2 =>
 A0 PR (Instr.fieldAt 119 t2 0) fun t4 =>
 A6 PR (Instr.loadAt 3 t4) fun t5 =>
 A6 PR (Instr.loadAt 3 t1) fun t6 =>
 A0 PR (binOp .eql 3 t5 t6) fun t7 =>
 R t7
theorem A6G : B0 PR 136 := A7 Tryz.func136 (by kernel_rfl) rfl
theorem A6w {X : Nat → Prop} {t0 t1 : Value} {R : Value → WP} {w : World} (h : A1U X t0 t1 R w) : Fn PR X 136 #[t0, t1] w R := C8 (args := [t0, t1]) mixed Tryz.func136 (by kernel_rfl) h
def A6C (X : Nat → Prop) (t0 t1 : Value) (R : Value → WP) : WP :=
 B1 PR X (Instr.box 79 t0) fun t2 =>
 B1 PR X (Instr.box 9 t1) fun t3 =>
 A0 PR (Instr.makeFunc (.func 167) #[] #[t3, t2]) fun t5 =>
 R t5
theorem A4y : B0 PR 153 := A7 Tryz.func153 (by kernel_rfl) rfl
theorem B24 {X : Nat → Prop} {t0 t1 : Value} {R : Value → WP} {w : World} (h : A6C X t0 t1 R w) : Fn PR X 153 #[t0, t1] w R := C8 (args := [t0, t1]) mixed Tryz.func153 (by kernel_rfl) h
def A4x (X : Nat → Prop) (t0 t1 : Value) (R : Value → WP) : WP :=
 B1 PR X (Instr.alloc 3 true (.tuple #[])) fun t4 =>
 jn (n := 0) (
 jn (n := 0) (
 B8 PR X (Instr.storeAt 3 t4 (.int .i64 (-1))) <|
 U5 (A6 PR (D2 [.c 3 t4]) R)) fun J1 =>
 B7 PR X 153 [t0, t1] fun t13 =>
 rng (N := 2) PR X (fun t14 t15 K2 =>
 B1 PR (fun _ => False) (Instr.alloc 119 true (.tuple #[])) fun t6 =>
 B8 PR (fun _ => False) (Instr.storeAt 119 t6 t15) <|
 bgn <|
 A0 PR (Instr.fieldAt 119 t6 0) fun t16 =>
 A6 PR (Instr.loadAt 3 t16) fun t17 =>
 A0 PR (binOp .neq 3 t17 (.int .i64 1)) fun t18 =>
 B6 t18 (
 B8 PR (fun _ => False) (Instr.storeAt 3 t4 t14) <|
 K2 (some .ret)) (
 K2 none)) t13 (fun j => match j with | none => (J1) | some (.exit i) => (match Nat.beq i 0 with | true => (J1) | false => (E7)) | some .ret => (U5 (A6 PR (D2 [.c 3 t4]) R)) | some _ => E7)) fun J3 =>
 B7 PR X 124 [t0, t1] fun t9 =>
 A0 PR (binOp .geq 3 t9 (.int .i64 0)) fun t10 =>
 B6 t10 (
 B8 PR X (Instr.storeAt 3 t4 (.int .i64 (-1))) <|
 U5 (A6 PR (D2 [.c 3 t4]) R)) (
 J3)
theorem A89 : B0 PR 160 := A7 Tryz.func160 (by kernel_rfl) rfl
theorem B0w {X : Nat → Prop} {t0 t1 : Value} {R : Value → WP} {w : World} (h : A4x X t0 t1 R w) : Fn PR X 160 #[t0, t1] w R := C8 (args := [t0, t1]) mixed Tryz.func160 (by kernel_rfl) h
def A22 (X : Nat → Prop) (t0 t1 t2 : Value) (R : Value → WP) : WP :=
 A6 PR (Instr.loadAt 9 t1) fun t7 =>
 A6 PR (Instr.loadAt 79 t2) fun t8 =>
 A0 PR (A8 .len #[79] 0 [t8]) fun t9 =>
 B7 PR X 168 [t7, t9] fun t10 =>
 A6 PR (Instr.loadAt 79 t2) fun t11 =>
 A0 PR (A8 .len #[79] 0 [t11]) fun t12 =>
 lp (n := 1) (fun L1 t13 =>
 A0 PR (binOp .lss 3 t13 t12) fun t14 =>
 jn (n := 0) (
 jn (n := 0) (
 A0 PR (binOp .add 3 t13 (.int .i64 1)) fun t30 =>
 L1 t30) fun J2 =>
 A0 PR (binOp .add 3 t10 t13) fun t18 =>
 A6 PR (Instr.loadAt 79 t2) fun t19 =>
 A0 PR (A8 .len #[79] 0 [t19]) fun t20 =>
 A0 PR (binOp .rem 3 t18 t20) fun t21 =>
 A6 PR (Instr.loadAt 79 t2) fun t24 =>
 A0 PR (Instr.indexAt 79 t24 t21) fun t26 =>
 A6 PR (Instr.loadAt 119 t26) fun t27 =>
 F5 PR X t0 [t21, t27] fun t28 =>
 A0 PR (Op.unary .not t28) fun t29 =>
 B6 t29 (
 R (.tuple #[])) (
 J2)) fun J3 =>
 B6 t14 (
 J3) (
 R (.tuple #[]))) (.int .i64 0)
theorem A7s : B0 PR 167 := A7 Tryz.func167 (by kernel_rfl) rfl
theorem A8l {X : Nat → Prop} {t0 t1 t2 : Value} {R : Value → WP} {w : World} (h : A22 X t0 t1 t2 R w) : Fn PR X 167 #[t0, t1, t2] w R := C8 (args := [t0, t1, t2]) mixed Tryz.func167 (by kernel_rfl) h
theorem A8f {X : Nat → Prop} {t0 t1 t2 : Value} {K : Value → WP} {w : World} (h : Fn PR X 167 #[t0, t1, t2] w K) : s7 PR X 167 [t0, t1, t2] K w := ⟨A7s, h⟩
def A43 (X : Nat → Prop) (t0 t1 : Value) (R : Value → WP) : WP :=
 jn (n := 1) (fun t4 =>
 B7 PR X 96 [t0] fun t8 =>
 A0 PR (convert 3 122 t1) fun t10 =>
 A0 PR (binOp .rem 122 t8 t10) fun t11 =>
 A0 PR (convert 122 3 t11) fun t12 =>
 R t12) fun J1 =>
 A0 PR (binOp .lss 3 t1 (.int .i64 1)) fun t6 =>
 B6 t6 (
 R (.int .i64 0)) (
 J1 (.int .i64 0))
theorem A9x : B0 PR 168 := A7 Tryz.func168 (by kernel_rfl) rfl
theorem B0k {X : Nat → Prop} {t0 t1 : Value} {R : Value → WP} {w : World} (h : A43 X t0 t1 R w) : Fn PR X 168 #[t0, t1] w R := C8 (args := [t0, t1]) mixed Tryz.func168 (by kernel_rfl) h
end Go.Proofs.YtlplkjgcfjdinaaGreat
namespace Go.Proofs.YtlplkjgcfjdinaaGreat
open Go
def A2S (X : Nat → Prop) (t0 : Value) (R : Value → WP) : WP :=
 B1 PR X (Instr.alloc 110 true (.tuple #[])) fun t2 =>
 B7 PR X 91 [t0] fun t10 =>
 A0 PR (Instr.extract t10 0) fun t11 =>
 A0 PR (Instr.extract t10 1) fun t12 =>
 A0 PR (Instr.extract t10 2) fun t13 =>
 B1 PR X (Instr.alloc 108 true (.tuple #[])) fun t4 =>
 B8 PR X (Instr.storeAt 108 t4 t11) <|
 jn (n := 1) (fun t3 =>
 A0 PR (Instr.fieldAt 108 t4 5) fun t19 =>
 A6 PR (Instr.loadAt 3 t19) fun t20 =>
 B7 PR X 92 [t20, t12] fun t22 =>
 A0 PR (Instr.extract t22 0) fun t23 =>
 A0 PR (Instr.extract t22 1) fun t24 =>
 B1 PR X (Instr.alloc 153 true (.tuple #[])) fun t7 =>
 B8 PR X (Instr.storeAt 153 t7 t23) <|
 jn (n := 1) (fun t3_1 =>
 drw <|
 A0 PR (Instr.fieldAt 153 t7 0) fun t29 =>
 A6 PR (Instr.loadAt 3 t29) fun t30 =>
 A0 PR (Instr.fieldAt 153 t7 1) fun t31 =>
 A6 PR (Instr.loadAt 3 t31) fun t32 =>
 A0 PR (Instr.fieldAt 108 t4 3) fun t33 =>
 B8 PR X (Instr.storeAt 3 t33 t30) <|
 watch PR [(none, (Instr.loadAt 3 t31), t32)] <|
 A0 PR (Instr.fieldAt 108 t4 4) fun t34 =>
 B8 PR X (Instr.storeAt 3 t34 t32) <|
 A6 PR (Instr.loadAt 108 t4) fun t35 =>
 A0 PR (Instr.fieldAt 153 t7 2) fun t36 =>
 A6 PR (Instr.loadAt 3 t36) fun t37 =>
 A0 PR (Instr.build 110 #[(0, t35), (1, t37)]) fun t38 =>
 B8 PR X (Instr.storeAt 110 t2 t38) <|
 A6 PR (D2 [.c 110 t2, .v (.int .i64 0)]) R) fun J1 =>
 A0 PR (binOp .neq 42 t24 (.int .i64 0)) fun t26 =>
 B6 t26 (
 A0 PR (Instr.build 110 #[]) fun t27 =>
 B8 PR X (Instr.storeAt 110 t2 t27) <|
 A6 PR (D2 [.c 110 t2, .v t24]) R) (
 J1 t3)) fun J2 =>
 A0 PR (binOp .neq 42 t13 (.int .i64 0)) fun t15 =>
 B6 t15 (
 A0 PR (Instr.build 110 #[]) fun t16 =>
 B8 PR X (Instr.storeAt 110 t2 t16) <|
 A6 PR (D2 [.c 110 t2, .v t13]) R) (
 J2 (.int .i64 0))
theorem A7U : B0 PR 70 := A7 Tryz.func70 (by kernel_rfl) rfl
theorem A8s {X : Nat → Prop} {t0 : Value} {R : Value → WP} {w : World} (h : A2S X t0 R w) : Fn PR X 70 #[t0] w R := C8 (args := [t0]) mixed Tryz.func70 (by kernel_rfl) h
def A2k (X : Nat → Prop) (t0 : Value) (R : Value → WP) : WP :=
 B1 PR X (Instr.box 108 t0) fun t1 =>
 A0 PR (Instr.fieldAt 108 t1 0) fun t8 =>
 A6 PR (Instr.loadAt 3 t8) fun t9 =>
 B7 PR X 93 [t9] fun t10 =>
 A0 PR (Instr.fieldAt 108 t1 5) fun t12 =>
 A6 PR (Instr.loadAt 3 t12) fun t13 =>
 A0 PR (Instr.fieldAt 108 t1 3) fun t14 =>
 A6 PR (Instr.loadAt 3 t14) fun t15 =>
 A0 PR (Instr.fieldAt 108 t1 4) fun t16 =>
 A6 PR (Instr.loadAt 3 t16) fun t17 =>
 A0 PR (Instr.build 153 #[(0, t15), (1, t17)]) fun t18 =>
 B7 PR X 94 [t13, t18] fun t19 =>
 A0 PR (Instr.extract t19 0) fun t20 =>
 A0 PR (Instr.extract t19 1) fun t21 =>
 jn (n := 2) (fun t2 t3 =>
 B1 PR X (Instr.alloc 159 true (.tuple #[])) fun t7 =>
 A0 PR (Instr.sliceAt 159 t7 none none none) fun t42 =>
 B1 PR X (A8 .clear #[160] 0 [t42]) fun _ =>
 drw <|
 A0 PR (Instr.sliceAt 159 t7 none none none) fun t43 =>
 A0 PR (Instr.fieldAt 108 t1 0) fun t44 =>
 A6 PR (Instr.loadAt 3 t44) fun t45 =>
 A0 PR (convert 3 122 t45) fun t46 =>
 A0 PR (binOp .shl 122 t46 (.int .u64 8)) fun t47 =>
 A0 PR (Instr.fieldAt 108 t1 5) fun t48 =>
 A6 PR (Instr.loadAt 3 t48) fun t49 =>
 A0 PR (convert 3 122 t49) fun t50 =>
 A0 PR (binOp .or 122 t47 t50) fun t51 =>
 A0 PR (Instr.fieldAt 108 t1 3) fun t53 =>
 A6 PR (Instr.loadAt 3 t53) fun t54 =>
 A0 PR (convert 3 122 t54) fun t55 =>
 A0 PR (Instr.fieldAt 108 t1 4) fun t58 =>
 A6 PR (Instr.loadAt 3 t58) fun t59 =>
 A0 PR (convert 3 122 t59) fun t60 =>
 B7 PR X 95 [t51, (.int .i64 2)] fun t52 =>
 watch PR [(none, (Instr.loadAt 3 t58), t59), (none, (Instr.loadAt 3 t53), t54)] <|
 B7 PR X 95 [t55, (.int .i64 2)] fun t56 =>
 watch PR [(none, (Instr.loadAt 3 t58), t59)] <|
 A0 PR (binOp .add 9 t52 t56) fun t57 =>
 B7 PR X 95 [t60, (.int .i64 2)] fun t61 =>
 A0 PR (binOp .add 9 t57 t61) fun t62 =>
 B1 PR X (A8 .copy #[160, 9] 3 [t43, t62]) fun t63 =>
 drw <|
 A0 PR (Instr.sliceAt 159 t7 (some (.int .i64 6)) none none) fun t64 =>
 A0 PR (Instr.fieldAt 108 t1 1) fun t65 =>
 A6 PR (Instr.loadAt 9 t65) fun t66 =>
 B1 PR X (A8 .copy #[160, 9] 3 [t64, t66]) fun t67 =>
 drw <|
 A0 PR (Instr.sliceAt 159 t7 (some (.int .i64 22)) none none) fun t68 =>
 A0 PR (Instr.fieldAt 108 t1 2) fun t69 =>
 A6 PR (Instr.loadAt 9 t69) fun t70 =>
 B1 PR X (A8 .copy #[160, 9] 3 [t68, t70]) fun t71 =>
 A0 PR (Instr.sliceAt 159 t7 none none none) fun t72 =>
 A6 PR (convert 160 9 t72) fun t73 =>
 R (.tuple #[t73, (.bool true)])) fun J1 =>
 A0 PR (binOp .eql 3 t10 (.int .i64 0)) fun t23 =>
 gj t23 false (fun J => A0 PR (Instr.fieldAt 108 t1 1) J) fun t25 =>
 gj t23 false (fun J => A6 PR (Instr.loadAt 9 t25) J) fun t26 =>
 gj t23 false (fun J => A0 PR (A8 .len #[9] 0 [t26]) J) fun t27 =>
 gj t23 false (fun J => J t10) fun t28 =>
 gj t23 false (fun J => A0 PR (binOp .neq 3 t27 t28) J) fun t29 =>
 A0 PR (do pure (if ← asBool t23 then (.bool true) else t29)) fun t30 =>
 gj t30 false (fun J => A0 PR (Instr.fieldAt 108 t1 2) J) fun t32 =>
 gj t30 false (fun J => A6 PR (Instr.loadAt 9 t32) J) fun t33 =>
 gj t30 false (fun J => A0 PR (A8 .len #[9] 0 [t33]) J) fun t34 =>
 gj t30 false (fun J => J t10) fun t35 =>
 gj t30 false (fun J => A0 PR (binOp .neq 3 t34 t35) J) fun t36 =>
 A0 PR (do pure (if ← asBool t30 then (.bool true) else t36)) fun t37 =>
 gj t37 false (fun J => J t21) fun t39 =>
 gj t37 false (fun J => A0 PR (binOp .neq 42 t39 (.int .i64 0)) J) fun t40 =>
 A0 PR (do pure (if ← asBool t37 then (.bool true) else t40)) fun t41 =>
 B6 t41 (
 R (.tuple #[(.string (ByteArray.mk #[])), (.bool false)])) (
 J1 (.string (ByteArray.mk #[])) (.bool false))
theorem A72 : B0 PR 71 := A7 Tryz.func71 (by kernel_rfl) rfl
theorem A8x {X : Nat → Prop} {t0 : Value} {R : Value → WP} {w : World} (h : A2k X t0 R w) : Fn PR X 71 #[t0] w R := C8 (args := [t0]) mixed Tryz.func71 (by kernel_rfl) h
def A1V (X : Nat → Prop) (t0 : Value) (R : Value → WP) : WP :=
 B1 PR X (Instr.box 110 t0) fun t1 =>
 A0 PR (Instr.fieldAt 110 t1 0) fun t3 =>
 A0 PR (Instr.fieldAt 108 t3 5) fun t4 =>
 A6 PR (Instr.loadAt 3 t4) fun t5 =>
 A0 PR (binOp .eql 3 t5 (.int .i64 6)) fun t6 =>
 gj t6 true (fun J => A0 PR (Instr.fieldAt 110 t1 1) J) fun t8 =>
 gj t6 true (fun J => A6 PR (Instr.loadAt 3 t8) J) fun t9 =>
 gj t6 true (fun J => A0 PR (binOp .and 3 t9 (.int .i64 5)) J) fun t10 =>
 gj t6 true (fun J => A0 PR (binOp .neq 3 t10 (.int .i64 0)) J) fun t11 =>
 A0 PR (do pure (if ← asBool t6 then t11 else (.bool false))) fun t12 =>
 R t12
theorem V6 : B0 PR 74 := A7 Tryz.func74 (by kernel_rfl) rfl
theorem A60 {X : Nat → Prop} {t0 : Value} {R : Value → WP} {w : World} (h : A1V X t0 R w) : Fn PR X 74 #[t0] w R := C8 (args := [t0]) mixed Tryz.func74 (by kernel_rfl) h
def A2f (X : Nat → Prop) (t0 : Value) (R : Value → WP) : WP :=
 B1 PR X (Instr.alloc 108 true (.tuple #[])) fun t2 =>
 jn (n := 2) (fun t3 t4 =>
 A0 PR (Instr.build 108 #[]) fun t29 =>
 B8 PR X (Instr.storeAt 108 t2 t29) <|
 A6 PR (D2 [.c 108 t2, .v (.string (ByteArray.mk #[])), .v (.int .i64 3)]) R) fun J1 =>
 A0 PR (binOp .eql 9 t0 (.string (ByteArray.mk #[]))) fun t7 =>
 B6 t7 (
 A0 PR (Instr.build 108 #[]) fun t8 =>
 B8 PR X (Instr.storeAt 108 t2 t8) <|
 A6 PR (D2 [.c 108 t2, .v (.string (ByteArray.mk #[])), .v (.int .i64 2)]) R) (
 A0 PR (Instr.index 9 t0 (.int .i64 0)) fun t11 =>
 A0 PR (binOp .shr 5 t11 (.int .u64 4)) fun t12 =>
 A0 PR (binOp .eql 5 t12 (.int .u8 4)) fun t13 =>
 B6 t13 (
 B7 PR X 113 [t0, (.func (.func 114) #[] #[]), (.func (.func 115) #[] #[])] fun t15 =>
 A0 PR (Instr.extract t15 0) fun t16 =>
 A0 PR (Instr.extract t15 1) fun t17 =>
 A0 PR (Instr.extract t15 2) fun t18 =>
 B8 PR X (Instr.storeAt 108 t2 t16) <|
 A6 PR (D2 [.c 108 t2, .v t17, .v t18]) R) (
 A0 PR (Instr.index 9 t0 (.int .i64 0)) fun t21 =>
 A0 PR (binOp .shr 5 t21 (.int .u64 4)) fun t22 =>
 A0 PR (binOp .eql 5 t22 (.int .u8 6)) fun t23 =>
 B6 t23 (
 B7 PR X 116 [t0, (.func (.func 117) #[] #[]), (.func (.func 118) #[] #[])] fun t25 =>
 A0 PR (Instr.extract t25 0) fun t26 =>
 A0 PR (Instr.extract t25 1) fun t27 =>
 A0 PR (Instr.extract t25 2) fun t28 =>
 B8 PR X (Instr.storeAt 108 t2 t26) <|
 A6 PR (D2 [.c 108 t2, .v t27, .v t28]) R) (
 J1 (.string (ByteArray.mk #[])) (.int .i64 0))))
theorem A7a : B0 PR 91 := A7 Tryz.func91 (by kernel_rfl) rfl
theorem A8W {X : Nat → Prop} {t0 : Value} {R : Value → WP} {w : World} (h : A2f X t0 R w) : Fn PR X 91 #[t0] w R := C8 (args := [t0]) mixed Tryz.func91 (by kernel_rfl) h
def A32 (X : Nat → Prop) (t0 : Value) (R : Value → WP) : WP :=
 jn (n := 1) (fun t2 =>
 R (.int .i64 0)) fun J1 =>
 A0 PR (binOp .eql 3 t0 (.int .i64 4)) fun t5 =>
 B6 t5 (
 R (.int .i64 4)) (
 A0 PR (binOp .eql 3 t0 (.int .i64 6)) fun t7 =>
 B6 t7 (
 R (.int .i64 16)) (
 J1 (.int .i64 0)))
theorem A73 : B0 PR 93 := A7 Tryz.func93 (by kernel_rfl) rfl
theorem A92 {X : Nat → Prop} {t0 : Value} {R : Value → WP} {w : World} (h : A32 X t0 R w) : Fn PR X 93 #[t0] w R := C8 (args := [t0]) mixed Tryz.func93 (by kernel_rfl) h
def n7 (X : Nat → Prop) (t0 t1 t2 : Value) (R : Value → WP) : WP :=
 B1 PR X (Instr.alloc 108 true (.tuple #[])) fun t6 =>
 F5 PR X t1 [t0] fun t15 =>
 A0 PR (Instr.extract t15 0) fun t16 =>
 A0 PR (Instr.extract t15 1) fun t17 =>
 A0 PR (Instr.extract t15 2) fun t18 =>
 B1 PR X (Instr.alloc 184 true (.tuple #[])) fun t9 =>
 B8 PR X (Instr.storeAt 184 t9 t16) <|
 A6 PR (Instr.loadAt 184 t9) fun t20 =>
 F5 PR X t2 [t20] fun t21 =>
 B8 PR X (Instr.storeAt 108 t6 t21) <|
 A6 PR (D2 [.c 108 t6, .v t17, .v t18]) R
theorem A10 : B0 PR 113 := A7 Tryz.func113 (by kernel_rfl) rfl
theorem A2M {X : Nat → Prop} {t0 t1 t2 : Value} {R : Value → WP} {w : World} (h : n7 X t0 t1 t2 R w) : Fn PR X 113 #[t0, t1, t2] w R := C8 (args := [t0, t1, t2]) mixed Tryz.func113 (by kernel_rfl) h
def A0y (X : Nat → Prop) (t0 : Value) (R : Value → WP) : WP :=
 B1 PR X (Instr.box 184 t0) fun t1 =>
 B1 PR X (Instr.alloc 108 true (.tuple #[])) fun t2 =>
 A0 PR (Instr.fieldAt 184 t1 0) fun t3 =>
 A6 PR (Instr.loadAt 9 t3) fun t4 =>
 A0 PR (Instr.fieldAt 184 t1 1) fun t5 =>
 A6 PR (Instr.loadAt 9 t5) fun t6 =>
 A0 PR (Instr.fieldAt 184 t1 2) fun t7 =>
 A6 PR (Instr.loadAt 3 t7) fun t8 =>
 A0 PR (Instr.build 108 #[(0, (.int .i64 4)), (1, t4), (2, t6), (5, t8)]) fun t9 =>
 B8 PR X (Instr.storeAt 108 t2 t9) <|
 A6 PR (D2 [.c 108 t2]) R
theorem A5H : B0 PR 115 := A7 Tryz.func115 (by kernel_rfl) rfl
theorem A5y {X : Nat → Prop} {t0 : Value} {R : Value → WP} {w : World} (h : A0y X t0 R w) : Fn PR X 115 #[t0] w R := C8 (args := [t0]) mixed Tryz.func115 (by kernel_rfl) h
def n5 (X : Nat → Prop) (t0 t1 t2 : Value) (R : Value → WP) : WP :=
 B1 PR X (Instr.alloc 108 true (.tuple #[])) fun t6 =>
 F5 PR X t1 [t0] fun t15 =>
 A0 PR (Instr.extract t15 0) fun t16 =>
 A0 PR (Instr.extract t15 1) fun t17 =>
 A0 PR (Instr.extract t15 2) fun t18 =>
 B1 PR X (Instr.alloc 188 true (.tuple #[])) fun t9 =>
 B8 PR X (Instr.storeAt 188 t9 t16) <|
 A6 PR (Instr.loadAt 188 t9) fun t20 =>
 F5 PR X t2 [t20] fun t21 =>
 B8 PR X (Instr.storeAt 108 t6 t21) <|
 A6 PR (D2 [.c 108 t6, .v t17, .v t18]) R
theorem A2F : B0 PR 116 := A7 Tryz.func116 (by kernel_rfl) rfl
theorem A2H {X : Nat → Prop} {t0 t1 t2 : Value} {R : Value → WP} {w : World} (h : n5 X t0 t1 t2 R w) : Fn PR X 116 #[t0, t1, t2] w R := C8 (args := [t0, t1, t2]) mixed Tryz.func116 (by kernel_rfl) h
def A01 (X : Nat → Prop) (t0 : Value) (R : Value → WP) : WP :=
 B1 PR X (Instr.box 188 t0) fun t1 =>
 B1 PR X (Instr.alloc 108 true (.tuple #[])) fun t2 =>
 A0 PR (Instr.fieldAt 188 t1 0) fun t3 =>
 A6 PR (Instr.loadAt 9 t3) fun t4 =>
 A0 PR (Instr.fieldAt 188 t1 1) fun t5 =>
 A6 PR (Instr.loadAt 9 t5) fun t6 =>
 A0 PR (Instr.fieldAt 188 t1 2) fun t7 =>
 A6 PR (Instr.loadAt 3 t7) fun t8 =>
 A0 PR (Instr.build 108 #[(0, (.int .i64 6)), (1, t4), (2, t6), (5, t8)]) fun t9 =>
 B8 PR X (Instr.storeAt 108 t2 t9) <|
 A6 PR (D2 [.c 108 t2]) R
theorem A5L : B0 PR 118 := A7 Tryz.func118 (by kernel_rfl) rfl
theorem A52 {X : Nat → Prop} {t0 : Value} {R : Value → WP} {w : World} (h : A01 X t0 R w) : Fn PR X 118 #[t0] w R := C8 (args := [t0]) mixed Tryz.func118 (by kernel_rfl) h
end Go.Proofs.YtlplkjgcfjdinaaGreat
namespace Go.Proofs.YtlplkjgcfjdinaaGreat
open Go
def A4w (X : Nat → Prop) (t0 t1 : Value) (R : Value → WP) : WP :=
 B1 PR X (Instr.alloc 153 true (.tuple #[])) fun t4 =>
 B7 PR X 119 [] fun t13 =>
 A6 PR (Instr.lookup 193 t13 t0 false) fun t15 =>
 jn (n := 1) (fun t5 =>
 inv PR X t15 "gangplank/port.parse" [t1] fun t22 =>
 A0 PR (Instr.extract t22 0) fun t23 =>
 A0 PR (Instr.extract t22 1) fun t24 =>
 jn (n := 1) (fun t5_1 =>
 B7 PR X 120 [t1, (.int .i64 0), (.int .i64 2)] fun t31 =>
 A0 PR (Instr.extract t31 0) fun t32 =>
 A0 PR (Instr.extract t31 1) fun t33 =>
 B7 PR X 120 [t1, (.int .i64 2), (.int .i64 2)] fun t36 =>
 A0 PR (Instr.extract t36 0) fun t37 =>
 A0 PR (Instr.extract t36 1) fun t38 =>
 A0 PR (convert 122 3 t32) fun t40 =>
 A0 PR (convert 122 3 t37) fun t42 =>
 A0 PR (Instr.build 153 #[(0, t40), (1, t42), (2, t23)]) fun t44 =>
 B8 PR X (Instr.storeAt 153 t4 t44) <|
 A6 PR (D2 [.c 153 t4, .v (.int .i64 0)]) R) fun J1 =>
 A0 PR (binOp .neq 42 t24 (.int .i64 0)) fun t26 =>
 B6 t26 (
 A0 PR (Instr.build 153 #[]) fun t27 =>
 B8 PR X (Instr.storeAt 153 t4 t27) <|
 A6 PR (D2 [.c 153 t4, .v t24]) R) (
 J1 t5)) fun J2 =>
 A6 PR (q6 .eql 192 (.tmp 16) (.const .nilIface) t15 .nilIface) fun t17 =>
 B6 t17 (
 A0 PR (Instr.build 153 #[]) fun t18 =>
 B8 PR X (Instr.storeAt 153 t4 t18) <|
 A6 PR (D2 [.c 153 t4, .v (.int .i64 7)]) R) (
 J2 (.int .i64 0))
theorem A9e : B0 PR 92 := A7 Tryz.func92 (by kernel_rfl) rfl
theorem B04 {X : Nat → Prop} {t0 t1 : Value} {R : Value → WP} {w : World} (h : A4w X t0 t1 R w) : Fn PR X 92 #[t0, t1] w R := C8 (args := [t0, t1]) mixed Tryz.func92 (by kernel_rfl) h
def A7C (X : Nat → Prop) (t0 t1 : Value) (R : Value → WP) : WP :=
 B1 PR X (Instr.box 153 t1) fun t3 =>
 B7 PR X 119 [] fun t11 =>
 A6 PR (Instr.lookup 193 t11 t0 false) fun t13 =>
 jn (n := 2) (fun t4 t5 =>
 A6 PR (Instr.loadAt 153 t3) fun t17 =>
 B7 PR X 121 [t17] fun t18 =>
 A0 PR (Instr.extract t18 0) fun t19 =>
 A0 PR (Instr.extract t18 1) fun t20 =>
 A0 PR (Instr.fieldAt 153 t3 2) fun t23 =>
 A6 PR (Instr.loadAt 3 t23) fun t24 =>
 inv PR X t13 "gangplank/port.put" [t24] fun t25 =>
 A0 PR (Instr.extract t25 0) fun t26 =>
 A0 PR (Instr.extract t25 1) fun t27 =>
 jn (n := 2) (fun t4_1 t5_1 =>
 A0 PR (binOp .add 9 t19 t26) fun t36 =>
 R (.tuple #[t36, (.int .i64 0)])) fun J1 =>
 A0 PR (Op.unary .not t20) fun t29 =>
 gj t29 false (fun J => J t27) fun t31 =>
 gj t29 false (fun J => A0 PR (binOp .neq 42 t31 (.int .i64 0)) J) fun t32 =>
 A0 PR (do pure (if ← asBool t29 then (.bool true) else t32)) fun t33 =>
 B6 t33 (
 R (.tuple #[(.string (ByteArray.mk #[])), (.int .i64 1)])) (
 J1 t4 t5)) fun J2 =>
 A6 PR (q6 .eql 192 (.tmp 14) (.const .nilIface) t13 .nilIface) fun t15 =>
 B6 t15 (
 R (.tuple #[(.string (ByteArray.mk #[])), (.int .i64 7)])) (
 J2 (.string (ByteArray.mk #[])) (.int .i64 0))
theorem B2f : B0 PR 94 := A7 Tryz.func94 (by kernel_rfl) rfl
theorem B3B {X : Nat → Prop} {t0 t1 : Value} {R : Value → WP} {w : World} (h : A7C X t0 t1 R w) : Fn PR X 94 #[t0, t1] w R := C8 (args := [t0, t1]) mixed Tryz.func94 (by kernel_rfl) h
def A3g (X : Nat → Prop) (R : Value → WP) : WP :=
 B1 PR X (Instr.makeMap 193 none) fun t1 =>
 A0 PR (Instr.build 224 #[]) fun t2 =>
 A0 PR (Instr.makeInterface 224 t2) fun t3 =>
 B8 PR X (Instr.mapUpdate 193 t1 (.int .i64 6) t3) <|
 A0 PR (Instr.build 225 #[]) fun t4 =>
 A0 PR (Instr.makeInterface 225 t4) fun t5 =>
 B8 PR X (Instr.mapUpdate 193 t1 (.int .i64 17) t5) <|
 R t1
theorem A2Y : B0 PR 119 := A7 Tryz.func119 (by kernel_rfl) rfl
theorem A9y {X : Nat → Prop} {R : Value → WP} {w : World} (h : A3g X R w) : Fn PR X 119 #[] w R := C8 (args := []) mixed Tryz.func119 (by kernel_rfl) h
def A46 (X : Nat → Prop) (t0 : Value) (R : Value → WP) : WP :=
 B1 PR X (Instr.box 153 t0) fun t1 =>
 jn (n := 2) (fun t4 t5 =>
 A0 PR (binOp .eql 3 t5 (.int .i64 2)) fun t37 =>
 R (.tuple #[t4, t37])) fun J1 =>
 jn (n := 2) (fun t4_1 t5_1 =>
 jn (n := 2) (fun t4_2 t5_2 =>
 J1 t4_2 t5_2) fun J2 =>
 A0 PR (Instr.fieldAt 153 t1 1) fun t19 =>
 A6 PR (Instr.loadAt 3 t19) fun t20 =>
 A0 PR (binOp .geq 3 t20 (.int .i64 0)) fun t21 =>
 gj t21 true (fun J => A0 PR (Instr.fieldAt 153 t1 1) J) fun t23 =>
 gj t21 true (fun J => A6 PR (Instr.loadAt 3 t23) J) fun t24 =>
 gj t21 true (fun J => A0 PR (binOp .leq 3 t24 (.int .i64 65535)) J) fun t25 =>
 A0 PR (do pure (if ← asBool t21 then t25 else (.bool false))) fun t26 =>
 B6 t26 (
 A0 PR (Instr.fieldAt 153 t1 1) fun t28 =>
 A6 PR (Instr.loadAt 3 t28) fun t29 =>
 A0 PR (convert 3 122 t29) fun t30 =>
 B7 PR X 95 [t30, (.int .i64 2)] fun t31 =>
 A0 PR (binOp .add 9 t4_1 t31) fun t32 =>
 A0 PR (binOp .add 3 t5_1 (.int .i64 1)) fun t34 =>
 J2 t32 t34) (
 J2 t4_1 t5_1)) fun J3 =>
 jn (n := 0) (
 A0 PR (Instr.fieldAt 153 t1 0) fun t15 =>
 A6 PR (Instr.loadAt 3 t15) fun t16 =>
 A0 PR (convert 3 122 t16) fun t17 =>
 B7 PR X 95 [t17, (.int .i64 2)] fun t18 =>
 J3 t18 (.int .i64 1)) fun J4 =>
 jn (n := 0) (
 J3 (.string (ByteArray.mk #[])) (.int .i64 0)) fun J5 =>
 A0 PR (Instr.fieldAt 153 t1 0) fun t7 =>
 A6 PR (Instr.loadAt 3 t7) fun t8 =>
 A0 PR (binOp .geq 3 t8 (.int .i64 0)) fun t9 =>
 gj t9 true (fun J => A0 PR (Instr.fieldAt 153 t1 0) J) fun t11 =>
 gj t9 true (fun J => A6 PR (Instr.loadAt 3 t11) J) fun t12 =>
 gj t9 true (fun J => A0 PR (binOp .leq 3 t12 (.int .i64 65535)) J) fun t13 =>
 A0 PR (do pure (if ← asBool t9 then t13 else (.bool false))) fun t14 =>
 B6 t14 (
 J4) (
 J5)
theorem A3k : B0 PR 121 := A7 Tryz.func121 (by kernel_rfl) rfl
theorem B00 {X : Nat → Prop} {t0 : Value} {R : Value → WP} {w : World} (h : A46 X t0 R w) : Fn PR X 121 #[t0] w R := C8 (args := [t0]) mixed Tryz.func121 (by kernel_rfl) h
def A1P (X : Nat → Prop) (t0 t1 : Value) (R : Value → WP) : WP :=
 B1 PR X (Instr.box 224 t0) fun t2 =>
 jn (n := 2) (fun t4 t5 =>
 jn (n := 2) (fun t4_1 t5_1 =>
 A0 PR (Instr.index 9 t1 (.int .i64 13)) fun t24 =>
 A0 PR (convert 5 3 t24) fun t25 =>
 R (.tuple #[t25, (.int .i64 0)])) fun J1 =>
 A0 PR (Instr.index 9 t1 (.int .i64 12)) fun t11 =>
 A0 PR (binOp .shr 5 t11 (.int .u64 4)) fun t12 =>
 A0 PR (convert 5 3 t12) fun t13 =>
 A0 PR (binOp .mul 3 t13 (.int .i64 4)) fun t14 =>
 A0 PR (binOp .lss 3 t14 (.int .i64 20)) fun t16 =>
 gj t16 false (fun J => J t14) fun t18 =>
 gj t16 false (fun J => J t1) fun t19 =>
 gj t16 false (fun J => A0 PR (A8 .len #[9] 0 [t19]) J) fun t20 =>
 gj t16 false (fun J => A0 PR (binOp .gtr 3 t18 t20) J) fun t21 =>
 A0 PR (do pure (if ← asBool t16 then (.bool true) else t21)) fun t22 =>
 B6 t22 (
 R (.tuple #[(.int .i64 0), (.int .i64 8)])) (
 J1 t4 t5)) fun J2 =>
 A0 PR (A8 .len #[9] 0 [t1]) fun t8 =>
 A0 PR (binOp .lss 3 t8 (.int .i64 20)) fun t9 =>
 B6 t9 (
 R (.tuple #[(.int .i64 0), (.int .i64 2)])) (
 J2 (.int .i64 0) (.int .i64 0))
theorem A6j {X : Nat → Prop} {t0 t1 : Value} {R : Value → WP} {w : World} (h : A1P X t0 t1 R w) : Fn PR X 217 #[t0, t1] w R := C8 (args := [t0, t1]) mixed Tryz.func217 (by kernel_rfl) h
def A2W (X : Nat → Prop) (t0 t1 : Value) (R : Value → WP) : WP :=
 B1 PR X (Instr.box 224 t0) fun t2 =>
 jn (n := 2) (fun t4 t5 =>
 B7 PR X 219 [(.string (ByteArray.mk #[0])), (.int .i64 8)] fun t12 =>
 A0 PR (binOp .add 9 t12 (.string (ByteArray.mk #[80]))) fun t13 =>
 A0 PR (convert 3 122 t1) fun t15 =>
 B7 PR X 95 [t15, (.int .i64 1)] fun t16 =>
 A0 PR (binOp .add 9 t13 t16) fun t17 =>
 B7 PR X 219 [(.string (ByteArray.mk #[0])), (.int .i64 6)] fun t18 =>
 A0 PR (binOp .add 9 t17 t18) fun t19 =>
 R (.tuple #[t19, (.int .i64 0)])) fun J1 =>
 A0 PR (binOp .lss 3 t1 (.int .i64 0)) fun t7 =>
 gj t7 false (fun J => J t1) fun t9 =>
 gj t7 false (fun J => A0 PR (binOp .gtr 3 t9 (.int .i64 255)) J) fun t10 =>
 A0 PR (do pure (if ← asBool t7 then (.bool true) else t10)) fun t11 =>
 B6 t11 (
 R (.tuple #[(.string (ByteArray.mk #[])), (.int .i64 1)])) (
 J1 (.string (ByteArray.mk #[])) (.int .i64 0))
theorem A8N {X : Nat → Prop} {t0 t1 : Value} {R : Value → WP} {w : World} (h : A2W X t0 t1 R w) : Fn PR X 218 #[t0, t1] w R := C8 (args := [t0, t1]) mixed Tryz.func218 (by kernel_rfl) h
def A1Z (X : Nat → Prop) (t0 t1 : Value) (R : Value → WP) : WP :=
 B1 PR X (Instr.box 225 t0) fun t2 =>
 jn (n := 2) (fun t4 t5 =>
 jn (n := 2) (fun t4_1 t5_1 =>
 R (.tuple #[(.int .i64 0), (.int .i64 0)])) fun J1 =>
 B7 PR X 120 [t1, (.int .i64 4), (.int .i64 2)] fun t13 =>
 A0 PR (Instr.extract t13 0) fun t14 =>
 A0 PR (Instr.extract t13 1) fun t15 =>
 A0 PR (binOp .lss 122 t14 (.int .u64 8)) fun t17 =>
 gj t17 false (fun J => J t14) fun t19 =>
 gj t17 false (fun J => J t1) fun t20 =>
 gj t17 false (fun J => A0 PR (A8 .len #[9] 0 [t20]) J) fun t21 =>
 gj t17 false (fun J => A0 PR (convert 3 122 t21) J) fun t22 =>
 gj t17 false (fun J => A0 PR (binOp .gtr 122 t19 t22) J) fun t23 =>
 A0 PR (do pure (if ← asBool t17 then (.bool true) else t23)) fun t24 =>
 B6 t24 (
 R (.tuple #[(.int .i64 0), (.int .i64 4)])) (
 J1 t4 t5)) fun J2 =>
 A0 PR (A8 .len #[9] 0 [t1]) fun t9 =>
 A0 PR (binOp .lss 3 t9 (.int .i64 8)) fun t10 =>
 B6 t10 (
 R (.tuple #[(.int .i64 0), (.int .i64 2)])) (
 J2 (.int .i64 0) (.int .i64 0))
theorem A6r {X : Nat → Prop} {t0 t1 : Value} {R : Value → WP} {w : World} (h : A1Z X t0 t1 R w) : Fn PR X 233 #[t0, t1] w R := C8 (args := [t0, t1]) mixed Tryz.func233 (by kernel_rfl) h
def A21 (X : Nat → Prop) (t0 t1 : Value) (R : Value → WP) : WP :=
 B1 PR X (Instr.box 225 t0) fun t2 =>
 jn (n := 2) (fun t4 t5 =>
 R (.tuple #[(.string (ByteArray.mk #[0, 8, 0, 0])), (.int .i64 0)])) fun J1 =>
 A0 PR (binOp .neq 3 t1 (.int .i64 0)) fun t7 =>
 B6 t7 (
 R (.tuple #[(.string (ByteArray.mk #[])), (.int .i64 1)])) (
 J1 (.string (ByteArray.mk #[])) (.int .i64 0))
theorem A8b {X : Nat → Prop} {t0 t1 : Value} {R : Value → WP} {w : World} (h : A21 X t0 t1 R w) : Fn PR X 234 #[t0, t1] w R := C8 (args := [t0, t1]) mixed Tryz.func234 (by kernel_rfl) h
end Go.Proofs.YtlplkjgcfjdinaaGreat
