/- The proof of a given statement, a part of it (ShFlows ShProbe ShPacket ShPort). No condition but what each lemma says. -/
import Derived.Test.YtggakcpabomliaaGreatG8
set_option linter.unusedVariables false
set_option linter.unusedSimpArgs false
namespace Go.Proofs.YtggakcpabomliaaGreat
open Go
def A8j (X : Nat → Prop) (t0 : Value) (R : Value → WP) : WP :=
 A2 PR (A7 .min #[3, 3] 0 [t0, (.int .i64 64)]) fun t4 =>
 A2 PR (A7 .max #[3, 3] 0 [(.int .i64 0), t4]) fun t5 =>
 B1 PR X (Instr.makeSlice 50 t5 t5) fun t6 =>
 R t6
theorem A7v : B0 PR 57 := A8 Tryz.func57 (by kernel_rfl) rfl
theorem B4w {X : Nat → Prop} {t0 : Value} {R : Value → WP} {w : World} (h : A8j X t0 R w) : Fn PR X 57 #[t0] w R := C7 (args := [t0]) mixed Tryz.func57 (by kernel_rfl) h
def A5H (X : Nat → Prop) (t0 t1 : Value) (R : Value → WP) : WP :=
 B1 PR X (Instr.box 9 t1) fun t3 =>
 A2 PR (Instr.makeFunc (.func 115) #[] #[t3]) fun t10 =>
 B2 PR X 114 [t0, t10] fun t11 =>
 A2 PR (Instr.extract t11 0) fun t12 =>
 A2 PR (Instr.extract t11 1) fun t13 =>
 jn (n := 1) (fun t6 =>
 R (.tuple #[t6, t13])) fun J1 =>
 gj t13 true (fun J => J t12) fun t16 =>
 gj t13 true (fun J => B2 PR X 116 [t16, (.int .i64 2)] J) fun t17 =>
 gj t13 true (fun J => A2 PR (binOp .mul 3 (.int .i64 2) t17) J) fun t18 =>
 gj t13 true (fun J => J t12) fun t19 =>
 gj t13 true (fun J => A2 PR (A7 .len #[50] 0 [t19]) J) fun t20 =>
 gj t13 true (fun J => A2 PR (binOp .gtr 3 t18 t20) J) fun t21 =>
 A2 PR (do pure (if ← asBool t13 then t21 else (.bool false))) fun t22 =>
 B6 t22 (
 B2 PR X 117 [t12] fun t24 =>
 J1 t24) (
 J1 t12)
theorem B0T : B0 PR 73 := A8 Tryz.func73 (by kernel_rfl) rfl
theorem B1j {X : Nat → Prop} {t0 t1 : Value} {R : Value → WP} {w : World} (h : A5H X t0 t1 R w) : Fn PR X 73 #[t0, t1] w R := C7 (args := [t0, t1]) mixed Tryz.func73 (by kernel_rfl) h
def A8p (X : Nat → Prop) (t0 t1 t2 t3 : Value) (R : Value → WP) : WP :=
 A2 PR (Instr.build 71 #[(0, (.int .i64 1)), (1, t1), (2, t2), (3, t3)]) fun t16 =>
 B1 PR X (Instr.alloc 71 true (.tuple #[])) fun t10 =>
 B4 PR X (Instr.storeAt 71 t10 t16) <|
 A2 PR (Instr.makeFunc (.func 118) #[] #[t10]) fun t19 =>
 B2 PR X 114 [t0, t19] fun t20 =>
 A2 PR (Instr.extract t20 0) fun t21 =>
 A2 PR (Instr.extract t20 1) fun t22 =>
 jn (n := 2) (fun t8 t9 =>
 R (.tuple #[t21, (.int .i64 0)])) fun J1 =>
 A2 PR (Op.unary .not t22) fun t24 =>
 B6 t24 (
 R (.tuple #[t21, (.int .i64 12)])) (
 J1 (.slice none 0 0) (.int .i64 0))
theorem B4V : B0 PR 74 := A8 Tryz.func74 (by kernel_rfl) rfl
theorem B4l {X : Nat → Prop} {t0 t1 t2 t3 : Value} {R : Value → WP} {w : World} (h : A8p X t0 t1 t2 t3 R w) : Fn PR X 74 #[t0, t1, t2, t3] w R := C7 (args := [t0, t1, t2, t3]) mixed Tryz.func74 (by kernel_rfl) h
def A1w (X : Nat → Prop) (t0 : Value) (R : Value → WP) : WP :=
 B1 PR X (Instr.box 136 t0) fun t1 =>
 A2 PR (Instr.makeFunc (.func 126) #[] #[t1]) fun t3 =>
 R t3
theorem A7H : B0 PR 81 := A8 Tryz.func81 (by kernel_rfl) rfl
theorem A8D {X : Nat → Prop} {t0 : Value} {R : Value → WP} {w : World} (h : A1w X t0 R w) : Fn PR X 81 #[t0] w R := C7 (args := [t0]) mixed Tryz.func81 (by kernel_rfl) h
def A37 (X : Nat → Prop) (t0 t1 : Value) (R : Value → WP) : WP :=
 B2 PR X 71 [t0] fun t8 =>
 jn (n := 2) (fun t4 t5 =>
 R (.tuple #[t8, (.bool true)])) fun J1 =>
 L5 PR X t1 [t8] fun t11 =>
 A2 PR (Op.unary .not t11) fun t12 =>
 B6 t12 (
 R (.tuple #[t0, (.bool false)])) (
 J1 (.slice none 0 0) (.bool false))
theorem A22 : B0 PR 114 := A8 Tryz.func114 (by kernel_rfl) rfl
theorem B0n {X : Nat → Prop} {t0 t1 : Value} {R : Value → WP} {w : World} (h : A37 X t0 t1 R w) : Fn PR X 114 #[t0, t1] w R := C7 (args := [t0, t1]) mixed Tryz.func114 (by kernel_rfl) h
def A2U (X : Nat → Prop) (t0 t1 : Value) (R : Value → WP) : WP :=
 A6 PR (Instr.loadAt 9 t1) fun t6 =>
 B2 PR X 35 [t0, t6] fun t7 =>
 jn (n := 1) (fun t3 =>
 A2 PR (Instr.build 71 #[(0, (.int .i64 2))]) fun t12 =>
 A2 PR (Instr.indexAt 136 t0 t7) fun t13 =>
 B4 PR X (Instr.storeAt 71 t13 t12) <|
 R (.bool true)) fun J1 =>
 A2 PR (binOp .lss 3 t7 (.int .i64 0)) fun t9 =>
 B6 t9 (
 R (.bool false)) (
 J1 (.bool false))
theorem A8C : B0 PR 115 := A8 Tryz.func115 (by kernel_rfl) rfl
theorem A8v {X : Nat → Prop} {t0 t1 : Value} {R : Value → WP} {w : World} (h : A2U X t0 t1 R w) : Fn PR X 115 #[t0, t1] w R := C7 (args := [t0, t1]) mixed Tryz.func115 (by kernel_rfl) h
def A7x (X : Nat → Prop) (t0 : Value) (R : Value → WP) : WP :=
 A2 PR (A7 .len #[50] 0 [t0]) fun t7 =>
 B2 PR X 57 [t7] fun t8 =>
 B1 PR X (Instr.alloc 136 true (.tuple #[])) fun t3 =>
 B4 PR X (Instr.storeAt 136 t3 t8) <|
 jn (n := 0) (
 A6 PR (Instr.loadAt 136 t3) fun t16 =>
 j9 (R t16)) fun J1 =>
 B2 PR X 81 [t0] fun t10 =>
 rng (N := 2) PR X (fun t11 t12 K2 =>
 B1 PR (fun _ => False) (Instr.alloc 71 true (.tuple #[])) fun t5 =>
 B4 PR (fun _ => False) (Instr.storeAt 71 t5 t12) <|
 bgn <|
 A6 PR (Instr.loadAt 136 t3) fun t13 =>
 A6 PR (Instr.loadAt 71 t5) fun t14 =>
 B2 PR (fun _ => False) 119 [t13, t14] fun t15 =>
 K2 none) t10 (fun j => match j with | none => (J1) | some (.exit i) => (match Nat.beq i 0 with | true => (J1) | false => (G4)) | some .ret => (j9 (R (.slice none 0 0))) | some _ => G4)
theorem A6f : B0 PR 117 := A8 Tryz.func117 (by kernel_rfl) rfl
theorem B4G {X : Nat → Prop} {t0 : Value} {R : Value → WP} {w : World} (h : A7x X t0 R w) : Fn PR X 117 #[t0] w R := C7 (args := [t0]) mixed Tryz.func117 (by kernel_rfl) h
def A4y (X : Nat → Prop) (t0 t1 : Value) (R : Value → WP) : WP :=
 A6 PR (Instr.loadAt 71 t1) fun t5 =>
 B2 PR X 119 [t0, t5] fun t6 =>
 R t6
theorem B0M : B0 PR 118 := A8 Tryz.func118 (by kernel_rfl) rfl
theorem B17 {X : Nat → Prop} {t0 t1 : Value} {R : Value → WP} {w : World} (h : A4y X t0 t1 R w) : Fn PR X 118 #[t0, t1] w R := C7 (args := [t0, t1]) mixed Tryz.func118 (by kernel_rfl) h
def A2P (X : Nat → Prop) (t0 t1 : Value) (R : Value → WP) : WP :=
 B1 PR X (Instr.box 71 t1) fun t3 =>
 A2 PR (Instr.fieldAt 71 t3 1) fun t7 =>
 A6 PR (Instr.loadAt 9 t7) fun t8 =>
 B2 PR X 35 [t0, t8] fun t9 =>
 jn (n := 1) (fun t5 =>
 jn (n := 1) (fun t4 =>
 A6 PR (Instr.loadAt 71 t3) fun t20 =>
 A2 PR (Instr.indexAt 136 t0 t5) fun t21 =>
 B4 PR X (Instr.storeAt 71 t21 t20) <|
 R (.bool true)) fun J1 =>
 A2 PR (binOp .lss 3 t5 (.int .i64 0)) fun t17 =>
 B6 t17 (
 R (.bool false)) (
 J1 (.bool false))) fun J2 =>
 A2 PR (binOp .lss 3 t9 (.int .i64 0)) fun t11 =>
 B6 t11 (
 A2 PR (Instr.fieldAt 71 t3 1) fun t13 =>
 A6 PR (Instr.loadAt 9 t13) fun t14 =>
 B2 PR X 164 [t0, t14] fun t15 =>
 J2 t15) (
 J2 t9)
theorem A12 : B0 PR 119 := A8 Tryz.func119 (by kernel_rfl) rfl
theorem A9F {X : Nat → Prop} {t0 t1 : Value} {R : Value → WP} {w : World} (h : A2P X t0 t1 R w) : Fn PR X 119 #[t0, t1] w R := C7 (args := [t0, t1]) mixed Tryz.func119 (by kernel_rfl) h
def A0s (X : Nat → Prop) (t0 t1 : Value) (R : Value → WP) : WP :=
 A6 PR (Instr.loadAt 136 t1) fun t5 =>
 A2 PR (A7 .len #[136] 0 [t5]) fun t6 =>
 lp (n := 1) (fun L1 t7 =>
 A2 PR (binOp .lss 3 t7 t6) fun t8 =>
 jn (n := 0) (
 jn (n := 0) (
 A2 PR (binOp .add 3 t7 (.int .i64 1)) fun t22 =>
 L1 t22) fun J2 =>
 A2 PR (Instr.indexAt 136 t5 t7) fun t10 =>
 A6 PR (Instr.loadAt 71 t10) fun t11 =>
 B1 PR X (Instr.alloc 71 true (.tuple #[])) fun t4 =>
 B4 PR X (Instr.storeAt 71 t4 t11) <|
 A2 PR (Instr.fieldAt 71 t4 0) fun t12 =>
 A6 PR (Instr.loadAt 3 t12) fun t13 =>
 A2 PR (binOp .eql 3 t13 (.int .i64 1)) fun t14 =>
 gj t14 true (fun J => J t0) fun t16 =>
 gj t14 true (fun J => J t7) fun t17 =>
 gj t14 true (fun J => A6 PR (Instr.loadAt 71 t4) J) fun t18 =>
 gj t14 true (fun J => L5 PR X t16 [t17, t18] J) fun t19 =>
 gj t14 true (fun J => A2 PR (Op.unary .not t19) J) fun t20 =>
 A2 PR (do pure (if ← asBool t14 then t20 else (.bool false))) fun t21 =>
 B6 t21 (
 R (.tuple #[])) (
 J2)) fun J3 =>
 B6 t8 (
 J3) (
 R (.tuple #[]))) (.int .i64 0)
theorem A4Q : B0 PR 126 := A8 Tryz.func126 (by kernel_rfl) rfl
theorem A55 {X : Nat → Prop} {t0 t1 : Value} {R : Value → WP} {w : World} (h : A0s X t0 t1 R w) : Fn PR X 126 #[t0, t1] w R := C7 (args := [t0, t1]) mixed Tryz.func126 (by kernel_rfl) h
theorem A5N {X : Nat → Prop} {t0 t1 : Value} {K : Value → WP} {w : World} (h : Fn PR X 126 #[t0, t1] w K) : A1a PR X 126 [t0, t1] K w := ⟨A4Q, h⟩
end Go.Proofs.YtggakcpabomliaaGreat
namespace Go.Proofs.YtggakcpabomliaaGreat
open Go
def A71 (X : Nat → Prop) (t0 t1 : Value) (R : Value → WP) : WP :=
 B1 PR X (Instr.box 9 t1) fun t3 =>
 B1 PR X (Instr.alloc 3 true (.tuple #[])) fun t5 =>
 B4 PR X (Instr.storeAt 3 t5 (.int .i64 (-1))) <|
 jn (n := 0) (
 A6 PR (Instr.loadAt 3 t5) fun t28 =>
 j9 (R t28)) fun J1 =>
 A6 PR (Instr.loadAt 9 t3) fun t9 =>
 B2 PR X 84 [t0, t9] fun t10 =>
 rng (N := 2) PR X (fun t11 t12 K2 =>
 B1 PR (fun _ => False) (Instr.alloc 71 true (.tuple #[])) fun t7 =>
 B4 PR (fun _ => False) (Instr.storeAt 71 t7 t12) <|
 bgn <|
 A2 PR (Instr.fieldAt 71 t7 0) fun t14 =>
 A6 PR (Instr.loadAt 3 t14) fun t15 =>
 A2 PR (binOp .eql 3 t15 (.int .i64 0)) fun t16 =>
 B6 t16 (
 K2 (some (.exit 0))) (
 A2 PR (Instr.fieldAt 71 t7 0) fun t18 =>
 A6 PR (Instr.loadAt 3 t18) fun t19 =>
 A2 PR (binOp .eql 3 t19 (.int .i64 1)) fun t20 =>
 gj t20 true (fun J => A2 PR (Instr.fieldAt 71 t7 1) J) fun t22 =>
 gj t20 true (fun J => A6 PR (Instr.loadAt 9 t22) J) fun t23 =>
 gj t20 true (fun J => A6 PR (Instr.loadAt 9 t3) J) fun t24 =>
 gj t20 true (fun J => A2 PR (binOp .eql 9 t23 t24) J) fun t25 =>
 A2 PR (do pure (if ← asBool t20 then t25 else (.bool false))) fun t26 =>
 B6 t26 (
 B4 PR (fun _ => False) (Instr.storeAt 3 t5 t11) <|
 K2 (some (.exit 0))) (
 K2 none))) t10 (fun j => match j with | none => (J1) | some (.exit i) => (match Nat.beq i 0 with | true => (J1) | false => (G4)) | some .ret => (j9 (R (.int .i64 0))) | some _ => G4)
theorem s7 : B0 PR 35 := A8 Tryz.func35 (by kernel_rfl) rfl
theorem B39 {X : Nat → Prop} {t0 t1 : Value} {R : Value → WP} {w : World} (h : A71 X t0 t1 R w) : Fn PR X 35 #[t0, t1] w R := C7 (args := [t0, t1]) mixed Tryz.func35 (by kernel_rfl) h
def A9K (X : Nat → Prop) (t0 t1 : Value) (R : Value → WP) : WP :=
 B1 PR X (Instr.box 50 t0) fun t2 =>
 B1 PR X (Instr.box 9 t1) fun t3 =>
 A2 PR (Instr.makeFunc (.func 131) #[] #[t3, t2]) fun t5 =>
 R t5
theorem A7r : B0 PR 84 := A8 Tryz.func84 (by kernel_rfl) rfl
theorem B54 {X : Nat → Prop} {t0 t1 : Value} {R : Value → WP} {w : World} (h : A9K X t0 t1 R w) : Fn PR X 84 #[t0, t1] w R := C7 (args := [t0, t1]) mixed Tryz.func84 (by kernel_rfl) h
def A6U (X : Nat → Prop) (t0 t1 : Value) (R : Value → WP) : WP :=
 B1 PR X (Instr.box 3 t1) fun t3 =>
 A2 PR (Instr.makeFunc (.func 163) #[] #[t3]) fun t6 =>
 B2 PR X 162 [t0, t6] fun t7 =>
 R t7
theorem A1q : B0 PR 116 := A8 Tryz.func116 (by kernel_rfl) rfl
theorem B2T {X : Nat → Prop} {t0 t1 : Value} {R : Value → WP} {w : World} (h : A6U X t0 t1 R w) : Fn PR X 116 #[t0, t1] w R := C7 (args := [t0, t1]) mixed Tryz.func116 (by kernel_rfl) h
def A4q (X : Nat → Prop) (t0 t1 t2 : Value) (R : Value → WP) : WP :=
 A6 PR (Instr.loadAt 9 t1) fun t7 =>
 A6 PR (Instr.loadAt 50 t2) fun t8 =>
 A2 PR (A7 .len #[50] 0 [t8]) fun t9 =>
 B2 PR X 132 [t7, t9] fun t10 =>
 A6 PR (Instr.loadAt 50 t2) fun t11 =>
 A2 PR (A7 .len #[50] 0 [t11]) fun t12 =>
 lp (n := 1) (fun L1 t13 =>
 A2 PR (binOp .lss 3 t13 t12) fun t14 =>
 jn (n := 0) (
 jn (n := 0) (
 A2 PR (binOp .add 3 t13 (.int .i64 1)) fun t30 =>
 L1 t30) fun J2 =>
 A2 PR (binOp .add 3 t10 t13) fun t18 =>
 A6 PR (Instr.loadAt 50 t2) fun t19 =>
 A2 PR (A7 .len #[50] 0 [t19]) fun t20 =>
 A2 PR (binOp .rem 3 t18 t20) fun t21 =>
 A6 PR (Instr.loadAt 50 t2) fun t24 =>
 A2 PR (Instr.indexAt 50 t24 t21) fun t26 =>
 A6 PR (Instr.loadAt 71 t26) fun t27 =>
 L5 PR X t0 [t21, t27] fun t28 =>
 A2 PR (Op.unary .not t28) fun t29 =>
 B6 t29 (
 R (.tuple #[])) (
 J2)) fun J3 =>
 B6 t14 (
 J3) (
 R (.tuple #[]))) (.int .i64 0)
theorem B0q : B0 PR 131 := A8 Tryz.func131 (by kernel_rfl) rfl
theorem B1f {X : Nat → Prop} {t0 t1 t2 : Value} {R : Value → WP} {w : World} (h : A4q X t0 t1 t2 R w) : Fn PR X 131 #[t0, t1, t2] w R := C7 (args := [t0, t1, t2]) mixed Tryz.func131 (by kernel_rfl) h
theorem B1T {X : Nat → Prop} {t0 t1 t2 : Value} {K : Value → WP} {w : World} (h : Fn PR X 131 #[t0, t1, t2] w K) : A1a PR X 131 [t0, t1, t2] K w := ⟨B0q, h⟩
def A7s (X : Nat → Prop) (t0 t1 : Value) (R : Value → WP) : WP :=
 jn (n := 1) (fun t4 =>
 B2 PR X 39 [t0] fun t8 =>
 A2 PR (convert 3 68 t1) fun t10 =>
 A2 PR (binOp .rem 68 t8 t10) fun t11 =>
 A2 PR (convert 68 3 t11) fun t12 =>
 R t12) fun J1 =>
 A2 PR (binOp .lss 3 t1 (.int .i64 1)) fun t6 =>
 B6 t6 (
 R (.int .i64 0)) (
 J1 (.int .i64 0))
theorem B3A : B0 PR 132 := A8 Tryz.func132 (by kernel_rfl) rfl
theorem B35 {X : Nat → Prop} {t0 t1 : Value} {R : Value → WP} {w : World} (h : A7s X t0 t1 R w) : Fn PR X 132 #[t0, t1] w R := C7 (args := [t0, t1]) mixed Tryz.func132 (by kernel_rfl) h
def q9 (X : Nat → Prop) (t0 t1 : Value) (R : Value → WP) : WP :=
 jn (n := 2) (fun t5 t10 =>
 R t5) fun J1 =>
 A2 PR (A7 .len #[50] 0 [t0]) fun t9 =>
 lp (n := 2) (fun L2 t5_1 t10_1 =>
 A2 PR (binOp .lss 3 t10_1 t9) fun t11 =>
 jn (n := 0) (
 jn (n := 1) (fun t5_2 =>
 A2 PR (binOp .add 3 t10_1 (.int .i64 1)) fun t19 =>
 L2 t5_2 t19) fun J3 =>
 A2 PR (Instr.indexAt 50 t0 t10_1) fun t12 =>
 A6 PR (Instr.loadAt 71 t12) fun t13 =>
 B1 PR X (Instr.alloc 71 true (.tuple #[])) fun t7 =>
 B4 PR X (Instr.storeAt 71 t7 t13) <|
 A6 PR (Instr.loadAt 71 t7) fun t15 =>
 L5 PR X t1 [t15] fun t16 =>
 B6 t16 (
 A2 PR (binOp .add 3 t5_1 (.int .i64 1)) fun t18 =>
 J3 t18) (
 J3 t5_1)) fun J4 =>
 B6 t11 (
 J4) (
 J1 t5_1 t10_1)) (.int .i64 0) (.int .i64 0)
theorem A27 : B0 PR 162 := A8 Tryz.func162 (by kernel_rfl) rfl
theorem A3N {X : Nat → Prop} {t0 t1 : Value} {R : Value → WP} {w : World} (h : q9 X t0 t1 R w) : Fn PR X 162 #[t0, t1] w R := C7 (args := [t0, t1]) mixed Tryz.func162 (by kernel_rfl) h
def A2w (X : Nat → Prop) (t0 t1 : Value) (R : Value → WP) : WP :=
 B1 PR X (Instr.box 71 t0) fun t2 =>
 A2 PR (Instr.fieldAt 71 t2 0) fun t4 =>
 A6 PR (Instr.loadAt 3 t4) fun t5 =>
 A6 PR (Instr.loadAt 3 t1) fun t6 =>
 A2 PR (binOp .eql 3 t5 t6) fun t7 =>
 R t7
theorem A8z : B0 PR 163 := A8 Tryz.func163 (by kernel_rfl) rfl
theorem A9r {X : Nat → Prop} {t0 t1 : Value} {R : Value → WP} {w : World} (h : A2w X t0 t1 R w) : Fn PR X 163 #[t0, t1] w R := C7 (args := [t0, t1]) mixed Tryz.func163 (by kernel_rfl) h
def A78 (X : Nat → Prop) (t0 t1 : Value) (R : Value → WP) : WP :=
 B1 PR X (Instr.alloc 3 true (.tuple #[])) fun t4 =>
 jn (n := 0) (
 jn (n := 0) (
 B4 PR X (Instr.storeAt 3 t4 (.int .i64 (-1))) <|
 j9 (A6 PR (E0 [.c 3 t4]) R)) fun J1 =>
 B2 PR X 84 [t0, t1] fun t13 =>
 rng (N := 2) PR X (fun t14 t15 K2 =>
 B1 PR (fun _ => False) (Instr.alloc 71 true (.tuple #[])) fun t6 =>
 B4 PR (fun _ => False) (Instr.storeAt 71 t6 t15) <|
 bgn <|
 A2 PR (Instr.fieldAt 71 t6 0) fun t16 =>
 A6 PR (Instr.loadAt 3 t16) fun t17 =>
 A2 PR (binOp .neq 3 t17 (.int .i64 1)) fun t18 =>
 B6 t18 (
 B4 PR (fun _ => False) (Instr.storeAt 3 t4 t14) <|
 K2 (some .ret)) (
 K2 none)) t13 (fun j => match j with | none => (J1) | some (.exit i) => (match Nat.beq i 0 with | true => (J1) | false => (G4)) | some .ret => (j9 (A6 PR (E0 [.c 3 t4]) R)) | some _ => G4)) fun J3 =>
 B2 PR X 35 [t0, t1] fun t9 =>
 A2 PR (binOp .geq 3 t9 (.int .i64 0)) fun t10 =>
 B6 t10 (
 B4 PR X (Instr.storeAt 3 t4 (.int .i64 (-1))) <|
 j9 (A6 PR (E0 [.c 3 t4]) R)) (
 J3)
theorem B28 : B0 PR 164 := A8 Tryz.func164 (by kernel_rfl) rfl
theorem B3s {X : Nat → Prop} {t0 t1 : Value} {R : Value → WP} {w : World} (h : A78 X t0 t1 R w) : Fn PR X 164 #[t0, t1] w R := C7 (args := [t0, t1]) mixed Tryz.func164 (by kernel_rfl) h
end Go.Proofs.YtggakcpabomliaaGreat
namespace Go.Proofs.YtggakcpabomliaaGreat
open Go
def A7z (X : Nat → Prop) (t0 : Value) (R : Value → WP) : WP :=
 B1 PR X (Instr.box 101 t0) fun t1 =>
 A2 PR (Instr.fieldAt 101 t1 0) fun t7 =>
 A6 PR (Instr.loadAt 99 t7) fun t8 =>
 B1 PR X (Instr.alloc 99 true (.tuple #[])) fun t4 =>
 B4 PR X (Instr.storeAt 99 t4 t8) <|
 jn (n := 2) (fun t2 t3 =>
 A2 PR (Instr.fieldAt 99 t4 5) fun t18 =>
 A6 PR (Instr.loadAt 3 t18) fun t19 =>
 A2 PR (Instr.fieldAt 99 t4 3) fun t20 =>
 A6 PR (Instr.loadAt 3 t20) fun t21 =>
 A2 PR (Instr.fieldAt 99 t4 4) fun t22 =>
 A6 PR (Instr.loadAt 3 t22) fun t23 =>
 A2 PR (Instr.fieldAt 101 t1 1) fun t24 =>
 A6 PR (Instr.loadAt 3 t24) fun t25 =>
 A2 PR (Instr.build 161 #[(0, t21), (1, t23), (2, t25)]) fun t26 =>
 B2 PR X 101 [t19, t26] fun t27 =>
 A2 PR (Instr.extract t27 0) fun t28 =>
 A2 PR (Instr.extract t27 1) fun t29 =>
 jn (n := 2) (fun t2_1 t3_1 =>
 jn (n := 2) (fun t2_2 t3_2 =>
 A2 PR (Instr.fieldAt 99 t4 1) fun t47 =>
 A6 PR (Instr.loadAt 9 t47) fun t48 =>
 A2 PR (Instr.fieldAt 99 t4 2) fun t49 =>
 A6 PR (Instr.loadAt 9 t49) fun t50 =>
 A2 PR (Instr.fieldAt 99 t4 5) fun t51 =>
 A6 PR (Instr.loadAt 3 t51) fun t52 =>
 A2 PR (Instr.build 166 #[(0, t48), (1, t50), (2, t52)]) fun t53 =>
 B2 PR X 103 [t53, t28] fun t55 =>
 A2 PR (Instr.extract t55 0) fun t56 =>
 A2 PR (Instr.extract t55 1) fun t57 =>
 R (.tuple #[t56, t57])) fun J1 =>
 A2 PR (Instr.fieldAt 99 t4 0) fun t33 =>
 A6 PR (Instr.loadAt 3 t33) fun t34 =>
 A2 PR (binOp .eql 3 t34 (.int .i64 6)) fun t35 =>
 B6 t35 (
 A2 PR (Instr.fieldAt 99 t4 1) fun t36 =>
 A6 PR (Instr.loadAt 9 t36) fun t37 =>
 A2 PR (Instr.fieldAt 99 t4 2) fun t38 =>
 A6 PR (Instr.loadAt 9 t38) fun t39 =>
 A2 PR (Instr.fieldAt 99 t4 5) fun t40 =>
 A6 PR (Instr.loadAt 3 t40) fun t41 =>
 A2 PR (Instr.build 164 #[(0, t37), (1, t39), (2, t41)]) fun t42 =>
 B2 PR X 102 [t42, t28] fun t44 =>
 A2 PR (Instr.extract t44 0) fun t45 =>
 A2 PR (Instr.extract t44 1) fun t46 =>
 R (.tuple #[t45, t46])) (
 J1 t2_1 t3_1)) fun J2 =>
 A2 PR (binOp .neq 28 t29 (.int .i64 0)) fun t31 =>
 B6 t31 (
 R (.tuple #[(.string (ByteArray.mk #[])), t29])) (
 J2 t2 t3)) fun J3 =>
 A2 PR (Instr.fieldAt 99 t4 0) fun t9 =>
 A6 PR (Instr.loadAt 3 t9) fun t10 =>
 A2 PR (binOp .neq 3 t10 (.int .i64 4)) fun t11 =>
 gj t11 true (fun J => A2 PR (Instr.fieldAt 99 t4 0) J) fun t13 =>
 gj t11 true (fun J => A6 PR (Instr.loadAt 3 t13) J) fun t14 =>
 gj t11 true (fun J => A2 PR (binOp .neq 3 t14 (.int .i64 6)) J) fun t15 =>
 A2 PR (do pure (if ← asBool t11 then t15 else (.bool false))) fun t16 =>
 B6 t16 (
 R (.tuple #[(.string (ByteArray.mk #[])), (.int .i64 3)])) (
 J3 (.string (ByteArray.mk #[])) (.int .i64 0))
theorem B2c : B0 PR 54 := A8 Tryz.func54 (by kernel_rfl) rfl
theorem B4P {X : Nat → Prop} {t0 : Value} {R : Value → WP} {w : World} (h : A7z X t0 R w) : Fn PR X 54 #[t0] w R := C7 (args := [t0]) mixed Tryz.func54 (by kernel_rfl) h
def A5J (X : Nat → Prop) (t0 : Value) (R : Value → WP) : WP :=
 B1 PR X (Instr.alloc 101 true (.tuple #[])) fun t2 =>
 B2 PR X 153 [t0] fun t10 =>
 A2 PR (Instr.extract t10 0) fun t11 =>
 A2 PR (Instr.extract t10 1) fun t12 =>
 A2 PR (Instr.extract t10 2) fun t13 =>
 B1 PR X (Instr.alloc 99 true (.tuple #[])) fun t4 =>
 B4 PR X (Instr.storeAt 99 t4 t11) <|
 jn (n := 1) (fun t3 =>
 A2 PR (Instr.fieldAt 99 t4 5) fun t19 =>
 A6 PR (Instr.loadAt 3 t19) fun t20 =>
 B2 PR X 154 [t20, t12] fun t22 =>
 A2 PR (Instr.extract t22 0) fun t23 =>
 A2 PR (Instr.extract t22 1) fun t24 =>
 B1 PR X (Instr.alloc 161 true (.tuple #[])) fun t7 =>
 B4 PR X (Instr.storeAt 161 t7 t23) <|
 jn (n := 1) (fun t3_1 =>
 drw <|
 A2 PR (Instr.fieldAt 161 t7 0) fun t29 =>
 A6 PR (Instr.loadAt 3 t29) fun t30 =>
 A2 PR (Instr.fieldAt 161 t7 1) fun t31 =>
 A6 PR (Instr.loadAt 3 t31) fun t32 =>
 A2 PR (Instr.fieldAt 99 t4 3) fun t33 =>
 B4 PR X (Instr.storeAt 3 t33 t30) <|
 watch PR [(none, (Instr.loadAt 3 t31), t32)] <|
 A2 PR (Instr.fieldAt 99 t4 4) fun t34 =>
 B4 PR X (Instr.storeAt 3 t34 t32) <|
 A6 PR (Instr.loadAt 99 t4) fun t35 =>
 A2 PR (Instr.fieldAt 161 t7 2) fun t36 =>
 A6 PR (Instr.loadAt 3 t36) fun t37 =>
 A2 PR (Instr.build 101 #[(0, t35), (1, t37)]) fun t38 =>
 B4 PR X (Instr.storeAt 101 t2 t38) <|
 A6 PR (E0 [.c 101 t2, .v (.int .i64 0)]) R) fun J1 =>
 A2 PR (binOp .neq 28 t24 (.int .i64 0)) fun t26 =>
 B6 t26 (
 A2 PR (Instr.build 101 #[]) fun t27 =>
 B4 PR X (Instr.storeAt 101 t2 t27) <|
 A6 PR (E0 [.c 101 t2, .v t24]) R) (
 J1 t3)) fun J2 =>
 A2 PR (binOp .neq 28 t13 (.int .i64 0)) fun t15 =>
 B6 t15 (
 A2 PR (Instr.build 101 #[]) fun t16 =>
 B4 PR X (Instr.storeAt 101 t2 t16) <|
 A6 PR (E0 [.c 101 t2, .v t13]) R) (
 J2 (.int .i64 0))
theorem B0K : B0 PR 104 := A8 Tryz.func104 (by kernel_rfl) rfl
theorem B1S {X : Nat → Prop} {t0 : Value} {R : Value → WP} {w : World} (h : A5J X t0 R w) : Fn PR X 104 #[t0] w R := C7 (args := [t0]) mixed Tryz.func104 (by kernel_rfl) h
def A48 (X : Nat → Prop) (t0 : Value) (R : Value → WP) : WP :=
 B1 PR X (Instr.box 99 t0) fun t1 =>
 A2 PR (Instr.fieldAt 99 t1 0) fun t8 =>
 A6 PR (Instr.loadAt 3 t8) fun t9 =>
 B2 PR X 155 [t9] fun t10 =>
 A2 PR (Instr.fieldAt 99 t1 5) fun t12 =>
 A6 PR (Instr.loadAt 3 t12) fun t13 =>
 A2 PR (Instr.fieldAt 99 t1 3) fun t14 =>
 A6 PR (Instr.loadAt 3 t14) fun t15 =>
 A2 PR (Instr.fieldAt 99 t1 4) fun t16 =>
 A6 PR (Instr.loadAt 3 t16) fun t17 =>
 A2 PR (Instr.build 161 #[(0, t15), (1, t17)]) fun t18 =>
 B2 PR X 101 [t13, t18] fun t19 =>
 A2 PR (Instr.extract t19 0) fun t20 =>
 A2 PR (Instr.extract t19 1) fun t21 =>
 jn (n := 2) (fun t2 t3 =>
 B1 PR X (Instr.alloc 237 true (.tuple #[])) fun t7 =>
 A2 PR (Instr.sliceAt 237 t7 none none none) fun t42 =>
 B1 PR X (A7 .clear #[218] 0 [t42]) fun _ =>
 drw <|
 A2 PR (Instr.sliceAt 237 t7 none none none) fun t43 =>
 A2 PR (Instr.fieldAt 99 t1 0) fun t44 =>
 A6 PR (Instr.loadAt 3 t44) fun t45 =>
 A2 PR (convert 3 68 t45) fun t46 =>
 A2 PR (binOp .shl 68 t46 (.int .u64 8)) fun t47 =>
 A2 PR (Instr.fieldAt 99 t1 5) fun t48 =>
 A6 PR (Instr.loadAt 3 t48) fun t49 =>
 A2 PR (convert 3 68 t49) fun t50 =>
 A2 PR (binOp .or 68 t47 t50) fun t51 =>
 A2 PR (Instr.fieldAt 99 t1 3) fun t53 =>
 A6 PR (Instr.loadAt 3 t53) fun t54 =>
 A2 PR (convert 3 68 t54) fun t55 =>
 A2 PR (Instr.fieldAt 99 t1 4) fun t58 =>
 A6 PR (Instr.loadAt 3 t58) fun t59 =>
 A2 PR (convert 3 68 t59) fun t60 =>
 B2 PR X 151 [t51, (.int .i64 2)] fun t52 =>
 watch PR [(none, (Instr.loadAt 3 t58), t59), (none, (Instr.loadAt 3 t53), t54)] <|
 B2 PR X 151 [t55, (.int .i64 2)] fun t56 =>
 watch PR [(none, (Instr.loadAt 3 t58), t59)] <|
 A2 PR (binOp .add 9 t52 t56) fun t57 =>
 B2 PR X 151 [t60, (.int .i64 2)] fun t61 =>
 A2 PR (binOp .add 9 t57 t61) fun t62 =>
 B1 PR X (A7 .copy #[218, 9] 3 [t43, t62]) fun t63 =>
 drw <|
 A2 PR (Instr.sliceAt 237 t7 (some (.int .i64 6)) none none) fun t64 =>
 A2 PR (Instr.fieldAt 99 t1 1) fun t65 =>
 A6 PR (Instr.loadAt 9 t65) fun t66 =>
 B1 PR X (A7 .copy #[218, 9] 3 [t64, t66]) fun t67 =>
 drw <|
 A2 PR (Instr.sliceAt 237 t7 (some (.int .i64 22)) none none) fun t68 =>
 A2 PR (Instr.fieldAt 99 t1 2) fun t69 =>
 A6 PR (Instr.loadAt 9 t69) fun t70 =>
 B1 PR X (A7 .copy #[218, 9] 3 [t68, t70]) fun t71 =>
 A2 PR (Instr.sliceAt 237 t7 none none none) fun t72 =>
 A6 PR (convert 218 9 t72) fun t73 =>
 R (.tuple #[t73, (.bool true)])) fun J1 =>
 A2 PR (binOp .eql 3 t10 (.int .i64 0)) fun t23 =>
 gj t23 false (fun J => A2 PR (Instr.fieldAt 99 t1 1) J) fun t25 =>
 gj t23 false (fun J => A6 PR (Instr.loadAt 9 t25) J) fun t26 =>
 gj t23 false (fun J => A2 PR (A7 .len #[9] 0 [t26]) J) fun t27 =>
 gj t23 false (fun J => J t10) fun t28 =>
 gj t23 false (fun J => A2 PR (binOp .neq 3 t27 t28) J) fun t29 =>
 A2 PR (do pure (if ← asBool t23 then (.bool true) else t29)) fun t30 =>
 gj t30 false (fun J => A2 PR (Instr.fieldAt 99 t1 2) J) fun t32 =>
 gj t30 false (fun J => A6 PR (Instr.loadAt 9 t32) J) fun t33 =>
 gj t30 false (fun J => A2 PR (A7 .len #[9] 0 [t33]) J) fun t34 =>
 gj t30 false (fun J => J t10) fun t35 =>
 gj t30 false (fun J => A2 PR (binOp .neq 3 t34 t35) J) fun t36 =>
 A2 PR (do pure (if ← asBool t30 then (.bool true) else t36)) fun t37 =>
 gj t37 false (fun J => J t21) fun t39 =>
 gj t37 false (fun J => A2 PR (binOp .neq 28 t39 (.int .i64 0)) J) fun t40 =>
 A2 PR (do pure (if ← asBool t37 then (.bool true) else t40)) fun t41 =>
 B6 t41 (
 R (.tuple #[(.string (ByteArray.mk #[])), (.bool false)])) (
 J1 (.string (ByteArray.mk #[])) (.bool false))
theorem B0Z : B0 PR 105 := A8 Tryz.func105 (by kernel_rfl) rfl
theorem B2C {X : Nat → Prop} {t0 : Value} {R : Value → WP} {w : World} (h : A48 X t0 R w) : Fn PR X 105 #[t0] w R := C7 (args := [t0]) mixed Tryz.func105 (by kernel_rfl) h
def A20 (X : Nat → Prop) (t0 : Value) (R : Value → WP) : WP :=
 B1 PR X (Instr.box 101 t0) fun t1 =>
 A2 PR (Instr.fieldAt 101 t1 0) fun t3 =>
 A2 PR (Instr.fieldAt 99 t3 5) fun t4 =>
 A6 PR (Instr.loadAt 3 t4) fun t5 =>
 A2 PR (binOp .eql 3 t5 (.int .i64 6)) fun t6 =>
 gj t6 true (fun J => A2 PR (Instr.fieldAt 101 t1 1) J) fun t8 =>
 gj t6 true (fun J => A6 PR (Instr.loadAt 3 t8) J) fun t9 =>
 gj t6 true (fun J => A2 PR (binOp .and 3 t9 (.int .i64 5)) J) fun t10 =>
 gj t6 true (fun J => A2 PR (binOp .neq 3 t10 (.int .i64 0)) J) fun t11 =>
 A2 PR (do pure (if ← asBool t6 then t11 else (.bool false))) fun t12 =>
 R t12
theorem c9 : B0 PR 106 := A8 Tryz.func106 (by kernel_rfl) rfl
theorem A9n {X : Nat → Prop} {t0 : Value} {R : Value → WP} {w : World} (h : A20 X t0 R w) : Fn PR X 106 #[t0] w R := C7 (args := [t0]) mixed Tryz.func106 (by kernel_rfl) h
def A4m (X : Nat → Prop) (t0 : Value) (R : Value → WP) : WP :=
 B1 PR X (Instr.alloc 99 true (.tuple #[])) fun t2 =>
 jn (n := 2) (fun t3 t4 =>
 A2 PR (Instr.build 99 #[]) fun t29 =>
 B4 PR X (Instr.storeAt 99 t2 t29) <|
 A6 PR (E0 [.c 99 t2, .v (.string (ByteArray.mk #[])), .v (.int .i64 3)]) R) fun J1 =>
 A2 PR (binOp .eql 9 t0 (.string (ByteArray.mk #[]))) fun t7 =>
 B6 t7 (
 A2 PR (Instr.build 99 #[]) fun t8 =>
 B4 PR X (Instr.storeAt 99 t2 t8) <|
 A6 PR (E0 [.c 99 t2, .v (.string (ByteArray.mk #[])), .v (.int .i64 2)]) R) (
 A2 PR (Instr.index 9 t0 (.int .i64 0)) fun t11 =>
 A2 PR (binOp .shr 5 t11 (.int .u64 4)) fun t12 =>
 A2 PR (binOp .eql 5 t12 (.int .u8 4)) fun t13 =>
 B6 t13 (
 B2 PR X 186 [t0, (.func (.func 187) #[] #[]), (.func (.func 188) #[] #[])] fun t15 =>
 A2 PR (Instr.extract t15 0) fun t16 =>
 A2 PR (Instr.extract t15 1) fun t17 =>
 A2 PR (Instr.extract t15 2) fun t18 =>
 B4 PR X (Instr.storeAt 99 t2 t16) <|
 A6 PR (E0 [.c 99 t2, .v t17, .v t18]) R) (
 A2 PR (Instr.index 9 t0 (.int .i64 0)) fun t21 =>
 A2 PR (binOp .shr 5 t21 (.int .u64 4)) fun t22 =>
 A2 PR (binOp .eql 5 t22 (.int .u8 6)) fun t23 =>
 B6 t23 (
 B2 PR X 189 [t0, (.func (.func 190) #[] #[]), (.func (.func 191) #[] #[])] fun t25 =>
 A2 PR (Instr.extract t25 0) fun t26 =>
 A2 PR (Instr.extract t25 1) fun t27 =>
 A2 PR (Instr.extract t25 2) fun t28 =>
 B4 PR X (Instr.storeAt 99 t2 t26) <|
 A6 PR (E0 [.c 99 t2, .v t27, .v t28]) R) (
 J1 (.string (ByteArray.mk #[])) (.int .i64 0))))
theorem B0u : B0 PR 153 := A8 Tryz.func153 (by kernel_rfl) rfl
theorem B1N {X : Nat → Prop} {t0 : Value} {R : Value → WP} {w : World} (h : A4m X t0 R w) : Fn PR X 153 #[t0] w R := C7 (args := [t0]) mixed Tryz.func153 (by kernel_rfl) h
def A6T (X : Nat → Prop) (t0 : Value) (R : Value → WP) : WP :=
 jn (n := 1) (fun t2 =>
 R (.int .i64 0)) fun J1 =>
 A2 PR (binOp .eql 3 t0 (.int .i64 4)) fun t5 =>
 B6 t5 (
 R (.int .i64 4)) (
 A2 PR (binOp .eql 3 t0 (.int .i64 6)) fun t7 =>
 B6 t7 (
 R (.int .i64 16)) (
 J1 (.int .i64 0)))
theorem B07 : B0 PR 155 := A8 Tryz.func155 (by kernel_rfl) rfl
theorem B2j {X : Nat → Prop} {t0 : Value} {R : Value → WP} {w : World} (h : A6T X t0 R w) : Fn PR X 155 #[t0] w R := C7 (args := [t0]) mixed Tryz.func155 (by kernel_rfl) h
def y5 (X : Nat → Prop) (t0 t1 t2 : Value) (R : Value → WP) : WP :=
 B1 PR X (Instr.alloc 99 true (.tuple #[])) fun t6 =>
 L5 PR X t1 [t0] fun t15 =>
 A2 PR (Instr.extract t15 0) fun t16 =>
 A2 PR (Instr.extract t15 1) fun t17 =>
 A2 PR (Instr.extract t15 2) fun t18 =>
 B1 PR X (Instr.alloc 166 true (.tuple #[])) fun t9 =>
 B4 PR X (Instr.storeAt 166 t9 t16) <|
 A6 PR (Instr.loadAt 166 t9) fun t20 =>
 L5 PR X t2 [t20] fun t21 =>
 B4 PR X (Instr.storeAt 99 t6 t21) <|
 A6 PR (E0 [.c 99 t6, .v t17, .v t18]) R
theorem A3b : B0 PR 186 := A8 Tryz.func186 (by kernel_rfl) rfl
theorem A4W {X : Nat → Prop} {t0 t1 t2 : Value} {R : Value → WP} {w : World} (h : y5 X t0 t1 t2 R w) : Fn PR X 186 #[t0, t1, t2] w R := C7 (args := [t0, t1, t2]) mixed Tryz.func186 (by kernel_rfl) h
def A2k (X : Nat → Prop) (t0 : Value) (R : Value → WP) : WP :=
 B1 PR X (Instr.box 166 t0) fun t1 =>
 B1 PR X (Instr.alloc 99 true (.tuple #[])) fun t2 =>
 A2 PR (Instr.fieldAt 166 t1 0) fun t3 =>
 A6 PR (Instr.loadAt 9 t3) fun t4 =>
 A2 PR (Instr.fieldAt 166 t1 1) fun t5 =>
 A6 PR (Instr.loadAt 9 t5) fun t6 =>
 A2 PR (Instr.fieldAt 166 t1 2) fun t7 =>
 A6 PR (Instr.loadAt 3 t7) fun t8 =>
 A2 PR (Instr.build 99 #[(0, (.int .i64 4)), (1, t4), (2, t6), (5, t8)]) fun t9 =>
 B4 PR X (Instr.storeAt 99 t2 t9) <|
 A6 PR (E0 [.c 99 t2]) R
theorem A8K : B0 PR 188 := A8 Tryz.func188 (by kernel_rfl) rfl
theorem A8U {X : Nat → Prop} {t0 : Value} {R : Value → WP} {w : World} (h : A2k X t0 R w) : Fn PR X 188 #[t0] w R := C7 (args := [t0]) mixed Tryz.func188 (by kernel_rfl) h
def x6 (X : Nat → Prop) (t0 t1 t2 : Value) (R : Value → WP) : WP :=
 B1 PR X (Instr.alloc 99 true (.tuple #[])) fun t6 =>
 L5 PR X t1 [t0] fun t15 =>
 A2 PR (Instr.extract t15 0) fun t16 =>
 A2 PR (Instr.extract t15 1) fun t17 =>
 A2 PR (Instr.extract t15 2) fun t18 =>
 B1 PR X (Instr.alloc 164 true (.tuple #[])) fun t9 =>
 B4 PR X (Instr.storeAt 164 t9 t16) <|
 A6 PR (Instr.loadAt 164 t9) fun t20 =>
 L5 PR X t2 [t20] fun t21 =>
 B4 PR X (Instr.storeAt 99 t6 t21) <|
 A6 PR (E0 [.c 99 t6, .v t17, .v t18]) R
theorem A34 : B0 PR 189 := A8 Tryz.func189 (by kernel_rfl) rfl
theorem A4D {X : Nat → Prop} {t0 t1 t2 : Value} {R : Value → WP} {w : World} (h : x6 X t0 t1 t2 R w) : Fn PR X 189 #[t0, t1, t2] w R := C7 (args := [t0, t1, t2]) mixed Tryz.func189 (by kernel_rfl) h
def A2b (X : Nat → Prop) (t0 : Value) (R : Value → WP) : WP :=
 B1 PR X (Instr.box 164 t0) fun t1 =>
 B1 PR X (Instr.alloc 99 true (.tuple #[])) fun t2 =>
 A2 PR (Instr.fieldAt 164 t1 0) fun t3 =>
 A6 PR (Instr.loadAt 9 t3) fun t4 =>
 A2 PR (Instr.fieldAt 164 t1 1) fun t5 =>
 A6 PR (Instr.loadAt 9 t5) fun t6 =>
 A2 PR (Instr.fieldAt 164 t1 2) fun t7 =>
 A6 PR (Instr.loadAt 3 t7) fun t8 =>
 A2 PR (Instr.build 99 #[(0, (.int .i64 6)), (1, t4), (2, t6), (5, t8)]) fun t9 =>
 B4 PR X (Instr.storeAt 99 t2 t9) <|
 A6 PR (E0 [.c 99 t2]) R
theorem A8F : B0 PR 191 := A8 Tryz.func191 (by kernel_rfl) rfl
theorem A89 {X : Nat → Prop} {t0 : Value} {R : Value → WP} {w : World} (h : A2b X t0 R w) : Fn PR X 191 #[t0] w R := C7 (args := [t0]) mixed Tryz.func191 (by kernel_rfl) h
end Go.Proofs.YtggakcpabomliaaGreat
namespace Go.Proofs.YtggakcpabomliaaGreat
open Go
def A99 (X : Nat → Prop) (t0 t1 : Value) (R : Value → WP) : WP :=
 B1 PR X (Instr.box 161 t1) fun t3 =>
 B2 PR X 145 [] fun t11 =>
 A6 PR (Instr.lookup 213 t11 t0 false) fun t13 =>
 jn (n := 2) (fun t4 t5 =>
 A6 PR (Instr.loadAt 161 t3) fun t17 =>
 B2 PR X 146 [t17] fun t18 =>
 A2 PR (Instr.extract t18 0) fun t19 =>
 A2 PR (Instr.extract t18 1) fun t20 =>
 A2 PR (Instr.fieldAt 161 t3 2) fun t23 =>
 A6 PR (Instr.loadAt 3 t23) fun t24 =>
 inv PR X t13 "gangplank/port.put" [t24] fun t25 =>
 A2 PR (Instr.extract t25 0) fun t26 =>
 A2 PR (Instr.extract t25 1) fun t27 =>
 jn (n := 2) (fun t4_1 t5_1 =>
 A2 PR (binOp .add 9 t19 t26) fun t36 =>
 R (.tuple #[t36, (.int .i64 0)])) fun J1 =>
 A2 PR (Op.unary .not t20) fun t29 =>
 gj t29 false (fun J => J t27) fun t31 =>
 gj t29 false (fun J => A2 PR (binOp .neq 28 t31 (.int .i64 0)) J) fun t32 =>
 A2 PR (do pure (if ← asBool t29 then (.bool true) else t32)) fun t33 =>
 B6 t33 (
 R (.tuple #[(.string (ByteArray.mk #[])), (.int .i64 1)])) (
 J1 t4 t5)) fun J2 =>
 A6 PR (N2 .eql 212 (.tmp 14) (.const .nilIface) t13 .nilIface) fun t15 =>
 B6 t15 (
 R (.tuple #[(.string (ByteArray.mk #[])), (.int .i64 7)])) (
 J2 (.string (ByteArray.mk #[])) (.int .i64 0))
theorem A3Y : B0 PR 101 := A8 Tryz.func101 (by kernel_rfl) rfl
theorem B6w {X : Nat → Prop} {t0 t1 : Value} {R : Value → WP} {w : World} (h : A99 X t0 t1 R w) : Fn PR X 101 #[t0, t1] w R := C7 (args := [t0, t1]) mixed Tryz.func101 (by kernel_rfl) h
def A6M (X : Nat → Prop) (R : Value → WP) : WP :=
 B1 PR X (Instr.makeMap 213 none) fun t1 =>
 A2 PR (Instr.build 263 #[]) fun t2 =>
 A2 PR (Instr.makeInterface 263 t2) fun t3 =>
 B4 PR X (Instr.mapUpdate 213 t1 (.int .i64 6) t3) <|
 A2 PR (Instr.build 264 #[]) fun t4 =>
 A2 PR (Instr.makeInterface 264 t4) fun t5 =>
 B4 PR X (Instr.mapUpdate 213 t1 (.int .i64 17) t5) <|
 R t1
theorem A5F : B0 PR 145 := A8 Tryz.func145 (by kernel_rfl) rfl
theorem B3B {X : Nat → Prop} {R : Value → WP} {w : World} (h : A6M X R w) : Fn PR X 145 #[] w R := C7 (args := []) mixed Tryz.func145 (by kernel_rfl) h
def A70 (X : Nat → Prop) (t0 : Value) (R : Value → WP) : WP :=
 B1 PR X (Instr.box 161 t0) fun t1 =>
 jn (n := 2) (fun t4 t5 =>
 A2 PR (binOp .eql 3 t5 (.int .i64 2)) fun t37 =>
 R (.tuple #[t4, t37])) fun J1 =>
 jn (n := 2) (fun t4_1 t5_1 =>
 jn (n := 2) (fun t4_2 t5_2 =>
 J1 t4_2 t5_2) fun J2 =>
 A2 PR (Instr.fieldAt 161 t1 1) fun t19 =>
 A6 PR (Instr.loadAt 3 t19) fun t20 =>
 A2 PR (binOp .geq 3 t20 (.int .i64 0)) fun t21 =>
 gj t21 true (fun J => A2 PR (Instr.fieldAt 161 t1 1) J) fun t23 =>
 gj t21 true (fun J => A6 PR (Instr.loadAt 3 t23) J) fun t24 =>
 gj t21 true (fun J => A2 PR (binOp .leq 3 t24 (.int .i64 65535)) J) fun t25 =>
 A2 PR (do pure (if ← asBool t21 then t25 else (.bool false))) fun t26 =>
 B6 t26 (
 A2 PR (Instr.fieldAt 161 t1 1) fun t28 =>
 A6 PR (Instr.loadAt 3 t28) fun t29 =>
 A2 PR (convert 3 68 t29) fun t30 =>
 B2 PR X 151 [t30, (.int .i64 2)] fun t31 =>
 A2 PR (binOp .add 9 t4_1 t31) fun t32 =>
 A2 PR (binOp .add 3 t5_1 (.int .i64 1)) fun t34 =>
 J2 t32 t34) (
 J2 t4_1 t5_1)) fun J3 =>
 jn (n := 0) (
 A2 PR (Instr.fieldAt 161 t1 0) fun t15 =>
 A6 PR (Instr.loadAt 3 t15) fun t16 =>
 A2 PR (convert 3 68 t16) fun t17 =>
 B2 PR X 151 [t17, (.int .i64 2)] fun t18 =>
 J3 t18 (.int .i64 1)) fun J4 =>
 jn (n := 0) (
 J3 (.string (ByteArray.mk #[])) (.int .i64 0)) fun J5 =>
 A2 PR (Instr.fieldAt 161 t1 0) fun t7 =>
 A6 PR (Instr.loadAt 3 t7) fun t8 =>
 A2 PR (binOp .geq 3 t8 (.int .i64 0)) fun t9 =>
 gj t9 true (fun J => A2 PR (Instr.fieldAt 161 t1 0) J) fun t11 =>
 gj t9 true (fun J => A6 PR (Instr.loadAt 3 t11) J) fun t12 =>
 gj t9 true (fun J => A2 PR (binOp .leq 3 t12 (.int .i64 65535)) J) fun t13 =>
 A2 PR (do pure (if ← asBool t9 then t13 else (.bool false))) fun t14 =>
 B6 t14 (
 J4) (
 J5)
theorem A6p : B0 PR 146 := A8 Tryz.func146 (by kernel_rfl) rfl
theorem B4J {X : Nat → Prop} {t0 : Value} {R : Value → WP} {w : World} (h : A70 X t0 R w) : Fn PR X 146 #[t0] w R := C7 (args := [t0]) mixed Tryz.func146 (by kernel_rfl) h
def A73 (X : Nat → Prop) (t0 t1 : Value) (R : Value → WP) : WP :=
 B1 PR X (Instr.alloc 161 true (.tuple #[])) fun t4 =>
 B2 PR X 145 [] fun t13 =>
 A6 PR (Instr.lookup 213 t13 t0 false) fun t15 =>
 jn (n := 1) (fun t5 =>
 inv PR X t15 "gangplank/port.parse" [t1] fun t22 =>
 A2 PR (Instr.extract t22 0) fun t23 =>
 A2 PR (Instr.extract t22 1) fun t24 =>
 jn (n := 1) (fun t5_1 =>
 B2 PR X 192 [t1, (.int .i64 0), (.int .i64 2)] fun t31 =>
 A2 PR (Instr.extract t31 0) fun t32 =>
 A2 PR (Instr.extract t31 1) fun t33 =>
 B2 PR X 192 [t1, (.int .i64 2), (.int .i64 2)] fun t36 =>
 A2 PR (Instr.extract t36 0) fun t37 =>
 A2 PR (Instr.extract t36 1) fun t38 =>
 A2 PR (convert 68 3 t32) fun t40 =>
 A2 PR (convert 68 3 t37) fun t42 =>
 A2 PR (Instr.build 161 #[(0, t40), (1, t42), (2, t23)]) fun t44 =>
 B4 PR X (Instr.storeAt 161 t4 t44) <|
 A6 PR (E0 [.c 161 t4, .v (.int .i64 0)]) R) fun J1 =>
 A2 PR (binOp .neq 28 t24 (.int .i64 0)) fun t26 =>
 B6 t26 (
 A2 PR (Instr.build 161 #[]) fun t27 =>
 B4 PR X (Instr.storeAt 161 t4 t27) <|
 A6 PR (E0 [.c 161 t4, .v t24]) R) (
 J1 t5)) fun J2 =>
 A6 PR (N2 .eql 212 (.tmp 16) (.const .nilIface) t15 .nilIface) fun t17 =>
 B6 t17 (
 A2 PR (Instr.build 161 #[]) fun t18 =>
 B4 PR X (Instr.storeAt 161 t4 t18) <|
 A6 PR (E0 [.c 161 t4, .v (.int .i64 7)]) R) (
 J2 (.int .i64 0))
theorem B2d : B0 PR 154 := A8 Tryz.func154 (by kernel_rfl) rfl
theorem B4C {X : Nat → Prop} {t0 t1 : Value} {R : Value → WP} {w : World} (h : A73 X t0 t1 R w) : Fn PR X 154 #[t0, t1] w R := C7 (args := [t0, t1]) mixed Tryz.func154 (by kernel_rfl) h
def A2y (X : Nat → Prop) (t0 t1 : Value) (R : Value → WP) : WP :=
 B1 PR X (Instr.box 263 t0) fun t2 =>
 jn (n := 2) (fun t4 t5 =>
 jn (n := 2) (fun t4_1 t5_1 =>
 A2 PR (Instr.index 9 t1 (.int .i64 13)) fun t24 =>
 A2 PR (convert 5 3 t24) fun t25 =>
 R (.tuple #[t25, (.int .i64 0)])) fun J1 =>
 A2 PR (Instr.index 9 t1 (.int .i64 12)) fun t11 =>
 A2 PR (binOp .shr 5 t11 (.int .u64 4)) fun t12 =>
 A2 PR (convert 5 3 t12) fun t13 =>
 A2 PR (binOp .mul 3 t13 (.int .i64 4)) fun t14 =>
 A2 PR (binOp .lss 3 t14 (.int .i64 20)) fun t16 =>
 gj t16 false (fun J => J t14) fun t18 =>
 gj t16 false (fun J => J t1) fun t19 =>
 gj t16 false (fun J => A2 PR (A7 .len #[9] 0 [t19]) J) fun t20 =>
 gj t16 false (fun J => A2 PR (binOp .gtr 3 t18 t20) J) fun t21 =>
 A2 PR (do pure (if ← asBool t16 then (.bool true) else t21)) fun t22 =>
 B6 t22 (
 R (.tuple #[(.int .i64 0), (.int .i64 8)])) (
 J1 t4 t5)) fun J2 =>
 A2 PR (A7 .len #[9] 0 [t1]) fun t8 =>
 A2 PR (binOp .lss 3 t8 (.int .i64 20)) fun t9 =>
 B6 t9 (
 R (.tuple #[(.int .i64 0), (.int .i64 2)])) (
 J2 (.int .i64 0) (.int .i64 0))
theorem A9k {X : Nat → Prop} {t0 t1 : Value} {R : Value → WP} {w : World} (h : A2y X t0 t1 R w) : Fn PR X 253 #[t0, t1] w R := C7 (args := [t0, t1]) mixed Tryz.func253 (by kernel_rfl) h
def A5E (X : Nat → Prop) (t0 t1 : Value) (R : Value → WP) : WP :=
 B1 PR X (Instr.box 263 t0) fun t2 =>
 jn (n := 2) (fun t4 t5 =>
 B2 PR X 255 [(.string (ByteArray.mk #[0])), (.int .i64 8)] fun t12 =>
 A2 PR (binOp .add 9 t12 (.string (ByteArray.mk #[80]))) fun t13 =>
 A2 PR (convert 3 68 t1) fun t15 =>
 B2 PR X 151 [t15, (.int .i64 1)] fun t16 =>
 A2 PR (binOp .add 9 t13 t16) fun t17 =>
 B2 PR X 255 [(.string (ByteArray.mk #[0])), (.int .i64 6)] fun t18 =>
 A2 PR (binOp .add 9 t17 t18) fun t19 =>
 R (.tuple #[t19, (.int .i64 0)])) fun J1 =>
 A2 PR (binOp .lss 3 t1 (.int .i64 0)) fun t7 =>
 gj t7 false (fun J => J t1) fun t9 =>
 gj t7 false (fun J => A2 PR (binOp .gtr 3 t9 (.int .i64 255)) J) fun t10 =>
 A2 PR (do pure (if ← asBool t7 then (.bool true) else t10)) fun t11 =>
 B6 t11 (
 R (.tuple #[(.string (ByteArray.mk #[])), (.int .i64 1)])) (
 J1 (.string (ByteArray.mk #[])) (.int .i64 0))
theorem B1k {X : Nat → Prop} {t0 t1 : Value} {R : Value → WP} {w : World} (h : A5E X t0 t1 R w) : Fn PR X 254 #[t0, t1] w R := C7 (args := [t0, t1]) mixed Tryz.func254 (by kernel_rfl) h
def A23 (X : Nat → Prop) (t0 t1 : Value) (R : Value → WP) : WP :=
 B1 PR X (Instr.box 264 t0) fun t2 =>
 jn (n := 2) (fun t4 t5 =>
 jn (n := 2) (fun t4_1 t5_1 =>
 R (.tuple #[(.int .i64 0), (.int .i64 0)])) fun J1 =>
 B2 PR X 192 [t1, (.int .i64 4), (.int .i64 2)] fun t13 =>
 A2 PR (Instr.extract t13 0) fun t14 =>
 A2 PR (Instr.extract t13 1) fun t15 =>
 A2 PR (binOp .lss 68 t14 (.int .u64 8)) fun t17 =>
 gj t17 false (fun J => J t14) fun t19 =>
 gj t17 false (fun J => J t1) fun t20 =>
 gj t17 false (fun J => A2 PR (A7 .len #[9] 0 [t20]) J) fun t21 =>
 gj t17 false (fun J => A2 PR (convert 3 68 t21) J) fun t22 =>
 gj t17 false (fun J => A2 PR (binOp .gtr 68 t19 t22) J) fun t23 =>
 A2 PR (do pure (if ← asBool t17 then (.bool true) else t23)) fun t24 =>
 B6 t24 (
 R (.tuple #[(.int .i64 0), (.int .i64 4)])) (
 J1 t4 t5)) fun J2 =>
 A2 PR (A7 .len #[9] 0 [t1]) fun t9 =>
 A2 PR (binOp .lss 3 t9 (.int .i64 8)) fun t10 =>
 B6 t10 (
 R (.tuple #[(.int .i64 0), (.int .i64 2)])) (
 J2 (.int .i64 0) (.int .i64 0))
theorem A9s {X : Nat → Prop} {t0 t1 : Value} {R : Value → WP} {w : World} (h : A23 X t0 t1 R w) : Fn PR X 265 #[t0, t1] w R := C7 (args := [t0, t1]) mixed Tryz.func265 (by kernel_rfl) h
def A4w (X : Nat → Prop) (t0 t1 : Value) (R : Value → WP) : WP :=
 B1 PR X (Instr.box 264 t0) fun t2 =>
 jn (n := 2) (fun t4 t5 =>
 R (.tuple #[(.string (ByteArray.mk #[0, 8, 0, 0])), (.int .i64 0)])) fun J1 =>
 A2 PR (binOp .neq 3 t1 (.int .i64 0)) fun t7 =>
 B6 t7 (
 R (.tuple #[(.string (ByteArray.mk #[])), (.int .i64 1)])) (
 J1 (.string (ByteArray.mk #[])) (.int .i64 0))
theorem B1s {X : Nat → Prop} {t0 t1 : Value} {R : Value → WP} {w : World} (h : A4w X t0 t1 R w) : Fn PR X 266 #[t0, t1] w R := C7 (args := [t0, t1]) mixed Tryz.func266 (by kernel_rfl) h
end Go.Proofs.YtggakcpabomliaaGreat
