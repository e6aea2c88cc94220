/- The proof of a given statement, a part of it (ShStd ShOctet Ins Tc Tn Oct). No condition but what each lemma says. -/
import Derived.Test.YtjobgnabneddjaaGreatQ8
set_option linter.unusedVariables false
set_option linter.unusedSimpArgs false
namespace Go.Proofs.YtjobgnabneddjaaGreat
open Go
def L7 (X : Nat → Prop) (t0 : Value) (R : Value → WP) : WP :=
 jn (n := 1) (fun t2 =>
 B6 PR X (Instr.buildSlice 58 0 #[]) fun t5 =>
 B6 PR X (A8 .append #[58, 58] 58 [t5, t0]) fun t7 =>
 R t7) fun J1 =>
 A6 PR (G0 .eql 58 (.tmp 3) (.const (.slice none 0 0)) t0 (.slice none 0 0)) fun t4 =>
 C8 t4 (
 R (.slice none 0 0)) (
 J1 (.slice none 0 0))
theorem S6 : A9 PR 123 := A7 Tryz.func123 (by kernel_rfl) rfl
theorem T5 {X : Nat → Prop} {t0 : Value} {R : Value → WP} {w : World} (h : L7 X t0 R w) : Fn PR X 123 #[t0] w R := D3 (args := [t0]) mixed Tryz.func123 (by kernel_rfl) h
def M7 (X : Nat → Prop) (t0 t1 : Value) (R : Value → WP) : WP :=
 B5 PR X 201 [t0, t1] fun t7 =>
 A0 PR (binOp .geq 3 t7 (.int .i64 0)) fun t8 =>
 R t8
theorem V5 : A9 PR 148 := A7 Tryz.func148 (by kernel_rfl) rfl
theorem Y0 {X : Nat → Prop} {t0 t1 : Value} {R : Value → WP} {w : World} (h : M7 X t0 t1 R w) : Fn PR X 148 #[t0, t1] w R := D3 (args := [t0, t1]) mixed Tryz.func148 (by kernel_rfl) h
def N3 (X : Nat → Prop) (t0 t1 : Value) (R : Value → WP) : WP :=
 B5 PR X 212 [t0] fun t7 =>
 B5 PR X 213 [t7, t1] fun t10 =>
 R t7
theorem Y1 : A9 PR 160 := A7 Tryz.func160 (by kernel_rfl) rfl
theorem Y5 {X : Nat → Prop} {t0 t1 : Value} {R : Value → WP} {w : World} (h : N3 X t0 t1 R w) : Fn PR X 160 #[t0, t1] w R := D3 (args := [t0, t1]) mixed Tryz.func160 (by kernel_rfl) h
def U9 (X : Nat → Prop) (t0 t1 : Value) (R : Value → WP) : WP :=
 A0 PR (B2 t0) fun t6 =>
 A0 PR (Instr.fieldAt 137 t6 2) fun t7 =>
 B5 PR X 234 [t7, t1] fun t9 =>
 R t9
theorem v6 : A9 PR 178 := A7 Tryz.func178 (by kernel_rfl) rfl
theorem x8 {X : Nat → Prop} {t0 t1 : Value} {R : Value → WP} {w : World} (h : U9 X t0 t1 R w) : Fn PR X 178 #[t0, t1] w R := D3 (args := [t0, t1]) mixed Tryz.func178 (by kernel_rfl) h
def P1 (X : Nat → Prop) (t0 t1 : Value) (R : Value → WP) : WP :=
 jn (n := 2) (fun t4 t8 =>
 R (.int .i64 (-1))) fun J1 =>
 A0 PR (A8 .len #[259] 0 [t0]) fun t7 =>
 lp (n := 2) (fun L2 t4_1 t8_1 =>
 A0 PR (binOp .lss 3 t8_1 t7) fun t9 =>
 jn (n := 0) (
 jn (n := 1) (fun t4_2 =>
 A0 PR (binOp .add 3 t8_1 (.int .i64 1)) fun t18 =>
 L2 t4_2 t18) fun J3 =>
 A0 PR (Instr.indexAt 259 t0 t8_1) fun t14 =>
 A6 PR (Instr.loadAt 158 t14) fun t15 =>
 W3 PR X t1 [t15] fun t16 =>
 C8 t16 (
 R t8_1) (
 J3 t4_1)) fun J4 =>
 C8 t9 (
 J4) (
 J1 t4_1 t8_1)) (.int .i64 0) (.int .i64 0)
theorem b8 : A9 PR 201 := A7 Tryz.func201 (by kernel_rfl) rfl
theorem f7 {X : Nat → Prop} {t0 t1 : Value} {R : Value → WP} {w : World} (h : P1 X t0 t1 R w) : Fn PR X 201 #[t0, t1] w R := D3 (args := [t0, t1]) mixed Tryz.func201 (by kernel_rfl) h
def A1F (X : Nat → Prop) (t0 t1 : Value) (R : Value → WP) : WP :=
 jn (n := 2) (fun t5 t6 =>
 R t5) fun J1 =>
 lp (n := 2) (fun L2 t5_1 t6_1 =>
 jn (n := 0) (
 A0 PR (binOp .add 3 t5_1 t6_1) fun t14 =>
 A0 PR (convert 3 242 t14) fun t15 =>
 A0 PR (binOp .shr 242 t15 (.int .u64 1)) fun t16 =>
 A0 PR (convert 242 3 t16) fun t17 =>
 W3 PR X t1 [t17] fun t20 =>
 A0 PR (Op.unary .not t20) fun t21 =>
 C8 t21 (
 A0 PR (binOp .add 3 t17 (.int .i64 1)) fun t23 =>
 L2 t23 t6_1) (
 L2 t5_1 t17)) fun J3 =>
 A0 PR (binOp .lss 3 t5_1 t6_1) fun t11 =>
 C8 t11 (
 J3) (
 J1 t5_1 t6_1)) (.int .i64 0) t0
theorem A4l : A9 PR 210 := A7 Tryz.func210 (by kernel_rfl) rfl
theorem A5g {X : Nat → Prop} {t0 t1 : Value} {R : Value → WP} {w : World} (h : A1F X t0 t1 R w) : Fn PR X 210 #[t0, t1] w R := D3 (args := [t0, t1]) mixed Tryz.func210 (by kernel_rfl) h
def P4 (X : Nat → Prop) (t0 : Value) (R : Value → WP) : WP :=
 B5 PR X 248 [(.slice none 0 0), t0] fun t4 =>
 R t4
theorem f5 : A9 PR 212 := A7 Tryz.func212 (by kernel_rfl) rfl
theorem g8 {X : Nat → Prop} {t0 : Value} {R : Value → WP} {w : World} (h : P4 X t0 R w) : Fn PR X 212 #[t0] w R := D3 (args := [t0]) mixed Tryz.func212 (by kernel_rfl) h
theorem P7 : A9 PR 213 := A7 Tryz.func213 (by kernel_rfl) rfl
def A2W (X : Nat → Prop) (t0 : Value) (R : Value → WP) : WP :=
 jn (n := 2) (fun t2 t8 =>
 R (.int .i64 0)) fun J1 =>
 A0 PR (A8 .len #[37] 0 [t0]) fun t7 =>
 lp (n := 2) (fun L2 t2_1 t8_1 =>
 A0 PR (binOp .lss 3 t8_1 t7) fun t9 =>
 jn (n := 0) (
 jn (n := 1) (fun t2_2 =>
 A0 PR (binOp .add 3 t8_1 (.int .i64 1)) fun t16 =>
 L2 t2_2 t16) fun J3 =>
 A0 PR (Instr.indexAt 37 t0 t8_1) fun t10 =>
 A6 PR (Instr.loadAt 3 t10) fun t11 =>
 A0 PR (binOp .neq 3 t11 (.int .i64 0)) fun t14 =>
 C8 t14 (
 R t11) (
 J3 t2_1)) fun J4 =>
 C8 t9 (
 J4) (
 J1 t2_1 t8_1)) (.int .i64 0) (.int .i64 0)
theorem A5e : A9 PR 216 := A7 Tryz.func216 (by kernel_rfl) rfl
theorem A6Z {X : Nat → Prop} {t0 : Value} {R : Value → WP} {w : World} (h : A2W X t0 R w) : Fn PR X 216 #[t0] w R := D3 (args := [t0]) mixed Tryz.func216 (by kernel_rfl) h
theorem A71 {X : Nat → Prop} {t0 : Value} {K : Value → WP} {w : World} (h : Fn PR X 216 #[t0] w K) : B5 PR X 216 [t0] K w := Or.inl ⟨A5e, h⟩
def e6 (X : Nat → Prop) (t0 t1 : Value) (R : Value → WP) : WP :=
 B5 PR X 251 [t0] fun t8 =>
 B5 PR X 251 [t1] fun t10 =>
 jn (n := 1) (fun t4 =>
 jn (n := 1) (fun t4_1 =>
 jn (n := 1) (fun t4_2 =>
 jn (n := 1) (fun t4_3 =>
 R (.int .i64 0)) fun J1 =>
 A0 PR (binOp .gtr 89 t0 t1) fun t19 =>
 C8 t19 (
 R (.int .i64 1)) (
 J1 t4_2)) fun J2 =>
 A0 PR (binOp .lss 89 t0 t1) fun t16 =>
 C8 t16 (
 R (.int .i64 (-1))) (
 J2 t4_1)) fun J3 =>
 C8 t10 (
 R (.int .i64 1)) (
 J3 t4)) fun J4 =>
 C8 t8 (
 jn (n := 1) (fun t4_4 =>
 R (.int .i64 (-1))) fun J5 =>
 C8 t10 (
 R (.int .i64 0)) (
 J5 (.int .i64 0))) (
 J4 (.int .i64 0))
theorem A0y : A9 PR 217 := A7 Tryz.func217 (by kernel_rfl) rfl
theorem A1c {X : Nat → Prop} {t0 t1 : Value} {R : Value → WP} {w : World} (h : e6 X t0 t1 R w) : Fn PR X 217 #[t0, t1] w R := D3 (args := [t0, t1]) mixed Tryz.func217 (by kernel_rfl) h
theorem A1x {X : Nat → Prop} {t0 t1 : Value} {K : Value → WP} {w : World} (h : Fn PR X 217 #[t0, t1] w K) : B5 PR X 217 [t0, t1] K w := Or.inl ⟨A0y, h⟩
def r8 (X : Nat → Prop) (t0 t1 : Value) (R : Value → WP) : WP :=
 B5 PR X 252 [t0] fun t8 =>
 B5 PR X 252 [t1] fun t10 =>
 jn (n := 1) (fun t4 =>
 jn (n := 1) (fun t4_1 =>
 jn (n := 1) (fun t4_2 =>
 jn (n := 1) (fun t4_3 =>
 R (.int .i64 0)) fun J1 =>
 A0 PR (binOp .gtr 3 t0 t1) fun t19 =>
 C8 t19 (
 R (.int .i64 1)) (
 J1 t4_2)) fun J2 =>
 A0 PR (binOp .lss 3 t0 t1) fun t16 =>
 C8 t16 (
 R (.int .i64 (-1))) (
 J2 t4_1)) fun J3 =>
 C8 t10 (
 R (.int .i64 1)) (
 J3 t4)) fun J4 =>
 C8 t8 (
 jn (n := 1) (fun t4_4 =>
 R (.int .i64 (-1))) fun J5 =>
 C8 t10 (
 R (.int .i64 0)) (
 J5 (.int .i64 0))) (
 J4 (.int .i64 0))
theorem A2e : A9 PR 218 := A7 Tryz.func218 (by kernel_rfl) rfl
theorem A20 {X : Nat → Prop} {t0 t1 : Value} {R : Value → WP} {w : World} (h : r8 X t0 t1 R w) : Fn PR X 218 #[t0, t1] w R := D3 (args := [t0, t1]) mixed Tryz.func218 (by kernel_rfl) h
theorem A3x {X : Nat → Prop} {t0 t1 : Value} {K : Value → WP} {w : World} (h : Fn PR X 218 #[t0, t1] w K) : B5 PR X 218 [t0, t1] K w := Or.inl ⟨A2e, h⟩
def H3 (X : Nat → Prop) (t0 t1 : Value) (R : Value → WP) : WP :=
 B6 PR X (Instr.box 281 t0) fun t2 =>
 jn (n := 0) (
 A6 PR (Instr.loadAt 281 t2) fun t12 =>
 unw (R t12)) fun J1 =>
 rng (N := 1) PR X (fun t7 K2 =>
 B6 PR (fun _ => False) (Instr.alloc 284 true (.tuple #[])) fun t5 =>
 E2 PR (fun _ => False) (Instr.storeAt 284 t5 t7) <|
 bgn <|
 A6 PR (Instr.loadAt 281 t2) fun t8 =>
 A6 PR (Instr.loadAt 284 t5) fun t9 =>
 B6 PR (fun _ => False) (Instr.buildSlice 281 1 #[(0, t9)]) fun t10 =>
 B6 PR (fun _ => False) (A8 .append #[281, 281] 281 [t8, t10]) fun t11 =>
 E2 PR (fun _ => False) (Instr.storeAt 281 t2 t11) <|
 K2 none) t1 (fun j => match j with | none => (J1) | some (.exit i) => (match Nat.beq i 0 with | true => (J1) | false => (F3)) | some .ret => (unw (R (.slice none 0 0))) | some _ => F3)
theorem P2 : A9 PR 248 := A7 Tryz.func248 (by kernel_rfl) rfl
theorem P5 {X : Nat → Prop} {t0 t1 : Value} {R : Value → WP} {w : World} (h : H3 X t0 t1 R w) : Fn PR X 248 #[t0, t1] w R := D3 (args := [t0, t1]) mixed Tryz.func248 (by kernel_rfl) h
def l9 (X : Nat → Prop) (t0 : Value) (R : Value → WP) : WP :=
 A0 PR (binOp .neq 89 t0 t0) fun t5 =>
 R t5
theorem A2F : A9 PR 251 := A7 Tryz.func251 (by kernel_rfl) rfl
theorem A2c {X : Nat → Prop} {t0 : Value} {R : Value → WP} {w : World} (h : l9 X t0 R w) : Fn PR X 251 #[t0] w R := D3 (args := [t0]) mixed Tryz.func251 (by kernel_rfl) h
theorem q8 {X : Nat → Prop} {t0 : Value} {K : Value → WP} {w : World} (h : Fn PR X 251 #[t0] w K) : B5 PR X 251 [t0] K w := Or.inl ⟨A2F, h⟩
def y1 (X : Nat → Prop) (t0 : Value) (R : Value → WP) : WP :=
 A0 PR (binOp .neq 3 t0 t0) fun t5 =>
 R t5
theorem A30 : A9 PR 252 := A7 Tryz.func252 (by kernel_rfl) rfl
theorem A4F {X : Nat → Prop} {t0 : Value} {R : Value → WP} {w : World} (h : y1 X t0 R w) : Fn PR X 252 #[t0] w R := D3 (args := [t0]) mixed Tryz.func252 (by kernel_rfl) h
theorem A0V {X : Nat → Prop} {t0 : Value} {K : Value → WP} {w : World} (h : Fn PR X 252 #[t0] w K) : B5 PR X 252 [t0] K w := Or.inl ⟨A30, h⟩
end Go.Proofs.YtjobgnabneddjaaGreat
namespace Go.Proofs.YtjobgnabneddjaaGreat
open Go
def A3W (X : Nat → Prop) (t0 t1 : Value) (R : Value → WP) : WP :=
 B6 PR X (Instr.box 89 t0) fun t2 =>
 jn (n := 1) (fun t4 =>
 B6 PR X (Instr.makeSlice 301 t1 t1) fun t15 =>
 B6 PR X (Instr.alloc 301 true (.tuple #[])) fun t5 =>
 E2 PR X (Instr.storeAt 301 t5 t15) <|
 jn (n := 0) (
 A6 PR (Instr.loadAt 301 t5) fun t27 =>
 A6 PR (convert 301 9 t27) fun t28 =>
 unw (R t28)) fun J1 =>
 B5 PR X 199 [t1] fun t17 =>
 rng (N := 2) PR X (fun t18 t19 K2 =>
 bgn <|
 A6 PR (Instr.loadAt 301 t5) fun t20 =>
 A6 PR (Instr.loadAt 89 t2) fun t22 =>
 A0 PR (binOp .shr 89 t22 t19) fun t24 =>
 A0 PR (convert 89 5 t24) fun t25 =>
 A0 PR (Instr.indexAt 301 t20 t18) fun t26 =>
 E2 PR (fun _ => False) (Instr.storeAt 5 t26 t25) <|
 K2 none) t17 (fun j => match j with | none => (J1) | some (.exit i) => (match Nat.beq i 0 with | true => (J1) | false => (F3)) | some .ret => (unw (R t4)) | some _ => F3)) fun J3 =>
 A0 PR (binOp .lss 3 t1 (.int .i64 1)) fun t9 =>
 gj t9 false (fun J => J t1) fun t11 =>
 gj t9 false (fun J => A0 PR (binOp .gtr 3 t11 (.int .i64 8)) J) fun t12 =>
 A0 PR (do pure (if ← asBool t9 then (.bool true) else t12)) fun t13 =>
 C8 t13 (
 unw (R (.string (ByteArray.mk #[])))) (
 J3 (.string (ByteArray.mk #[])))
theorem s7 : A9 PR 176 := A7 Tryz.func176 (by kernel_rfl) rfl
theorem A7a {X : Nat → Prop} {t0 t1 : Value} {R : Value → WP} {w : World} (h : A3W X t0 t1 R w) : Fn PR X 176 #[t0, t1] w R := D3 (args := [t0, t1]) mixed Tryz.func176 (by kernel_rfl) h
def A1b (X : Nat → Prop) (t0 : Value) (R : Value → WP) : WP :=
 B6 PR X (Instr.box 3 t0) fun t1 =>
 A0 PR (Instr.makeFunc (.func 243) #[] #[t1]) fun t3 =>
 R t3
theorem A5G : A9 PR 199 := A7 Tryz.func199 (by kernel_rfl) rfl
theorem A51 {X : Nat → Prop} {t0 : Value} {R : Value → WP} {w : World} (h : A1b X t0 R w) : Fn PR X 199 #[t0] w R := D3 (args := [t0]) mixed Tryz.func199 (by kernel_rfl) h
def u4 (X : Nat → Prop) (t0 t1 : Value) (R : Value → WP) : WP :=
 A6 PR (Instr.loadAt 3 t1) fun t4 =>
 lp (n := 1) (fun L1 t5 =>
 A0 PR (binOp .lss 3 t5 t4) fun t6 =>
 jn (n := 0) (
 jn (n := 0) (
 A0 PR (binOp .add 3 t5 (.int .i64 1)) fun t18 =>
 L1 t18) fun J2 =>
 A6 PR (Instr.loadAt 3 t1) fun t10 =>
 A0 PR (binOp .sub 3 t10 (.int .i64 1)) fun t11 =>
 A0 PR (binOp .sub 3 t11 t5) fun t13 =>
 A0 PR (binOp .mul 3 (.int .i64 8) t13) fun t14 =>
 A0 PR (convert 3 242 t14) fun t15 =>
 W3 PR X t0 [t5, t15] fun t16 =>
 A0 PR (Op.unary .not t16) fun t17 =>
 C8 t17 (
 R (.tuple #[])) (
 J2)) fun J3 =>
 C8 t6 (
 J3) (
 R (.tuple #[]))) (.int .i64 0)
theorem A28 : A9 PR 243 := A7 Tryz.func243 (by kernel_rfl) rfl
theorem A3v {X : Nat → Prop} {t0 t1 : Value} {R : Value → WP} {w : World} (h : u4 X t0 t1 R w) : Fn PR X 243 #[t0, t1] w R := D3 (args := [t0, t1]) mixed Tryz.func243 (by kernel_rfl) h
theorem A3u {X : Nat → Prop} {t0 t1 : Value} {K : Value → WP} {w : World} (h : Fn PR X 243 #[t0, t1] w K) : y9 PR X 243 [t0, t1] K w := ⟨A28, h⟩
end Go.Proofs.YtjobgnabneddjaaGreat
namespace Go.Proofs.YtjobgnabneddjaaGreat
open Go
theorem A1s : TI PR 155 Tryz.t154.desc 2 16 (.agg #[(.int .i64 0), (.int .i64 0)]) := ⟨Tryz.underlying155, Tryz.t155, by kernel_rfl, rfl, rfl, rfl⟩
theorem A3s : TI PR 160 Tryz.t159.desc 6 48 (.agg #[(.int .i64 0), (.int .i64 0), (.int .i64 0), (.int .i64 0), (.bool false), (.int .i64 0)]) := ⟨Tryz.underlying160, Tryz.t160, by kernel_rfl, rfl, rfl, rfl⟩
theorem A0a : TI PR 195 Tryz.t194.desc 2 48 (.agg #[(.slice none 0 0), (.slice none 0 0)]) := ⟨Tryz.underlying195, Tryz.t195, by kernel_rfl, rfl, rfl, rfl⟩
theorem B5y : TI PR 218 Tryz.t217.desc 4 40 (.agg #[(.int .i64 0), (.string (ByteArray.mk #[])), (.int .i64 0), (.int .i64 0)]) := ⟨Tryz.underlying218, Tryz.t218, by kernel_rfl, rfl, rfl, rfl⟩
theorem A3m : TI PR 263 Tryz.t133.desc 0 0 (.agg #[]) := ⟨Tryz.underlying263, Tryz.t263, by kernel_rfl, rfl, rfl, rfl⟩
theorem A9c : TI PR 27 Tryz.t3.desc 1 8 (.int .i64 0) := ⟨Tryz.underlying27, Tryz.t27, by kernel_rfl, rfl, rfl, rfl⟩
theorem A2L : TI PR 284 Tryz.t283.desc 2 16 (.agg #[(.int .u64 0), (.int .i64 0)]) := ⟨Tryz.underlying284, Tryz.t284, by kernel_rfl, rfl, rfl, rfl⟩
theorem L0 : TI PR 3 Tryz.t3.desc 1 8 (.int .i64 0) := ⟨Tryz.underlying3, Tryz.t3, by kernel_rfl, rfl, rfl, rfl⟩
theorem A6w : TI PR 301 Tryz.t301.desc 1 24 (.slice none 0 0) := ⟨Tryz.underlying301, Tryz.t301, by kernel_rfl, rfl, rfl, rfl⟩
theorem B5d : TI PR 368 Tryz.t368.desc 1 8 .nilFunc := ⟨Tryz.underlying368, Tryz.t368, by kernel_rfl, rfl, rfl, rfl⟩
theorem B28 : TI PR 370 Tryz.t89.desc 1 8 (.int .u64 0) := ⟨Tryz.underlying370, Tryz.t370, by kernel_rfl, rfl, rfl, rfl⟩
theorem A3Z : TI PR 42 Tryz.t41.desc 3 3 (.agg #[(.bool false), (.bool false), (.bool false)]) := ⟨Tryz.underlying42, Tryz.t42, by kernel_rfl, rfl, rfl, rfl⟩
theorem A5L : TI PR 55 Tryz.t54.desc 4 32 (.agg #[(.int .i64 0), (.int .i64 0), (.bool false), (.int .i64 0)]) := ⟨Tryz.underlying55, Tryz.t55, by kernel_rfl, rfl, rfl, rfl⟩
theorem B4y : TI PR 84 Tryz.t84.desc 1 24 (.slice none 0 0) := ⟨Tryz.underlying84, Tryz.t84, by kernel_rfl, rfl, rfl, rfl⟩
theorem A5c : TI PR 89 Tryz.t89.desc 1 8 (.int .u64 0) := ⟨Tryz.underlying89, Tryz.t89, by kernel_rfl, rfl, rfl, rfl⟩
theorem A9l : TI PR 193 Tryz.t193.desc 1 24 (.slice none 0 0) := ⟨Tryz.underlying193, Tryz.t193, by kernel_rfl, rfl, rfl, rfl⟩
theorem A6n : TI PR 290 Tryz.t283.desc 2 16 (.agg #[(.int .u64 0), (.int .i64 0)]) := ⟨Tryz.underlying290, Tryz.t290, by kernel_rfl, rfl, rfl, rfl⟩
theorem A6r : TI PR 281 Tryz.t281.desc 1 24 (.slice none 0 0) := ⟨Tryz.underlying281, Tryz.t281, by kernel_rfl, rfl, rfl, rfl⟩
theorem B2U : TI PR 36 Tryz.t36.desc 1 24 (.slice none 0 0) := ⟨Tryz.underlying36, Tryz.t36, by kernel_rfl, rfl, rfl, rfl⟩
theorem A2B : TI PR 37 Tryz.t37.desc 1 24 (.slice none 0 0) := ⟨Tryz.underlying37, Tryz.t37, by kernel_rfl, rfl, rfl, rfl⟩
theorem ty9 : TI PR 9 Tryz.t9.desc 1 16 (.string (ByteArray.mk #[])) := ⟨Tryz.underlying9, Tryz.t9, by kernel_rfl, rfl, rfl, rfl⟩
theorem A3Y : TI PR 58 Tryz.t58.desc 1 24 (.slice none 0 0) := ⟨Tryz.underlying58, Tryz.t58, by kernel_rfl, rfl, rfl, rfl⟩
theorem A6s : TI PR 141 Tryz.t140.desc 3 56 (.agg #[(.int .i64 0), (.slice none 0 0), (.slice none 0 0)]) := ⟨Tryz.underlying141, Tryz.t141, by kernel_rfl, rfl, rfl, rfl⟩
@[simp] theorem B4x {v0 v1 : Value} (h0 : v0.cells.size = 1) (h1 : v1.cells.size = 1) (K : Value → WP) : A0 PR (Instr.build 141 #[(1, v0), (2, v1)]) K = K (.agg (E8 (E8 #[(.int .i64 0), (.slice none 0 0), (.slice none 0 0)] 1 v0.cells.toList) 2 v1.cells.toList)) := F6 (pl := #[(0, 1), (1, 1), (2, 1)]) A6s (fun w => by kernel_rfl) (by rw [B9 rfl h0 (by simp [C6]), B9 rfl h1 (by simp [C6])]; rfl)
@[simp] theorem B4q {v0 v1 : Value} (h0 : v0.cells.size = 1) (h1 : v1.cells.size = 1) (K : Value → WP) : A0 PR (Instr.build 155 #[(0, v0), (1, v1)]) K = K (.agg (E8 (E8 #[(.int .i64 0), (.int .i64 0)] 0 v0.cells.toList) 1 v1.cells.toList)) := F6 (pl := #[(0, 1), (1, 1)]) A1s (fun w => by kernel_rfl) (by rw [B9 rfl h0 (by simp [C6]), B9 rfl h1 (by simp [C6])]; rfl)
theorem A5C : TI PR 158 Tryz.t158.desc 2 16 (.agg #[(.int .i64 0), (.int .i64 0)]) := ⟨Tryz.underlying158, Tryz.t158, by kernel_rfl, rfl, rfl, rfl⟩
@[simp] theorem B6L {v0 : Value} (h0 : v0.cells.size = 1) (K : Value → WP) : A0 PR (Instr.build 160 #[(0, v0)]) K = K (.agg (E8 #[(.int .i64 0), (.int .i64 0), (.int .i64 0), (.int .i64 0), (.bool false), (.int .i64 0)] 0 v0.cells.toList)) := F6 (pl := #[(0, 1), (1, 1), (2, 4)]) A3s (fun w => by kernel_rfl) (by rw [B9 rfl h0 (by simp [C6])]; rfl)
theorem A3p : TI PR 163 Tryz.t162.desc 10 112 (.agg #[(.int .i64 0), (.int .i64 0), (.int .i64 0), (.int .i64 0), (.bool false), (.int .i64 0), (.slice none 0 0), (.slice none 0 0), (.int .i64 0), (.int .i64 0)]) := ⟨Tryz.underlying163, Tryz.t163, by kernel_rfl, rfl, rfl, rfl⟩
@[simp] theorem B4d {v0 v1 : Value} (h0 : v0.cells.size = 6) (h1 : v1.cells.size = 1) (K : Value → WP) : A0 PR (Instr.build 163 #[(0, v0), (1, v1)]) K = K (.agg (E8 (E8 #[(.int .i64 0), (.int .i64 0), (.int .i64 0), (.int .i64 0), (.bool false), (.int .i64 0), (.slice none 0 0), (.slice none 0 0), (.int .i64 0), (.int .i64 0)] 0 v0.cells.toList) 6 v1.cells.toList)) := F6 (pl := #[(0, 6), (6, 1), (7, 1), (8, 1), (9, 1)]) A3p (fun w => by kernel_rfl) (by rw [B9 rfl h0 (by simp [C6]), B9 rfl h1 (by simp [C6])]; rfl)
theorem B3L : TI PR 167 Tryz.t166.desc 1 16 (.agg #[.nilIface]) := ⟨Tryz.underlying167, Tryz.t167, by kernel_rfl, rfl, rfl, rfl⟩
@[simp] theorem B6Z {v0 : Value} (h0 : v0.cells.size = 1) (K : Value → WP) : A0 PR (Instr.build 167 #[(0, v0)]) K = K (.agg (E8 #[.nilIface] 0 v0.cells.toList)) := F6 (pl := #[(0, 1)]) B3L (fun w => by kernel_rfl) (by rw [B9 rfl h0 (by simp [C6])]; rfl)
@[simp] theorem B4l {v0 v1 : Value} (h0 : v0.cells.size = 1) (h1 : v1.cells.size = 1) (K : Value → WP) : A0 PR (Instr.build 195 #[(0, v0), (1, v1)]) K = K (.agg (E8 (E8 #[(.slice none 0 0), (.slice none 0 0)] 0 v0.cells.toList) 1 v1.cells.toList)) := F6 (pl := #[(0, 1), (1, 1)]) A0a (fun w => by kernel_rfl) (by rw [B9 rfl h0 (by simp [C6]), B9 rfl h1 (by simp [C6])]; rfl)
theorem w6 : TI PR 200 Tryz.t199.desc 2 16 (.agg #[(.int .i64 0), (.int .i64 0)]) := ⟨Tryz.underlying200, Tryz.t200, by kernel_rfl, rfl, rfl, rfl⟩
@[simp] theorem B7D  (K : Value → WP) : A0 PR (Instr.build 200 #[]) K = K (.agg #[(.int .i64 0), (.int .i64 0)]) := F6 (pl := #[(0, 1), (1, 1)]) w6 (fun w => by kernel_rfl) rfl
@[simp] theorem B4z {v0 v1 : Value} (h0 : v0.cells.size = 1) (h1 : v1.cells.size = 1) (K : Value → WP) : A0 PR (Instr.build 200 #[(0, v0), (1, v1)]) K = K (.agg (E8 (E8 #[(.int .i64 0), (.int .i64 0)] 0 v0.cells.toList) 1 v1.cells.toList)) := F6 (pl := #[(0, 1), (1, 1)]) w6 (fun w => by kernel_rfl) (by rw [B9 rfl h0 (by simp [C6]), B9 rfl h1 (by simp [C6])]; rfl)
@[simp] theorem B6z {v0 : Value} (h0 : v0.cells.size = 1) (K : Value → WP) : A0 PR (Instr.build 200 #[(0, v0)]) K = K (.agg (E8 #[(.int .i64 0), (.int .i64 0)] 0 v0.cells.toList)) := F6 (pl := #[(0, 1), (1, 1)]) w6 (fun w => by kernel_rfl) (by rw [B9 rfl h0 (by simp [C6])]; rfl)
theorem A86 : TI PR 203 Tryz.t202.desc 17 136 (.agg #[(.int .i64 0), (.int .i64 0), (.int .i64 0), (.int .i64 0), (.int .i64 0), (.int .i64 0), (.int .i64 0), (.int .i64 0), (.int .i64 0), (.int .i64 0), (.int .i64 0), (.int .i64 0), (.int .i64 0), (.int .i64 0), (.int .i64 0), (.int .i64 0), (.int .i64 0)]) := ⟨Tryz.underlying203, Tryz.t203, by kernel_rfl, rfl, rfl, rfl⟩
@[simp] theorem B6l {v0 : Value} (h0 : v0.cells.size = 1) (K : Value → WP) : A0 PR (Instr.build 203 #[(1, v0)]) K = K (.agg (E8 #[(.int .i64 0), (.int .i64 0), (.int .i64 0), (.int .i64 0), (.int .i64 0), (.int .i64 0), (.int .i64 0), (.int .i64 0), (.int .i64 0), (.int .i64 0), (.int .i64 0), (.int .i64 0), (.int .i64 0), (.int .i64 0), (.int .i64 0), (.int .i64 0), (.int .i64 0)] 16 v0.cells.toList)) := F6 (pl := #[(0, 16), (16, 1)]) A86 (fun w => by kernel_rfl) (by rw [B9 rfl h0 (by simp [C6])]; rfl)
theorem A0z : TI PR 23 Tryz.t22.desc 5 40 (.agg #[(.int .i64 0), (.int .i64 0), (.int .i64 0), (.int .i64 0), (.int .i64 0)]) := ⟨Tryz.underlying23, Tryz.t23, by kernel_rfl, rfl, rfl, rfl⟩
@[simp] theorem B1L {v0 v1 v2 v3 v4 : Value} (h0 : v0.cells.size = 1) (h1 : v1.cells.size = 1) (h2 : v2.cells.size = 1) (h3 : v3.cells.size = 1) (h4 : v4.cells.size = 1) (K : Value → WP) : A0 PR (Instr.build 23 #[(0, v0), (1, v1), (2, v2), (3, v3), (4, v4)]) K = K (.agg (E8 (E8 (E8 (E8 (E8 #[(.int .i64 0), (.int .i64 0), (.int .i64 0), (.int .i64 0), (.int .i64 0)] 0 v0.cells.toList) 1 v1.cells.toList) 2 v2.cells.toList) 3 v3.cells.toList) 4 v4.cells.toList)) := F6 (pl := #[(0, 1), (1, 1), (2, 1), (3, 1), (4, 1)]) A0z (fun w => by kernel_rfl) (by rw [B9 rfl h0 (by simp [C6]), B9 rfl h1 (by simp [C6]), B9 rfl h2 (by simp [C6]), B9 rfl h3 (by simp [C6]), B9 rfl h4 (by simp [C6])]; rfl)
theorem B29 : TI PR 231 Tryz.t230.desc 1 24 (.agg #[(.slice none 0 0)]) := ⟨Tryz.underlying231, Tryz.t231, by kernel_rfl, rfl, rfl, rfl⟩
@[simp] theorem B5v {v0 : Value} (h0 : v0.cells.size = 1) (K : Value → WP) : A0 PR (Instr.build 231 #[(0, v0)]) K = K (.agg (E8 #[(.slice none 0 0)] 0 v0.cells.toList)) := F6 (pl := #[(0, 1)]) B29 (fun w => by kernel_rfl) (by rw [B9 rfl h0 (by simp [C6])]; rfl)
@[simp] theorem B8J  (K : Value → WP) : A0 PR (Instr.build 263 #[]) K = K (.agg #[]) := F6 (pl := #[]) A3m (fun w => by kernel_rfl) rfl
@[simp] theorem B4m {v0 v1 : Value} (h0 : v0.cells.size = 1) (h1 : v1.cells.size = 1) (K : Value → WP) : A0 PR (Instr.build 284 #[(0, v0), (1, v1)]) K = K (.agg (E8 (E8 #[(.int .u64 0), (.int .i64 0)] 0 v0.cells.toList) 1 v1.cells.toList)) := F6 (pl := #[(0, 1), (1, 1)]) A2L (fun w => by kernel_rfl) (by rw [B9 rfl h0 (by simp [C6]), B9 rfl h1 (by simp [C6])]; rfl)
theorem A4C : TI PR 39 Tryz.t38.desc 11 120 (.agg #[(.int .i64 0), (.int .i64 0), (.int .i64 0), (.int .i64 0), (.int .i64 0), (.pointer none), (.pointer none), (.pointer none), (.slice none 0 0), (.slice none 0 0), (.int .i64 0)]) := ⟨Tryz.underlying39, Tryz.t39, by kernel_rfl, rfl, rfl, rfl⟩
@[simp] theorem B65 {v0 : Value} (h0 : v0.cells.size = 5) (K : Value → WP) : A0 PR (Instr.build 39 #[(0, v0)]) K = K (.agg (E8 #[(.int .i64 0), (.int .i64 0), (.int .i64 0), (.int .i64 0), (.int .i64 0), (.pointer none), (.pointer none), (.pointer none), (.slice none 0 0), (.slice none 0 0), (.int .i64 0)] 0 v0.cells.toList)) := F6 (pl := #[(0, 5), (5, 1), (6, 1), (7, 1), (8, 1), (9, 1), (10, 1)]) A4C (fun w => by kernel_rfl) (by rw [B9 rfl h0 (by simp [C6])]; rfl)
@[simp] theorem B8Z  (K : Value → WP) : A0 PR (Instr.build 42 #[]) K = K (.agg #[(.bool false), (.bool false), (.bool false)]) := F6 (pl := #[(0, 1), (1, 1), (2, 1)]) A3Z (fun w => by kernel_rfl) rfl
@[simp] theorem B5U {v0 v1 : Value} (h0 : v0.cells.size = 1) (h1 : v1.cells.size = 1) (K : Value → WP) : A0 PR (Instr.build 42 #[(0, v0), (1, v1)]) K = K (.agg (E8 (E8 #[(.bool false), (.bool false), (.bool false)] 0 v0.cells.toList) 1 v1.cells.toList)) := F6 (pl := #[(0, 1), (1, 1), (2, 1)]) A3Z (fun w => by kernel_rfl) (by rw [B9 rfl h0 (by simp [C6]), B9 rfl h1 (by simp [C6])]; rfl)
@[simp] theorem B7F {v0 : Value} (h0 : v0.cells.size = 1) (K : Value → WP) : A0 PR (Instr.build 42 #[(0, v0)]) K = K (.agg (E8 #[(.bool false), (.bool false), (.bool false)] 0 v0.cells.toList)) := F6 (pl := #[(0, 1), (1, 1), (2, 1)]) A3Z (fun w => by kernel_rfl) (by rw [B9 rfl h0 (by simp [C6])]; rfl)
@[simp] theorem B7s {v0 : Value} (h0 : v0.cells.size = 1) (K : Value → WP) : A0 PR (Instr.build 42 #[(1, v0)]) K = K (.agg (E8 #[(.bool false), (.bool false), (.bool false)] 1 v0.cells.toList)) := F6 (pl := #[(0, 1), (1, 1), (2, 1)]) A3Z (fun w => by kernel_rfl) (by rw [B9 rfl h0 (by simp [C6])]; rfl)
@[simp] theorem B8m  (K : Value → WP) : A0 PR (Instr.build 55 #[]) K = K (.agg #[(.int .i64 0), (.int .i64 0), (.bool false), (.int .i64 0)]) := F6 (pl := #[(0, 1), (1, 1), (2, 1), (3, 1)]) A5L (fun w => by kernel_rfl) rfl
@[simp] theorem B7q {v0 : Value} (h0 : v0.cells.size = 1) (K : Value → WP) : A0 PR (Instr.build 55 #[(0, v0)]) K = K (.agg (E8 #[(.int .i64 0), (.int .i64 0), (.bool false), (.int .i64 0)] 0 v0.cells.toList)) := F6 (pl := #[(0, 1), (1, 1), (2, 1), (3, 1)]) A5L (fun w => by kernel_rfl) (by rw [B9 rfl h0 (by simp [C6])]; rfl)
theorem A9K : TI PR 64 Tryz.t63.desc 4 56 (.agg #[(.int .i64 0), (.string (ByteArray.mk #[])), (.slice none 0 0), (.int .i64 0)]) := ⟨Tryz.underlying64, Tryz.t64, by kernel_rfl, rfl, rfl, rfl⟩
@[simp] theorem B5S {v0 v1 : Value} (h0 : v0.cells.size = 1) (h1 : v1.cells.size = 1) (K : Value → WP) : A0 PR (Instr.build 64 #[(0, v0), (2, v1)]) K = K (.agg (E8 (E8 #[(.int .i64 0), (.string (ByteArray.mk #[])), (.slice none 0 0), (.int .i64 0)] 0 v0.cells.toList) 2 v1.cells.toList)) := F6 (pl := #[(0, 1), (1, 1), (2, 1), (3, 1)]) A9K (fun w => by kernel_rfl) (by rw [B9 rfl h0 (by simp [C6]), B9 rfl h1 (by simp [C6])]; rfl)
@[simp] theorem B8B {v0 : Value} (h0 : v0.cells.size = 1) (K : Value → WP) : A0 PR (Instr.build 64 #[(0, v0)]) K = K (.agg (E8 #[(.int .i64 0), (.string (ByteArray.mk #[])), (.slice none 0 0), (.int .i64 0)] 0 v0.cells.toList)) := F6 (pl := #[(0, 1), (1, 1), (2, 1), (3, 1)]) A9K (fun w => by kernel_rfl) (by rw [B9 rfl h0 (by simp [C6])]; rfl)
theorem A9S : TI PR 228 Tryz.t228.desc 1 24 (.slice none 0 0) := ⟨Tryz.underlying228, Tryz.t228, by kernel_rfl, rfl, rfl, rfl⟩
theorem A9q : TI PR 124 Tryz.t124.desc 1 8 .nilFunc := ⟨Tryz.underlying124, Tryz.t124, by kernel_rfl, rfl, rfl, rfl⟩
theorem A9m : TI PR 259 Tryz.t259.desc 1 24 (.slice none 0 0) := ⟨Tryz.underlying259, Tryz.t259, by kernel_rfl, rfl, rfl, rfl⟩
theorem ty5 : TI PR 5 Tryz.t5.desc 1 1 (.int .u8 0) := ⟨Tryz.underlying5, Tryz.t5, by kernel_rfl, rfl, rfl, rfl⟩
theorem B3H : TI PR 242 Tryz.t242.desc 1 8 (.int .u64 0) := ⟨Tryz.underlying242, Tryz.t242, by kernel_rfl, rfl, rfl, rfl⟩
@[simp] theorem B5Z {k : IntKind} (a : Int) (K : Value → WP) : A0 PR (convert 242 3 (.int k a)) K = K (.int .i64 (IntKind.i64.wrap a)) := A3c L0 B3H
@[simp] theorem B5g {k : IntKind} (a : Int) (K : Value → WP) : A0 PR (convert 3 242 (.int k a)) K = K (.int .u64 (IntKind.u64.wrap a)) := A3c B3H L0
@[simp] theorem B7p {k : IntKind} (a : Int) (K : Value → WP) : A0 PR (convert 3 89 (.int k a)) K = K (.int .u64 (IntKind.u64.wrap a)) := A3c A5c L0
theorem A8M {K : Value → WP} {w : World} {b o cap : Nat} {ns : List Int} (hr : K7 w b o (ns.map (Value.int .u8))) : A6 PR (convert 301 9 (.slice (some ⟨b, o, none⟩) ns.length cap)) K w = K (.string (x5 ns)) w := B6f A6w ty5 ty9 hr
@[simp] theorem B6S {k : IntKind} (a : Int) (K : Value → WP) : A0 PR (convert 5 370 (.int k a)) K = K (.int .u64 (IntKind.u64.wrap a)) := A3c B28 ty5
@[simp] theorem B71 {k : IntKind} (a : Int) (K : Value → WP) : A0 PR (convert 89 5 (.int k a)) K = K (.int .u8 (IntKind.u8.wrap a)) := A3c ty5 A5c
theorem B20 : TI PR 131 Tryz.t131.desc 1 8 (.pointer none) := ⟨Tryz.underlying131, Tryz.t131, by kernel_rfl, rfl, rfl, rfl⟩
@[simp] theorem A9w (a : Option Addr) (x y : Operand) (K : Value → WP) (w : World) : A6 PR (G0 .eql 131 x y (.pointer a) (.pointer none)) K w = K (.bool a.isNone) w := A5v B20
@[simp] theorem B0L (a0 b0 : Int) (a1 b1 : Int) (x y : Operand) (K : Value → WP) (w : World) : A6 PR (G0 .eql 200 x y (.agg #[.int .i64 a0, .int .i64 a1]) (.agg #[.int .i64 b0, .int .i64 b1])) K w = K (.bool (decide (a0 = b0) && (decide (a1 = b1) && true))) w := A9u (by kernel_rfl) (A2G (e := 9999) w6 (by kernel_rfl) (T4 rfl L0 rfl rfl rfl (A1E (e := 9998) L0) (T4 rfl L0 rfl rfl rfl (A1E (e := 9998) L0) (A50))))
theorem B4g : TI PR 26 Tryz.t26.desc 1 8 (.pointer none) := ⟨Tryz.underlying26, Tryz.t26, by kernel_rfl, rfl, rfl, rfl⟩
@[simp] theorem B0U (a : Option Addr) (x y : Operand) (K : Value → WP) (w : World) : A6 PR (G0 .eql 26 x y (.pointer a) (.pointer none)) K w = K (.bool a.isNone) w := A5v B4g
theorem ty4 : TI PR 4 Tryz.t4.desc 1 1 (.bool false) := ⟨Tryz.underlying4, Tryz.t4, by kernel_rfl, rfl, rfl, rfl⟩
@[simp] theorem B2n (a0 b0 : Bool) (a1 b1 : Bool) (a2 b2 : Bool) (x y : Operand) (K : Value → WP) (w : World) : A6 PR (G0 .eql 42 x y (.agg #[.bool a0, .bool a1, .bool a2]) (.agg #[.bool b0, .bool b1, .bool b2])) K w = K (.bool ((a0 == b0) && ((a1 == b1) && ((a2 == b2) && true)))) w := A9u (by kernel_rfl) (A2G (e := 9999) A3Z (by kernel_rfl) (T4 rfl ty4 rfl rfl rfl (z7 (e := 9998) ty4) (T4 rfl ty4 rfl rfl rfl (z7 (e := 9998) ty4) (T4 rfl ty4 rfl rfl rfl (z7 (e := 9998) ty4) (A50)))))
@[simp] theorem B2f (a0 b0 : Int) (a1 b1 : Int) (a2 b2 : Bool) (a3 b3 : Int) (x y : Operand) (K : Value → WP) (w : World) : A6 PR (G0 .eql 55 x y (.agg #[.int .i64 a0, .int .i64 a1, .bool a2, .int .i64 a3]) (.agg #[.int .i64 b0, .int .i64 b1, .bool b2, .int .i64 b3])) K w = K (.bool (decide (a0 = b0) && (decide (a1 = b1) && ((a2 == b2) && (decide (a3 = b3) && true))))) w := A9u (by kernel_rfl) (A2G (e := 9999) A5L (by kernel_rfl) (T4 rfl A9c rfl rfl rfl (A1E (e := 9998) A9c) (T4 rfl L0 rfl rfl rfl (A1E (e := 9998) L0) (T4 rfl ty4 rfl rfl rfl (z7 (e := 9998) ty4) (T4 rfl L0 rfl rfl rfl (A1E (e := 9998) L0) (A50))))))
theorem B8S : TI PR 61 Tryz.t61.desc 1 8 (.pointer none) := ⟨Tryz.underlying61, Tryz.t61, by kernel_rfl, rfl, rfl, rfl⟩
@[simp] theorem A98 (a : Option Addr) (x y : Operand) (K : Value → WP) (w : World) : A6 PR (G0 .eql 61 x y (.pointer a) (.pointer none)) K w = K (.bool a.isNone) w := A5v B8S
@[simp] theorem A9A (a : Option Addr) (x y : Operand) (K : Value → WP) (w : World) : A6 PR (G0 .neq 131 x y (.pointer a) (.pointer none)) K w = K (.bool (!a.isNone)) w := A1C B20
@[simp] theorem B1K (a : Option Addr) (x y : Operand) (K : Value → WP) (w : World) : A6 PR (G0 .neq 26 x y (.pointer a) (.pointer none)) K w = K (.bool (!a.isNone)) w := A1C B4g
theorem B1v : TI PR 33 Tryz.t33.desc 1 8 (.pointer none) := ⟨Tryz.underlying33, Tryz.t33, by kernel_rfl, rfl, rfl, rfl⟩
@[simp] theorem B0Z (a : Option Addr) (x y : Operand) (K : Value → WP) (w : World) : A6 PR (G0 .neq 33 x y (.pointer a) (.pointer none)) K w = K (.bool (!a.isNone)) w := A1C B1v
theorem B1c : TI PR 34 Tryz.t34.desc 1 8 (.pointer none) := ⟨Tryz.underlying34, Tryz.t34, by kernel_rfl, rfl, rfl, rfl⟩
@[simp] theorem B0Q (a : Option Addr) (x y : Operand) (K : Value → WP) (w : World) : A6 PR (G0 .neq 34 x y (.pointer a) (.pointer none)) K w = K (.bool (!a.isNone)) w := A1C B1c
theorem B2j : TI PR 35 Tryz.t35.desc 1 8 (.pointer none) := ⟨Tryz.underlying35, Tryz.t35, by kernel_rfl, rfl, rfl, rfl⟩
@[simp] theorem A93 (a : Option Addr) (x y : Operand) (K : Value → WP) (w : World) : A6 PR (G0 .neq 35 x y (.pointer a) (.pointer none)) K w = K (.bool (!a.isNone)) w := A1C B2j
theorem A0S {cs : Array Value} {v : Value} (h : cs[0]? = some v) (K : Value → WP) : A0 PR (Instr.field 55 (.agg cs) 0) K = K v := B1W (i := 0) A5L rfl A9c rfl h
theorem B3C : TI PR 137 Tryz.t136.desc 1 8 (.agg #[(.int .i64 0)]) := ⟨Tryz.underlying137, Tryz.t137, by kernel_rfl, rfl, rfl, rfl⟩
theorem ty2 : TI PR 2 Tryz.t2.desc 1 8 (.int .i64 0) := ⟨Tryz.underlying2, Tryz.t2, by kernel_rfl, rfl, rfl, rfl⟩
@[simp] theorem B6A (b o : Nat) (K : Value → WP) : A0 PR (Instr.fieldAt 137 (.pointer (some ⟨b, o, none⟩)) 2) K = K (.pointer (some ⟨b, o, none⟩)) := B4 (i := 2) B3C rfl ⟨_, _, _, _, ty2⟩ b o
theorem B3E : TI PR 139 Tryz.t138.desc 1 8 (.agg #[(.int .i64 0)]) := ⟨Tryz.underlying139, Tryz.t139, by kernel_rfl, rfl, rfl, rfl⟩
@[simp] theorem B64 (b o : Nat) (K : Value → WP) : A0 PR (Instr.fieldAt 139 (.pointer (some ⟨b, o, none⟩)) 0) K = K (.pointer (some ⟨b, o, none⟩)) := B4 (i := 0) B3E rfl ⟨_, _, _, _, B3C⟩ b o
@[simp] theorem B5k (b o : Nat) (K : Value → WP) : A0 PR (Instr.fieldAt 141 (.pointer (some ⟨b, o, none⟩)) 0) K = K (.pointer (some ⟨b, o, none⟩)) := B4 (i := 0) A6s rfl ⟨_, _, _, _, B3E⟩ b o
@[simp] theorem B5e (b o : Nat) (K : Value → WP) : A0 PR (Instr.fieldAt 141 (.pointer (some ⟨b, o, none⟩)) 1) K = K (.pointer (some ⟨b, o + 1, none⟩)) := B4 (i := 1) A6s rfl ⟨_, _, _, _, A2B⟩ b o
@[simp] theorem B6n (b o : Nat) (K : Value → WP) : A0 PR (Instr.fieldAt 141 (.pointer (some ⟨b, o, none⟩)) 2) K = K (.pointer (some ⟨b, o + 2, none⟩)) := B4 (i := 2) A6s rfl ⟨_, _, _, _, A2B⟩ b o
@[simp] theorem B6V (b o : Nat) (K : Value → WP) : A0 PR (Instr.fieldAt 155 (.pointer (some ⟨b, o, none⟩)) 0) K = K (.pointer (some ⟨b, o, none⟩)) := B4 (i := 0) A1s rfl ⟨_, _, _, _, L0⟩ b o
@[simp] theorem B5r (b o : Nat) (K : Value → WP) : A0 PR (Instr.fieldAt 155 (.pointer (some ⟨b, o, none⟩)) 1) K = K (.pointer (some ⟨b, o + 1, none⟩)) := B4 (i := 1) A1s rfl ⟨_, _, _, _, L0⟩ b o
@[simp] theorem B6G (b o : Nat) (K : Value → WP) : A0 PR (Instr.fieldAt 160 (.pointer (some ⟨b, o, none⟩)) 0) K = K (.pointer (some ⟨b, o, none⟩)) := B4 (i := 0) A3s rfl ⟨_, _, _, _, L0⟩ b o
@[simp] theorem B5q (b o : Nat) (K : Value → WP) : A0 PR (Instr.fieldAt 160 (.pointer (some ⟨b, o, none⟩)) 1) K = K (.pointer (some ⟨b, o + 1, none⟩)) := B4 (i := 1) A3s rfl ⟨_, _, _, _, L0⟩ b o
@[simp] theorem B50 (b o : Nat) (K : Value → WP) : A0 PR (Instr.fieldAt 160 (.pointer (some ⟨b, o, none⟩)) 2) K = K (.pointer (some ⟨b, o + 2, none⟩)) := B4 (i := 2) A3s rfl ⟨_, _, _, _, A5L⟩ b o
@[simp] theorem B5n (b o : Nat) (K : Value → WP) : A0 PR (Instr.fieldAt 163 (.pointer (some ⟨b, o, none⟩)) 0) K = K (.pointer (some ⟨b, o, none⟩)) := B4 (i := 0) A3p rfl ⟨_, _, _, _, A3s⟩ b o
@[simp] theorem B6q (b o : Nat) (K : Value → WP) : A0 PR (Instr.fieldAt 163 (.pointer (some ⟨b, o, none⟩)) 1) K = K (.pointer (some ⟨b, o + 6, none⟩)) := B4 (i := 1) A3p rfl ⟨_, _, _, _, A3Y⟩ b o
@[simp] theorem B6p (b o : Nat) (K : Value → WP) : A0 PR (Instr.fieldAt 163 (.pointer (some ⟨b, o, none⟩)) 2) K = K (.pointer (some ⟨b, o + 7, none⟩)) := B4 (i := 2) A3p rfl ⟨_, _, _, _, A2B⟩ b o
@[simp] theorem B6W (b o : Nat) (K : Value → WP) : A0 PR (Instr.fieldAt 163 (.pointer (some ⟨b, o, none⟩)) 3) K = K (.pointer (some ⟨b, o + 8, none⟩)) := B4 (i := 3) A3p rfl ⟨_, _, _, _, L0⟩ b o
@[simp] theorem B6U (b o : Nat) (K : Value → WP) : A0 PR (Instr.fieldAt 163 (.pointer (some ⟨b, o, none⟩)) 4) K = K (.pointer (some ⟨b, o + 9, none⟩)) := B4 (i := 4) A3p rfl ⟨_, _, _, _, L0⟩ b o
theorem B23 : TI PR 165 Tryz.t164.desc 1 16 .nilIface := ⟨Tryz.underlying165, Tryz.t165, by kernel_rfl, rfl, rfl, rfl⟩
@[simp] theorem B6j (b o : Nat) (K : Value → WP) : A0 PR (Instr.fieldAt 167 (.pointer (some ⟨b, o, none⟩)) 0) K = K (.pointer (some ⟨b, o, none⟩)) := B4 (i := 0) B3L rfl ⟨_, _, _, _, B23⟩ b o
theorem A9D : TI PR 192 Tryz.t58.desc 1 24 (.slice none 0 0) := ⟨Tryz.underlying192, Tryz.t192, by kernel_rfl, rfl, rfl, rfl⟩
@[simp] theorem B5s (b o : Nat) (K : Value → WP) : A0 PR (Instr.fieldAt 195 (.pointer (some ⟨b, o, none⟩)) 0) K = K (.pointer (some ⟨b, o, none⟩)) := B4 (i := 0) A0a rfl ⟨_, _, _, _, A9D⟩ b o
@[simp] theorem B6m (b o : Nat) (K : Value → WP) : A0 PR (Instr.fieldAt 195 (.pointer (some ⟨b, o, none⟩)) 1) K = K (.pointer (some ⟨b, o + 1, none⟩)) := B4 (i := 1) A0a rfl ⟨_, _, _, _, A9l⟩ b o
@[simp] theorem B6K (b o : Nat) (K : Value → WP) : A0 PR (Instr.fieldAt 200 (.pointer (some ⟨b, o, none⟩)) 0) K = K (.pointer (some ⟨b, o, none⟩)) := B4 (i := 0) w6 rfl ⟨_, _, _, _, L0⟩ b o
@[simp] theorem B5a (b o : Nat) (K : Value → WP) : A0 PR (Instr.fieldAt 200 (.pointer (some ⟨b, o, none⟩)) 1) K = K (.pointer (some ⟨b, o + 1, none⟩)) := B4 (i := 1) w6 rfl ⟨_, _, _, _, L0⟩ b o
theorem A88 : TI PR 201 Tryz.t201.desc 16 128 (.agg #[(.int .i64 0), (.int .i64 0), (.int .i64 0), (.int .i64 0), (.int .i64 0), (.int .i64 0), (.int .i64 0), (.int .i64 0), (.int .i64 0), (.int .i64 0), (.int .i64 0), (.int .i64 0), (.int .i64 0), (.int .i64 0), (.int .i64 0), (.int .i64 0)]) := ⟨Tryz.underlying201, Tryz.t201, by kernel_rfl, rfl, rfl, rfl⟩
@[simp] theorem B5z (b o : Nat) (K : Value → WP) : A0 PR (Instr.fieldAt 203 (.pointer (some ⟨b, o, none⟩)) 0) K = K (.pointer (some ⟨b, o, none⟩)) := B4 (i := 0) A86 rfl ⟨_, _, _, _, A88⟩ b o
@[simp] theorem B61 (b o : Nat) (K : Value → WP) : A0 PR (Instr.fieldAt 203 (.pointer (some ⟨b, o, none⟩)) 1) K = K (.pointer (some ⟨b, o + 16, none⟩)) := B4 (i := 1) A86 rfl ⟨_, _, _, _, L0⟩ b o
@[simp] theorem B70 (b o : Nat) (K : Value → WP) : A0 PR (Instr.fieldAt 23 (.pointer (some ⟨b, o, none⟩)) 0) K = K (.pointer (some ⟨b, o, none⟩)) := B4 (i := 0) A0z rfl ⟨_, _, _, _, L0⟩ b o
@[simp] theorem B7v (b o : Nat) (K : Value → WP) : A0 PR (Instr.fieldAt 23 (.pointer (some ⟨b, o, none⟩)) 1) K = K (.pointer (some ⟨b, o + 1, none⟩)) := B4 (i := 1) A0z rfl ⟨_, _, _, _, L0⟩ b o
@[simp] theorem B7c (b o : Nat) (K : Value → WP) : A0 PR (Instr.fieldAt 23 (.pointer (some ⟨b, o, none⟩)) 2) K = K (.pointer (some ⟨b, o + 2, none⟩)) := B4 (i := 2) A0z rfl ⟨_, _, _, _, L0⟩ b o
@[simp] theorem B7M (b o : Nat) (K : Value → WP) : A0 PR (Instr.fieldAt 23 (.pointer (some ⟨b, o, none⟩)) 3) K = K (.pointer (some ⟨b, o + 3, none⟩)) := B4 (i := 3) A0z rfl ⟨_, _, _, _, L0⟩ b o
@[simp] theorem B7e (b o : Nat) (K : Value → WP) : A0 PR (Instr.fieldAt 23 (.pointer (some ⟨b, o, none⟩)) 4) K = K (.pointer (some ⟨b, o + 4, none⟩)) := B4 (i := 4) A0z rfl ⟨_, _, _, _, L0⟩ b o
theorem A4w : TI PR 229 Tryz.t229.desc 1 24 (.slice none 0 0) := ⟨Tryz.underlying229, Tryz.t229, by kernel_rfl, rfl, rfl, rfl⟩
@[simp] theorem B54 (b o : Nat) (K : Value → WP) : A0 PR (Instr.fieldAt 231 (.pointer (some ⟨b, o, none⟩)) 0) K = K (.pointer (some ⟨b, o, none⟩)) := B4 (i := 0) B29 rfl ⟨_, _, _, _, A4w⟩ b o
@[simp] theorem B6k (b o : Nat) (K : Value → WP) : A0 PR (Instr.fieldAt 284 (.pointer (some ⟨b, o, none⟩)) 0) K = K (.pointer (some ⟨b, o, none⟩)) := B4 (i := 0) A2L rfl ⟨_, _, _, _, A5c⟩ b o
@[simp] theorem B5p (b o : Nat) (K : Value → WP) : A0 PR (Instr.fieldAt 284 (.pointer (some ⟨b, o, none⟩)) 1) K = K (.pointer (some ⟨b, o + 1, none⟩)) := B4 (i := 1) A2L rfl ⟨_, _, _, _, L0⟩ b o
@[simp] theorem B5w (b o : Nat) (K : Value → WP) : A0 PR (Instr.fieldAt 290 (.pointer (some ⟨b, o, none⟩)) 0) K = K (.pointer (some ⟨b, o, none⟩)) := B4 (i := 0) A6n rfl ⟨_, _, _, _, A5c⟩ b o
@[simp] theorem B52 (b o : Nat) (K : Value → WP) : A0 PR (Instr.fieldAt 290 (.pointer (some ⟨b, o, none⟩)) 1) K = K (.pointer (some ⟨b, o + 1, none⟩)) := B4 (i := 1) A6n rfl ⟨_, _, _, _, L0⟩ b o
@[simp] theorem B7m (b o : Nat) (K : Value → WP) : A0 PR (Instr.fieldAt 39 (.pointer (some ⟨b, o, none⟩)) 0) K = K (.pointer (some ⟨b, o, none⟩)) := B4 (i := 0) A4C rfl ⟨_, _, _, _, A0z⟩ b o
@[simp] theorem B7W (b o : Nat) (K : Value → WP) : A0 PR (Instr.fieldAt 39 (.pointer (some ⟨b, o, none⟩)) 1) K = K (.pointer (some ⟨b, o + 5, none⟩)) := B4 (i := 1) A4C rfl ⟨_, _, _, _, B1v⟩ b o
@[simp] theorem B7u (b o : Nat) (K : Value → WP) : A0 PR (Instr.fieldAt 39 (.pointer (some ⟨b, o, none⟩)) 2) K = K (.pointer (some ⟨b, o + 6, none⟩)) := B4 (i := 2) A4C rfl ⟨_, _, _, _, B1c⟩ b o
@[simp] theorem B8F (b o : Nat) (K : Value → WP) : A0 PR (Instr.fieldAt 39 (.pointer (some ⟨b, o, none⟩)) 3) K = K (.pointer (some ⟨b, o + 7, none⟩)) := B4 (i := 3) A4C rfl ⟨_, _, _, _, B2j⟩ b o
@[simp] theorem B76 (b o : Nat) (K : Value → WP) : A0 PR (Instr.fieldAt 39 (.pointer (some ⟨b, o, none⟩)) 4) K = K (.pointer (some ⟨b, o + 8, none⟩)) := B4 (i := 4) A4C rfl ⟨_, _, _, _, B2U⟩ b o
@[simp] theorem B7Q (b o : Nat) (K : Value → WP) : A0 PR (Instr.fieldAt 39 (.pointer (some ⟨b, o, none⟩)) 5) K = K (.pointer (some ⟨b, o + 9, none⟩)) := B4 (i := 5) A4C rfl ⟨_, _, _, _, A2B⟩ b o
@[simp] theorem B7T (b o : Nat) (K : Value → WP) : A0 PR (Instr.fieldAt 42 (.pointer (some ⟨b, o, none⟩)) 0) K = K (.pointer (some ⟨b, o, none⟩)) := B4 (i := 0) A3Z rfl ⟨_, _, _, _, ty4⟩ b o
@[simp] theorem B7y (b o : Nat) (K : Value → WP) : A0 PR (Instr.fieldAt 42 (.pointer (some ⟨b, o, none⟩)) 2) K = K (.pointer (some ⟨b, o + 2, none⟩)) := B4 (i := 2) A3Z rfl ⟨_, _, _, _, ty4⟩ b o
@[simp] theorem B7j (b o : Nat) (K : Value → WP) : A0 PR (Instr.fieldAt 64 (.pointer (some ⟨b, o, none⟩)) 0) K = K (.pointer (some ⟨b, o, none⟩)) := B4 (i := 0) A9K rfl ⟨_, _, _, _, L0⟩ b o
@[simp] theorem B7L (b o : Nat) (K : Value → WP) : A0 PR (Instr.fieldAt 64 (.pointer (some ⟨b, o, none⟩)) 2) K = K (.pointer (some ⟨b, o + 2, none⟩)) := B4 (i := 2) A9K rfl ⟨_, _, _, _, A3Y⟩ b o
theorem B4j {k1 : IntKind} {i : Int} {s : ByteArray} {b : UInt8} (h0 : 0 ≤ i) (h1 : s[i.toNat]? = some b) (K : Value → WP) : A0 PR (Instr.index 9 (.string s) (.int k1 i)) K = K (.int .u8 b.toNat) := B2A ty9 h0 h1
@[simp] theorem B8u {k : IntKind} {i : Int} (h0 : 0 ≤ i) (h1 : i < (2 : Nat)) (b o : Nat) (K : Value → WP) : A0 PR (Instr.indexAt 158 (.pointer (some ⟨b, o, none⟩)) (.int k i)) K = K (.pointer (some ⟨b, o + i.toNat, none⟩)) := (by simpa using A4d (K := K) A5C L0 h0 h1 b o)
@[simp] theorem B85 {k : IntKind} {i : Int} (h0 : 0 ≤ i) (h1 : i < (8 : Nat)) (b o : Nat) (K : Value → WP) : A0 PR (Instr.indexAt 201 (.pointer (some ⟨b, o, none⟩)) (.int k i)) K = K (.pointer (some ⟨b, o + i.toNat * 2, none⟩)) := (A4d (K := K) A88 w6 h0 h1 b o)
@[simp] theorem B8r {k : IntKind} {i : Int} {len cap : Nat} (h0 : 0 ≤ i) (h1 : i < len) (b o : Nat) (K : Value → WP) : A0 PR (Instr.indexAt 228 (.slice (some ⟨b, o, none⟩) len cap) (.int k i)) K = K (.pointer (some ⟨b, o + i.toNat, none⟩)) := (by simpa using Q3 (K := K) A9S A9q h0 h1 b o)
theorem A9B : TI PR 266 Tryz.t265.desc 1 16 .nilIface := ⟨Tryz.underlying266, Tryz.t266, by kernel_rfl, rfl, rfl, rfl⟩
@[simp] theorem B8W {k : IntKind} {i : Int} {len cap : Nat} (h0 : 0 ≤ i) (h1 : i < len) (b o : Nat) (K : Value → WP) : A0 PR (Instr.indexAt 229 (.slice (some ⟨b, o, none⟩) len cap) (.int k i)) K = K (.pointer (some ⟨b, o + i.toNat, none⟩)) := (by simpa using Q3 (K := K) A4w A9B h0 h1 b o)
@[simp] theorem B8y {k : IntKind} {i : Int} {len cap : Nat} (h0 : 0 ≤ i) (h1 : i < len) (b o : Nat) (K : Value → WP) : A0 PR (Instr.indexAt 259 (.slice (some ⟨b, o, none⟩) len cap) (.int k i)) K = K (.pointer (some ⟨b, o + i.toNat * 2, none⟩)) := (Q3 (K := K) A9m A5C h0 h1 b o)
theorem A9Q : TI PR 279 Tryz.t193.desc 1 24 (.slice none 0 0) := ⟨Tryz.underlying279, Tryz.t279, by kernel_rfl, rfl, rfl, rfl⟩
@[simp] theorem B9D {k : IntKind} {i : Int} {len cap : Nat} (h0 : 0 ≤ i) (h1 : i < len) (b o : Nat) (K : Value → WP) : A0 PR (Instr.indexAt 279 (.slice (some ⟨b, o, none⟩) len cap) (.int k i)) K = K (.pointer (some ⟨b, o + i.toNat * 2, none⟩)) := (Q3 (K := K) A9Q A6n h0 h1 b o)
@[simp] theorem B8k {k : IntKind} {i : Int} {len cap : Nat} (h0 : 0 ≤ i) (h1 : i < len) (b o : Nat) (K : Value → WP) : A0 PR (Instr.indexAt 281 (.slice (some ⟨b, o, none⟩) len cap) (.int k i)) K = K (.pointer (some ⟨b, o + i.toNat * 2, none⟩)) := (Q3 (K := K) A6r A2L h0 h1 b o)
@[simp] theorem B8v {k : IntKind} {i : Int} {len cap : Nat} (h0 : 0 ≤ i) (h1 : i < len) (b o : Nat) (K : Value → WP) : A0 PR (Instr.indexAt 301 (.slice (some ⟨b, o, none⟩) len cap) (.int k i)) K = K (.pointer (some ⟨b, o + i.toNat, none⟩)) := (by simpa using Q3 (K := K) A6w ty5 h0 h1 b o)
@[simp] theorem B9J {k : IntKind} {i : Int} {len cap : Nat} (h0 : 0 ≤ i) (h1 : i < len) (b o : Nat) (K : Value → WP) : A0 PR (Instr.indexAt 37 (.slice (some ⟨b, o, none⟩) len cap) (.int k i)) K = K (.pointer (some ⟨b, o + i.toNat, none⟩)) := (by simpa using Q3 (K := K) A2B L0 h0 h1 b o)
@[simp] theorem B9S {k : IntKind} {i : Int} {len cap : Nat} (h0 : 0 ≤ i) (h1 : i < len) (b o : Nat) (K : Value → WP) : A0 PR (Instr.indexAt 58 (.slice (some ⟨b, o, none⟩) len cap) (.int k i)) K = K (.pointer (some ⟨b, o + i.toNat * 2, none⟩)) := (Q3 (K := K) A3Y A1s h0 h1 b o)
theorem B5E : TI PR 94 Tryz.t94.desc 1 24 (.slice none 0 0) := ⟨Tryz.underlying94, Tryz.t94, by kernel_rfl, rfl, rfl, rfl⟩
@[simp] theorem B9V {k : IntKind} {i : Int} {len cap : Nat} (h0 : 0 ≤ i) (h1 : i < len) (b o : Nat) (K : Value → WP) : A0 PR (Instr.indexAt 94 (.slice (some ⟨b, o, none⟩) len cap) (.int k i)) K = K (.pointer (some ⟨b, o + i.toNat, none⟩)) := (by simpa using Q3 (K := K) B5E A3Y h0 h1 b o)
@[simp] theorem B67 (a : Option Addr) (n c : Nat) (K : Value → WP) : A0 PR (A8 .len #[192] 0 [.slice a n c]) K = K (.int .i64 n) := q4 A9D a n c
@[simp] theorem B7V (a : Option Addr) (n c : Nat) (K : Value → WP) : A0 PR (A8 .len #[228] 0 [.slice a n c]) K = K (.int .i64 n) := q4 A9S a n c
@[simp] theorem B7G (a : Option Addr) (n c : Nat) (K : Value → WP) : A0 PR (A8 .len #[229] 0 [.slice a n c]) K = K (.int .i64 n) := q4 A4w a n c
@[simp] theorem B7S (a : Option Addr) (n c : Nat) (K : Value → WP) : A0 PR (A8 .len #[259] 0 [.slice a n c]) K = K (.int .i64 n) := q4 A9m a n c
@[simp] theorem B7l (a : Option Addr) (n c : Nat) (K : Value → WP) : A0 PR (A8 .len #[279] 0 [.slice a n c]) K = K (.int .i64 n) := q4 A9Q a n c
@[simp] theorem B77 (a : Option Addr) (n c : Nat) (K : Value → WP) : A0 PR (A8 .len #[281] 0 [.slice a n c]) K = K (.int .i64 n) := q4 A6r a n c
@[simp] theorem B8f (a : Option Addr) (n c : Nat) (K : Value → WP) : A0 PR (A8 .len #[37] 0 [.slice a n c]) K = K (.int .i64 n) := q4 A2B a n c
theorem B6B : TI PR 443 Tryz.t443.desc 1 24 (.slice none 0 0) := ⟨Tryz.underlying443, Tryz.t443, by kernel_rfl, rfl, rfl, rfl⟩
@[simp] theorem B8D (a : Option Addr) (n c : Nat) (K : Value → WP) : A0 PR (A8 .len #[443] 0 [.slice a n c]) K = K (.int .i64 n) := q4 B6B a n c
@[simp] theorem B84 (a : Option Addr) (n c : Nat) (K : Value → WP) : A0 PR (A8 .len #[58] 0 [.slice a n c]) K = K (.int .i64 n) := q4 A3Y a n c
@[simp] theorem B9N (s : ByteArray) (K : Value → WP) : A0 PR (A8 .len #[9] 0 [.string s]) K = K (.int .i64 s.size) := B5A ty9 s
@[simp] theorem B8j (a : Option Addr) (n c : Nat) (K : Value → WP) : A0 PR (A8 .len #[94] 0 [.slice a n c]) K = K (.int .i64 n) := q4 B5E a n c
@[simp] theorem B9f (a : Addr) (K : Value → WP) (w : World) : A6 PR (Instr.loadAt 3 (.pointer (some a))) K w = rdc (w.cell? a) K (far PR 3 a K) w := A7x L0 rfl a
@[simp] theorem B9L (a : Addr) (K : Value → WP) (w : World) : A6 PR (Instr.loadAt 89 (.pointer (some a))) K w = rdc (w.cell? a) K (far PR 89 a K) w := A7x A5c rfl a
theorem B6C : TI PR 161 Tryz.t161.desc 1 8 (.pointer none) := ⟨Tryz.underlying161, Tryz.t161, by kernel_rfl, rfl, rfl, rfl⟩
@[simp] theorem B8b (v : Value) (K : Value → WP) : A0 PR (Instr.makeInterface 161 v) K = K (.iface 161 v) := A3L B6C (by intro ms h; cases h) v
@[simp] theorem B8P (v : Value) (K : Value → WP) : A0 PR (Instr.makeInterface 195 v) K = K (.iface 195 v) := A3L A0a (by intro ms h; cases h) v
@[simp] theorem B8z (v : Value) (K : Value → WP) : A0 PR (Instr.makeInterface 263 v) K = K (.iface 263 v) := A3L A3m (by intro ms h; cases h) v
@[simp] theorem B6T {k1 : IntKind} {hi : Int} (b o : Nat) (h0 : 0 ≤ hi) (h1 : hi ≤ (8 : Nat)) (K : Value → WP) : A0 PR (Instr.sliceAt 201 (.pointer (some ⟨b, o, none⟩)) none (some (.int k1 hi)) none) K = K (.slice (some ⟨b, o, none⟩) hi.toNat 8) := B0m A88 w6 b o h0 h1
theorem B27 : TI PR 156 Tryz.t156.desc 1 8 (.map none) := ⟨Tryz.underlying156, Tryz.t156, by kernel_rfl, rfl, rfl, rfl⟩
end Go.Proofs.YtjobgnabneddjaaGreat
namespace Go.Proofs.YtjobgnabneddjaaGreat
open Go
@[simp] theorem A91 (a b : ByteArray) : (a == b) = decide (a = b) := by
 obtain ⟨x⟩ := a; obtain ⟨y⟩ := b
 have h : ((⟨x⟩ : ByteArray) == ⟨y⟩) = (x == y) := rfl
 rw [h]
 by_cases e : x = y
 ·subst e; simp
 ·simp [e]
@[simp] theorem B6Y (a : Array UInt8) : (ByteArray.mk a).size = a.size := rfl
theorem A7Z (ns : List Int) : (x5 ns).data.toList = ns.map fun n => UInt8.ofNat n.toNat := by
 have : ∀ (l : List Int) (r : ByteArray), (l.foldl (fun r n => r.push (UInt8.ofNat n.toNat)) r).data.toList = r.data.toList ++ l.map fun n => UInt8.ofNat n.toNat := by
  intro l
  induction l with
  | nil => intro r; simp
  | cons x l ih => intro r; rw [List.foldl_cons, ih]; simp [ByteArray.push]
 have h := this ns ByteArray.empty
 rw [show ByteArray.empty.data.toList = [] from rfl, List.nil_append] at h
 exact h
@[simp] theorem B47 (ns : List Int) : (x5 ns).size = ns.length := by
 have := congrArg List.length (A7Z ns)
 rw [List.length_map] at this
 exact this
class TS (t : TypeId) (z : outParam Value) : Prop where
 ti : ∃ d m, TI PR t d 1 m z ∧ H5 d = false
class TG (t : TypeId) (n : outParam Nat) (z : outParam Value) : Prop where
 ti : ∃ d m, TI PR t d n m z ∧ H5 d = true
class TA (t : TypeId) (n : outParam Nat) (z : outParam Value) : Prop where
 ti : ∃ d m, TI PR t d n m z
class SL (t : TypeId) (e : outParam TypeId) (k by' : outParam Nat) (z : outParam Value) : Prop where
 ti : (∃ n m z', TI PR t (.slice e) n m z') ∧ (∃ d, TI PR e d k by' z) ∧ z.cells.size = k
instance TS.ta {t : TypeId} {z : Value} [h : TS t z] : TA t 1 z := ⟨let ⟨d, m, h, _⟩ := h.ti; ⟨d, m, h⟩⟩
instance TG.ta {t : TypeId} {n : Nat} {z : Value} [h : TG t n z] : TA t n z := ⟨let ⟨d, m, h, _⟩ := h.ti; ⟨d, m, h⟩⟩
def rdq (x : Option (List Value)) (G : List Value → WP) (F : WP) : WP := match x with | some l => G l | none => F
@[simp] theorem B8n (l : List Value) (G : List Value → WP) (F : WP) : rdq (some l) G F = G l := id rfl
@[congr] theorem B8C {x x' : Option (List Value)} {G : List Value → WP} {F : WP} (h : x = x') {q : Nat} (hq : N5 = q) : rdq x G F = rdq x' G F := by rw [h]
@[simp] theorem B8Q (xs : List Value) : Q5 xs 0 0 = some [] := by simp [Q5]
@[simp] theorem B6H (x : Value) (xs : List Value) (n : Nat) : Q5 (x :: xs) 0 (n + 1) = (Q5 xs 0 n).map (x :: ·) := by
 simp only [Q5, Nat.zero_add, List.length_cons, List.drop_zero, List.take_succ_cons]
 by_cases h : n ≤ xs.length
 ·rw [if_pos h, if_pos (by omega)]; rfl
 ·rw [if_neg h, if_neg (by omega)]; rfl
theorem B0y {α : Type} {l : List α} {f : α → List Value} {k i : Nat} {x : α} (hk : ∀ x, (f x).length = k) (hx : l[i]? = some x) : Q5 (l.flatMap f) (i * k) k = some (f x) := by
 obtain ⟨hlt, hx'⟩ := List.getElem?_eq_some_iff.1 hx
 have h1 : (i + 1) * k ≤ l.length * k := Nat.mul_le_mul_right k hlt
 rw [Nat.add_mul] at h1
 rw [Q5, if_pos (by rw [L5 hk]; omega), A29 hk, List.drop_eq_getElem_cons hlt, List.flatMap_cons, hx']
 rw [List.take_left' (hk x)]
inductive Sel (r : Res) : List Res → List Res → Prop where
 | here {H : List Res} : Sel r (r :: H) H
 | there {x : Res} {H H' : List Res} : Sel r H H' → Sel r (x :: H) (x :: H')
theorem Sel.perm {r : Res} {H Hr : List Res} (h : Sel r H Hr) : H.Perm (r :: Hr) := by
 induction h with
 | here => exact .refl _
 | there _ ih => exact (ih.cons _).trans (.swap ..)
theorem Sel.sub {r : Res} {H Hr : List Res} (h : Sel r H Hr) : Hr.Sublist H := by
 induction h with
 | here => exact List.sublist_cons_self ..
 | there _ ih => exact ih.cons_cons _
theorem A1 {r : Res} {H : List Res} : r ∈ r :: H := List.mem_cons_self ..
theorem uH {r r' : Res} {H : List Res} : Up r r' (r :: H) (r' :: H) := Up.here
theorem uT {r r' x : Res} {H H' : List Res} (h : Up r r' H H') : Up r r' (x :: H) (x :: H') := Up.there h
theorem A3 {r x : Res} {H : List Res} (h : r ∈ H) : r ∈ x :: H := List.mem_cons_of_mem _ h
inductive Sels : List Res → List Res → Prop where
 | nil {H : List Res} : Sels [] H
 | cons {r : Res} {rs H Hr : List Res} : Sel r H Hr → Sels rs Hr → Sels (r :: rs) H
theorem Sels.sub {rs H : List Res} (h : Sels rs H) : ∃ H', H.Perm H' ∧ rs.Sublist H' := by
 induction h with
 | nil => exact ⟨_, .refl _, List.nil_sublist _⟩
 | cons h1 _ ih => obtain ⟨H', h2, h3⟩ := ih; exact ⟨_ :: H', h1.perm.trans (h2.cons _), h3.cons_cons _⟩
theorem Sels.lw {κ : Bool} {S : List Nat} {w0 w : World} {rs H : List Res} (h : Sels rs H) (hw : LW κ S w0 H w) : LW κ S w0 rs w := let ⟨_, h1, h2⟩ := h.sub; (hw.perm h1).sub h2
theorem Sels.tw {κ : Bool} {S : List Nat} {w0 : World} {rs H : List Res} {K : WP} (h : Sels rs H) (hk : TW κ S w0 rs K) : TW κ S w0 H K := fun w hw => hk w (h.lw hw)
inductive Part : List Res → List Res → List Res → Prop where
 | nil {H : List Res} : Part [] H H
 | cons {r : Res} {rs H H1 Hk : List Res} : Sel r H H1 → Part rs H1 Hk → Part (r :: rs) H Hk
theorem Part.perm {Hc H Hk : List Res} (h : Part Hc H Hk) : H.Perm (Hc ++ Hk) := by
 induction h with
 | nil => exact .refl _
 | cons h1 _ ih => exact h1.perm.trans (ih.cons _)
theorem C0 {κ : Bool} {X : Nat → Prop} {S : List Nat} {w0 : World} {H Hk Hc : List Res} {K : Value → WP} {f : FuncId} {args : List Value} {α : Type} {φ : α → Value → Prop} {Hn : α → List Res} (he : A9 PR f)
  (hf : ∀ w, LW κ S w0 (Hc ++ Hk) w → LW false (B1 Hc) w Hc w → Fn PR B7 f args.toArray w (Rn (B1 Hc) w φ Hn)) (hp : Part Hc H Hk) (hK : ∀ a v, φ a v → TW κ S w0 (Hn a ++ Hk) (K v)) : TW κ S w0 H (B5 PR X f args K) :=
 B0K he hp.perm (fun w hw => let h := hw.perm hp.perm; hf w h (h.sub (List.sublist_append_left _ _)).self) hK
theorem B3 {κ : Bool} {S : List Nat} {w0 : World} {H : List Res} {α : Type} {φ : α → Value → Prop} {Hn : α → List Res} {v : Value} (a : α) (h : φ a v) (hs : Sels (Hn a) H) : TW κ S w0 H (Rn S w0 φ Hn v) := fun w hw => ⟨a, h, hs.lw hw.low⟩
theorem B5b {κ : Bool} {S : List Nat} {w0 : World} {H : List Res} {F : Value → WP} {A : (Value → WP) → WP} {α : Type} (φ : α → Prop) (Hh : α → List Res) (v1 : α → Value) (hF : ∀ x, φ x → TW κ S w0 (Hh x) (F (v1 x)))
  (hA : ∀ J : Value → WP, (∀ x, φ x → TW κ S w0 (Hh x) (J (v1 x))) → TW κ S w0 H (A J)) : TW κ S w0 H (kt (n := 1) F A) := hA F hF
theorem F7.form {w : World} {v : Value} {n : Nat} {xs : List Value} (h : F7 w v n xs) : ∃ a c, v = .slice a n c ∧ (0 < n → ∃ b o, a = some ⟨b, o, none⟩ ∧ K7 w b o xs) := by
 rcases h with ⟨rfl, rfl, a, c, rfl⟩ | ⟨b, o, c, rfl, hr⟩
 ·exact ⟨a, c, rfl, fun h => absurd h (by omega)⟩
 ·exact ⟨_, c, rfl, fun _ => ⟨b, o, rfl, hr⟩⟩
theorem K7.at {w : World} {b o k : Nat} {α : Type} {l : List α} {f : α → List Value} (h : K7 w b o (l.flatMap f)) (hk : ∀ x, (f x).length = k) {i : Nat} {x : α} (hx : l[i]? = some x) : Y2 w b (o + i * k) k = some (f x) := by
 have h1 : K7 w b (o + i * k) (f x) := fun j hj => by
  rw [hk] at hj
  have h2 := c7 hk l i j hj
  rw [hx] at h2
  have h3 : (l.flatMap f)[i * k + j]? = some ((f x)[j]'(by rw [hk]; exact hj)) := by rw [h2]; simp [List.getElem?_eq_getElem, hk, hj]
  rw [Nat.add_assoc, h.get h3]; simp [List.getElem?_eq_getElem, hk, hj]
 have := A5a h1
 rwa [hk] at this
theorem K7.cellAt {w : World} {b o k : Nat} {α : Type} {l : List α} {f : α → List Value} (h : K7 w b o (l.flatMap f)) (hk : ∀ x, (f x).length = k) {i j : Nat} {x : α} {u : Value} (hx : l[i]? = some x) (hu : (f x)[j]? = some u) : w.cell? ⟨b, o + i * k + j, none⟩ = some u := by
 have hj : j < k := by rw [← hk x]; exact (List.getElem?_eq_some_iff.1 hu).1
 have h2 := c7 hk l i j hj
 rw [hx] at h2
 rw [Nat.add_assoc]
 exact h.get (by rw [h2]; exact hu)
theorem K7.one {w : World} {b o : Nat} {α : Type} {l : List α} {f : α → Value} (h : K7 w b o (l.map f)) {i : Nat} {x : α} (hx : l[i]? = some x) : w.cell? ⟨b, o + i, none⟩ = some (f x) := h.get (by simp [hx])
section
variable {κ : Bool} {X : Nat → Prop} {S : List Nat} {w0 : World} {H H' Hr : List Res} {K : Value → WP} {K0 : WP} {t e : TypeId} {n k by' : Nat} {z : Value}
theorem B6u {s : Sem Value} {v : Value} (h : ∀ w, LW κ S w0 H w → A6 PR s K w = K v w) : TW κ S w0 H (A6 PR s K) = TW κ S w0 H (K v) := TW.congr h
theorem A9g {v : Value} {q : Nat} {xs : List Value} (hm : Res.own e k v q xs ∈ H) (hq : 0 < q) (h : ∀ g c, v = .slice (some ⟨g, 0, none⟩) q c → TW κ S w0 H K0) : TW κ S w0 H K0 := fun w hw => by
 rcases (hw.hold _ hm).2 with ⟨_, rfl⟩ | ⟨g, c, _, rfl, _⟩
 ·omega
 ·exact h g c rfl w hw
@[simp] theorem B9P [h : TS t z] {b o : Nat} {c : Array Value} {T : TypeId} {f : Nat × Nat} (hm : Res.pt b (.cells c T f) ∈ H) :
  TW κ S w0 H (A6 PR (Instr.loadAt t (.pointer (some ⟨b, o, none⟩))) K) = TW κ S w0 H (rdc c[o]? K (far PR t ⟨b, o, none⟩ K)) := let ⟨_, _, h, hd⟩ := h.ti; B4C h hd hm
@[simp] theorem B8c [h : TS t z] {g o : Nat} {k q c : Nat} {xs : List Value} (hm : Res.own e k (.slice (some ⟨g, 0, none⟩) q c) q xs ∈ H) :
  TW κ S w0 H (A6 PR (Instr.loadAt t (.pointer (some ⟨g, o, none⟩))) K) = TW κ S w0 H (rdc xs[o]? K (A6 PR (Instr.loadAt t (.pointer (some ⟨g, o, none⟩))) K)) := by
 cases hv : xs[o]? with
 | none => rfl
 | some v => exact let ⟨_, _, h, hd⟩ := h.ti; B2w h hd hm hv
@[simp] theorem B8N [h : TS t z] {b o : Nat} {v : Value} (hc : w0.cell? ⟨b, o, none⟩ = some v) (hS : b ∉ S) :
  TW κ S w0 H (A6 PR (Instr.loadAt t (.pointer (some ⟨b, o, none⟩))) K) = TW κ S w0 H (K v) := let ⟨_, _, h, hd⟩ := h.ti; B1a h hd hc hS
@[simp] theorem B9H [h : TG t n z] {b o : Nat} {c : Array Value} {T : TypeId} {f : Nat × Nat} (hm : Res.pt b (.cells c T f) ∈ H) :
  TW κ S w0 H (A6 PR (Instr.loadAt t (.pointer (some ⟨b, o, none⟩))) K) = TW κ S w0 H (rdq (Q5 c.toList o n) (fun l => K (.agg l.toArray)) (A6 PR (Instr.loadAt t (.pointer (some ⟨b, o, none⟩))) K)) := by
 cases hl : Q5 c.toList o n with
 | none => rfl
 | some l => exact let ⟨_, _, h, hd⟩ := h.ti; B2e h hd hm hl
@[simp] theorem B7E [h : TG t n z] {g o : Nat} {k q c : Nat} {xs : List Value} (hm : Res.own e k (.slice (some ⟨g, 0, none⟩) q c) q xs ∈ H) :
  TW κ S w0 H (A6 PR (Instr.loadAt t (.pointer (some ⟨g, o, none⟩))) K) = TW κ S w0 H (rdq (Q5 xs o n) (fun l => K (.agg l.toArray)) (A6 PR (Instr.loadAt t (.pointer (some ⟨g, o, none⟩))) K)) := by
 cases hl : Q5 xs o n with
 | none => rfl
 | some l => exact let ⟨_, _, h, hd⟩ := h.ti; B1E h hd hm hl
@[simp] theorem B68 [h : TG t n z] {b o : Nat} {l : List Value} (hc : Y2 w0 b o n = some l) (hS : b ∉ S) :
  TW κ S w0 H (A6 PR (Instr.loadAt t (.pointer (some ⟨b, o, none⟩))) K) = TW κ S w0 H (K (.agg l.toArray)) := let ⟨_, _, h, hd⟩ := h.ti; B0z h hd hc hS
@[simp] theorem B4N [h : TS t z] {b o : Nat} {c : Array Value} {T : TypeId} {f : Nat × Nat} (hm : Res.pt b (.cells c T f) ∈ H) {v : Value} (hv : c[o]? = some v) :
  TW κ S w0 H (A6 PR (H0 [.c t (.pointer (some ⟨b, o, none⟩))]) K) = TW κ S w0 H (K v) := let ⟨_, _, h, hd⟩ := h.ti; B40 h hd hm hv
@[simp] theorem B9d [h : TG t n z] {b o : Nat} {c : Array Value} {T : TypeId} {f : Nat × Nat} (hm : Res.pt b (.cells c T f) ∈ H) :
  TW κ S w0 H (A6 PR (H0 [.c t (.pointer (some ⟨b, o, none⟩))]) K) = TW κ S w0 H (rdq (Q5 c.toList o n) (fun l => K (.agg l.toArray)) (A6 PR (H0 [.c t (.pointer (some ⟨b, o, none⟩))]) K)) := by
 cases hl : Q5 c.toList o n with
 | none => rfl
 | some l => exact let ⟨_, _, h, hd⟩ := h.ti; B5B h hd hm hl
@[simp] theorem B63 [h : TS t z] {b o : Nat} {c : Array Value} {T : TypeId} {f : Nat × Nat} {v : Value} {l : List Rd} (hm : Res.pt b (.cells c T f) ∈ H) (hv : c[o]? = some v) :
  TW κ S w0 H (watch PR ((none, Instr.loadAt t (.pointer (some ⟨b, o, none⟩)), v) :: l) K0) = TW κ S w0 H (watch PR l K0) := let ⟨_, _, h, hd⟩ := h.ti; A8u fun w hw => r5 h hd (by rw [C9 (hw.pt hm)]; exact hv)
@[simp] theorem B5V [h : TS t z] {b o : Nat} {v : Value} {l : List Rd} (hc : w0.cell? ⟨b, o, none⟩ = some v) (hS : b ∉ S) :
  TW κ S w0 H (watch PR ((none, Instr.loadAt t (.pointer (some ⟨b, o, none⟩)), v) :: l) K0) = TW κ S w0 H (watch PR l K0) := let ⟨_, _, h, hd⟩ := h.ti; A8u fun w hw => r5 h hd (hw.ks.cell hS hc)
@[simp] theorem B9B [h : TA t n z] {v : Value} {b o : Nat} {c : Array Value} {T : TypeId} (hv : v.cells.size = n)
  (hu : Up (.pt b (.cells c T (0, 0))) (.pt b (.cells (E8 c o v.cells.toList) T (0, 0))) H H') (hs : o + n ≤ c.size) (hp : v.cells.toList.all plain = true) :
  TW κ S w0 H (E2 PR X (Instr.storeAt t (.pointer (some ⟨b, o, none⟩)) v) K0) = TW κ S w0 H' K0 := let ⟨_, _, h⟩ := h.ti; B87 h hv hu hs hp
theorem y6 [h : TA t n z] {v : Value} {g o q c : Nat} {xs : List Value} (hu : Up (.own e k (.slice (some ⟨g, 0, none⟩) q c) q xs) (.own e k (.slice (some ⟨g, 0, none⟩) q c) q (b9 xs o v.cells.toList)) H H')
  (hv : v.cells.size = n) (hs : o + n ≤ xs.length) (hp : v.cells.toList.all plain = true) (hK : TW κ S w0 H' K0) :
  TW κ S w0 H (E2 PR X (Instr.storeAt t (.pointer (some ⟨g, o, none⟩)) v) K0) := let ⟨_, _, h⟩ := h.ti; B16 h hv hu hs hp hK
theorem A4 [h : TA t n z] (hK : ∀ b, TW κ S w0 (.pt b (.cells z.cells t) :: H) (K (.pointer (some ⟨b, 0, none⟩)))) : TW κ S w0 H (B6 PR X (Instr.alloc t true (.tuple #[])) K) := let ⟨_, _, h⟩ := h.ti; B8e h hK
theorem A2H {k1 k2 : IntKind} {l : Int} [h : SL t e k by' z] (h0 : 0 ≤ l) (hb : l * by' ≤ 140737488355328) (hc : l ≤ 9223372036854775807) (hk : 0 < k)
  (hK : ∀ b, TW κ S w0 (.own e k (.slice (some ⟨b, 0, none⟩) l.toNat l.toNat) l.toNat (Builtin.zeroCells z.cells l.toNat).toList :: H) (K (.slice (some ⟨b, 0, none⟩) l.toNat l.toNat))) :
  TW κ S w0 H (B6 PR X (Instr.makeSlice t (.int k1 l) (.int k2 l)) K) := let ⟨⟨_, _, _, h1⟩, ⟨_, h2⟩, h3⟩ := h.ti; B8d h1 h2 h3 hk h0 rfl hb hc hK
theorem p4 [h : SL t e k by' z] (hK : ∀ b, TW κ S w0 (.own e k (.slice (some ⟨b, 0, none⟩) 0 0) 0 [] :: H) (K (.slice (some ⟨b, 0, none⟩) 0 0))) : TW κ S w0 H (B6 PR X (Instr.buildSlice t 0 #[]) K) :=
 let ⟨⟨_, _, _, h1⟩, ⟨_, h2⟩, h3⟩ := h.ti; B5c h1 h2 hK
theorem B1Q {m n q : Nat} (hq : 0 < n) : ∀ (vs : List Value) (i : Nat) (cs : Array Value), (∀ v ∈ vs, v.cells.size = n) → (i + vs.length) * n ≤ cs.size →
  Instr.fill (fun i => some (i * n, n)) cs ((List.range' i vs.length).zip vs) = some (E8 cs (i * n) (vs.flatMap fun v => v.cells.toList)) := by
 intro vs
 induction vs with
 | nil => intro i cs _ _; simp [Instr.fill]
 | cons v vs ih =>
  intro i cs hv hs
  simp only [List.length_cons] at hs
  have hv0 : v.cells.size = n := hv v (by simp)
  have e1 : (i + (vs.length + 1)) * n = i * n + n + vs.length * n := by rw [Nat.add_mul, Nat.add_mul]; omega
  simp only [List.length_cons, List.range'_succ, List.zip_cons_cons]
  rw [B9 rfl hv0 (by omega), ih (i + 1) _ (fun u hu => hv u (by simp [hu])) (by rw [C6]; (have : (i + 1 + vs.length) * n = i * n + n + vs.length * n := by (rw [Nat.add_mul, Nat.add_mul]; omega)); omega)]
  have spl_spl : ∀ (l l' : List Value) (c : Array Value) (o : Nat), E8 (E8 c o l) (o + l.length) l' = E8 c o (l ++ l') := by
   intro l
   induction l with
   | nil => intro l' c o; simp
   | cons u l ih => intro l' c o; simp only [A1k, List.cons_append, List.length_cons]; rw [← ih]; congr 1; omega
  rw [List.flatMap_cons, ← spl_spl]
  congr 2
  have : v.cells.toList.length = n := by simp [hv0]
  rw [this, Nat.add_mul]; omega
theorem A7v {len : Nat} {parts : Array (Nat × Value)} (vs : List Value) [h : SL t e k by' z] (hk : 0 < k) (h0 : 0 < len) (hb : len * k ≤ 2 ^ 24) (hp : parts.toList = (List.range' 0 len).zip vs) (hl : vs.length = len) (hv : ∀ v ∈ vs, v.cells.size = k)
  (hK : ∀ b, TW κ S w0 (.own e k (.slice (some ⟨b, 0, none⟩) len len) len (vs.flatMap fun v => v.cells.toList) :: H) (K (.slice (some ⟨b, 0, none⟩) len len))) :
  TW κ S w0 H (B6 PR X (Instr.buildSlice t len parts) K) := by
 obtain ⟨⟨_, _, _, h1⟩, ⟨_, h2⟩, h3⟩ := h.ti
 have hlen : (vs.flatMap fun v => v.cells.toList).length = len * k := by
  rw [← hl]; clear hp hl hK hb h0
  induction vs with
  | nil => simp
  | cons v vs ih =>
   have := hv v (by simp)
   rw [List.flatMap_cons, List.length_append, ih fun u hu => hv u (by simp [hu])]
   simp only [Array.length_toList, List.length_cons, this]; rw [Nat.add_mul]; omega
 have hf := B1Q (m := 0) (q := 0) hk vs 0 ((Array.range (len * k)).map (z.cells[· % z.cells.size]!)) hv (by simp [hl])
 rw [hl, ← hp] at hf
 have hz : E8 ((Array.range (len * k)).map (z.cells[· % z.cells.size]!)) (0 * k) (vs.flatMap fun v => v.cells.toList) = (vs.flatMap fun v => v.cells.toList).toArray := by
  apply Array.toList_inj.1
  rw [v8 _ _ _ (by simp [-List.length_flatMap, hlen])]
  simp only [Nat.zero_mul, List.take_zero, List.nil_append, hlen, Nat.zero_add]
  rw [List.drop_eq_nil_of_le (by simp)]; simp
 refine B81 h1 h2 hb (by have : 0 < len * k := Nat.mul_pos h0 hk; omega) (hf.trans (by rw [hz])) (by simp [-List.length_flatMap, hlen]) ?_
 simpa using hK
theorem p9 {v0 : Value} [h : SL t e k by' z] (hk : 0 < k := by decide) (hb : 1 * k ≤ 2 ^ 24 := by decide) (h0 : v0.cells.size = k := by simp) (hK : ∀ b, TW κ S w0 (.own e k (.slice (some ⟨b, 0, none⟩) 1 1) 1 (v0.cells.toList) :: H) (K (.slice (some ⟨b, 0, none⟩) 1 1))) :
  TW κ S w0 H (B6 PR X (Instr.buildSlice t 1 #[(0, v0)]) K) := A7v [v0] hk (by omega) hb rfl rfl (by intro v hv; simp only [List.mem_cons, List.not_mem_nil, or_false] at hv; subst hv; assumption) (by simpa using hK)
theorem q7 {v0 v1 : Value} [h : SL t e k by' z] (hk : 0 < k := by decide) (hb : 2 * k ≤ 2 ^ 24 := by decide) (h0 : v0.cells.size = k := by simp) (h1 : v1.cells.size = k := by simp) (hK : ∀ b, TW κ S w0 (.own e k (.slice (some ⟨b, 0, none⟩) 2 2) 2 (v0.cells.toList ++ v1.cells.toList) :: H) (K (.slice (some ⟨b, 0, none⟩) 2 2))) :
  TW κ S w0 H (B6 PR X (Instr.buildSlice t 2 #[(0, v0), (1, v1)]) K) := A7v [v0, v1] hk (by omega) hb rfl rfl (by intro v hv; simp only [List.mem_cons, List.not_mem_nil, or_false] at hv; rcases hv with rfl | rfl <;> assumption) (by simpa using hK)
theorem p5 {v0 v1 v2 : Value} [h : SL t e k by' z] (hk : 0 < k := by decide) (hb : 3 * k ≤ 2 ^ 24 := by decide) (h0 : v0.cells.size = k := by simp) (h1 : v1.cells.size = k := by simp) (h2 : v2.cells.size = k := by simp) (hK : ∀ b, TW κ S w0 (.own e k (.slice (some ⟨b, 0, none⟩) 3 3) 3 (v0.cells.toList ++ v1.cells.toList ++ v2.cells.toList) :: H) (K (.slice (some ⟨b, 0, none⟩) 3 3))) :
  TW κ S w0 H (B6 PR X (Instr.buildSlice t 3 #[(0, v0), (1, v1), (2, v2)]) K) := A7v [v0, v1, v2] hk (by omega) hb rfl rfl (by intro v hv; simp only [List.mem_cons, List.not_mem_nil, or_false] at hv; rcases hv with rfl | rfl | rfl <;> assumption) (by simpa using hK)
theorem q5 {v0 v1 v2 v3 v4 : Value} [h : SL t e k by' z] (hk : 0 < k := by decide) (hb : 5 * k ≤ 2 ^ 24 := by decide) (h0 : v0.cells.size = k := by simp) (h1 : v1.cells.size = k := by simp) (h2 : v2.cells.size = k := by simp) (h3 : v3.cells.size = k := by simp) (h4 : v4.cells.size = k := by simp) (hK : ∀ b, TW κ S w0 (.own e k (.slice (some ⟨b, 0, none⟩) 5 5) 5 (v0.cells.toList ++ v1.cells.toList ++ v2.cells.toList ++ v3.cells.toList ++ v4.cells.toList) :: H) (K (.slice (some ⟨b, 0, none⟩) 5 5))) :
  TW κ S w0 H (B6 PR X (Instr.buildSlice t 5 #[(0, v0), (1, v1), (2, v2), (3, v3), (4, v4)]) K) := A7v [v0, v1, v2, v3, v4] hk (by omega) hb rfl rfl (by intro v hv; simp only [List.mem_cons, List.not_mem_nil, or_false] at hv; rcases hv with rfl | rfl | rfl | rfl | rfl <;> assumption) (by simpa using hK)
theorem q6 {v0 v1 v2 v3 v4 v5 : Value} [h : SL t e k by' z] (hk : 0 < k := by decide) (hb : 6 * k ≤ 2 ^ 24 := by decide) (h0 : v0.cells.size = k := by simp) (h1 : v1.cells.size = k := by simp) (h2 : v2.cells.size = k := by simp) (h3 : v3.cells.size = k := by simp) (h4 : v4.cells.size = k := by simp) (h5 : v5.cells.size = k := by simp) (hK : ∀ b, TW κ S w0 (.own e k (.slice (some ⟨b, 0, none⟩) 6 6) 6 (v0.cells.toList ++ v1.cells.toList ++ v2.cells.toList ++ v3.cells.toList ++ v4.cells.toList ++ v5.cells.toList) :: H) (K (.slice (some ⟨b, 0, none⟩) 6 6))) :
  TW κ S w0 H (B6 PR X (Instr.buildSlice t 6 #[(0, v0), (1, v1), (2, v2), (3, v3), (4, v4), (5, v5)]) K) := A7v [v0, v1, v2, v3, v4, v5] hk (by omega) hb rfl rfl (by intro v hv; simp only [List.mem_cons, List.not_mem_nil, or_false] at hv; rcases hv with rfl | rfl | rfl | rfl | rfl | rfl <;> assumption) (by simpa using hK)
theorem M2.form {w : World} {e : TypeId} {k n : Nat} {v : Value} {xs : List Value} (h : M2 w e k v n xs) : ∃ a c, v = .slice a n c := by
 rcases h.2 with ⟨rfl, rfl⟩ | ⟨g, cap, cur, rfl, _⟩
 ·exact ⟨_, _, rfl⟩
 ·exact ⟨_, _, rfl⟩
theorem B4n {q : Nat} {xs : List Value} {A : Value → WP} (h : ∀ a c, TW κ S w0 (.own e k (.slice a q c) q xs :: H) (A (.slice a q c))) (v : Value) : TW κ S w0 (.own e k v q xs :: H) (A v) := fun w hw => by
 obtain ⟨a, c, rfl⟩ := M2.form (hw.hold _ A1)
 exact h a c w hw
theorem A2M {ty : TypeId} {v x : Value} {q r : Nat} {xs news : List Value} [h : SL t e k by' z] (hs : Sel (.own e k v q xs) H Hr) (hx : Z3 κ S w0 H x r news) (hk : 0 < k) (hl : news.length = r * k) (hp : news.all plain = true)
  (h63 : q + r ≤ maxLen) (hby : (q + r) * by' ≤ 140737488355328) (hK : ∀ a c, TW κ S w0 (.own e k (.slice a (q + r) c) (q + r) (xs ++ news) :: Hr) (K (.slice a (q + r) c))) : TW κ S w0 H (B6 PR X (A8 .append #[t, t] ty [v, x]) K) := by
 obtain ⟨⟨_, _, _, h1⟩, ⟨_, h2⟩, h3⟩ := h.ti
 refine TW.perm ?_ hs.perm
 exact B5m (H'' := fun v' => .own e k v' (q + r) (xs ++ news) :: Hr) h1 h2 h3 hk (fun v' => .here) (fun w hw => hx w (hw.perm hs.perm.symm)) hl hp h63 hby (B4n hK)
end
end Go.Proofs.YtjobgnabneddjaaGreat
namespace Go.Proofs.YtjobgnabneddjaaGreat
open Go
instance : TS 3 (.int .i64 0) := ⟨_, _, L0, rfl⟩
instance : TS 4 (.bool false) := ⟨_, _, ty4, rfl⟩
instance : TS 5 (.int .u8 0) := ⟨_, _, ty5, rfl⟩
instance : TS 9 (.string (ByteArray.mk #[])) := ⟨_, _, ty9, rfl⟩
instance : TG 23 5 (.agg #[(.int .i64 0), (.int .i64 0), (.int .i64 0), (.int .i64 0), (.int .i64 0)]) := ⟨_, _, A0z, rfl⟩
instance : TS 27 (.int .i64 0) := ⟨_, _, A9c, rfl⟩
instance : TS 33 (.pointer none) := ⟨_, _, B1v, rfl⟩
instance : TS 34 (.pointer none) := ⟨_, _, B1c, rfl⟩
instance : TS 35 (.pointer none) := ⟨_, _, B2j, rfl⟩
instance : TS 36 (.slice none 0 0) := ⟨_, _, B2U, rfl⟩
instance : SL 36 84 1 24 (.slice none 0 0) := ⟨⟨_, _, _, B2U⟩, ⟨_, B4y⟩, rfl⟩
instance : TS 37 (.slice none 0 0) := ⟨_, _, A2B, rfl⟩
instance : SL 37 3 1 8 (.int .i64 0) := ⟨⟨_, _, _, A2B⟩, ⟨_, L0⟩, rfl⟩
instance : TG 42 3 (.agg #[(.bool false), (.bool false), (.bool false)]) := ⟨_, _, A3Z, rfl⟩
instance : TG 55 4 (.agg #[(.int .i64 0), (.int .i64 0), (.bool false), (.int .i64 0)]) := ⟨_, _, A5L, rfl⟩
instance : TS 58 (.slice none 0 0) := ⟨_, _, A3Y, rfl⟩
instance : SL 58 155 2 16 (.agg #[(.int .i64 0), (.int .i64 0)]) := ⟨⟨_, _, _, A3Y⟩, ⟨_, A1s⟩, rfl⟩
instance : SL 84 218 4 40 (.agg #[(.int .i64 0), (.string (ByteArray.mk #[])), (.int .i64 0), (.int .i64 0)]) := ⟨⟨_, _, _, B4y⟩, ⟨_, B5y⟩, rfl⟩
instance : TS 89 (.int .u64 0) := ⟨_, _, A5c, rfl⟩
instance : TS 124 .nilFunc := ⟨_, _, A9q, rfl⟩
instance : TG 155 2 (.agg #[(.int .i64 0), (.int .i64 0)]) := ⟨_, _, A1s, rfl⟩
instance : TG 158 2 (.agg #[(.int .i64 0), (.int .i64 0)]) := ⟨_, _, A5C, rfl⟩
instance : TG 160 6 (.agg #[(.int .i64 0), (.int .i64 0), (.int .i64 0), (.int .i64 0), (.bool false), (.int .i64 0)]) := ⟨_, _, A3s, rfl⟩
instance : TS 165 .nilIface := ⟨_, _, B23, rfl⟩
instance : TS 192 (.slice none 0 0) := ⟨_, _, A9D, rfl⟩
instance : TS 193 (.slice none 0 0) := ⟨_, _, A9l, rfl⟩
instance : SL 193 290 2 16 (.agg #[(.int .u64 0), (.int .i64 0)]) := ⟨⟨_, _, _, A9l⟩, ⟨_, A6n⟩, rfl⟩
instance : TG 195 2 (.agg #[(.slice none 0 0), (.slice none 0 0)]) := ⟨_, _, A0a, rfl⟩
instance : TG 200 2 (.agg #[(.int .i64 0), (.int .i64 0)]) := ⟨_, _, w6, rfl⟩
instance : SL 228 124 1 8 .nilFunc := ⟨⟨_, _, _, A9S⟩, ⟨_, A9q⟩, rfl⟩
instance : TS 229 (.slice none 0 0) := ⟨_, _, A4w, rfl⟩
instance : SL 229 266 1 16 .nilIface := ⟨⟨_, _, _, A4w⟩, ⟨_, A9B⟩, rfl⟩
instance : SL 259 158 2 16 (.agg #[(.int .i64 0), (.int .i64 0)]) := ⟨⟨_, _, _, A9m⟩, ⟨_, A5C⟩, rfl⟩
instance : TG 263 0 (.agg #[]) := ⟨_, _, A3m, rfl⟩
instance : TS 266 .nilIface := ⟨_, _, A9B, rfl⟩
instance : TS 279 (.slice none 0 0) := ⟨_, _, A9Q, rfl⟩
instance : TS 281 (.slice none 0 0) := ⟨_, _, A6r, rfl⟩
instance : SL 281 284 2 16 (.agg #[(.int .u64 0), (.int .i64 0)]) := ⟨⟨_, _, _, A6r⟩, ⟨_, A2L⟩, rfl⟩
instance : TG 284 2 (.agg #[(.int .u64 0), (.int .i64 0)]) := ⟨_, _, A2L, rfl⟩
instance : TS 301 (.slice none 0 0) := ⟨_, _, A6w, rfl⟩
instance : SL 301 5 1 1 (.int .u8 0) := ⟨⟨_, _, _, A6w⟩, ⟨_, ty5⟩, rfl⟩
instance : TS 368 .nilFunc := ⟨_, _, B5d, rfl⟩
instance : TS 370 (.int .u64 0) := ⟨_, _, B28, rfl⟩
@[simp] theorem B5f (a : Option Addr) (x y : Operand) (K : Value → WP) : A6 PR (G0 .eql 131 x y (.pointer a) (.pointer none)) K = K (.bool a.isNone) := funext fun w => A9w a x y K w
@[simp] theorem B7U (a0 b0 : Int) (a1 b1 : Int) (x y : Operand) (K : Value → WP) : A6 PR (G0 .eql 200 x y (.agg #[.int .i64 a0, .int .i64 a1]) (.agg #[.int .i64 b0, .int .i64 b1])) K = K (.bool (decide (a0 = b0) && (decide (a1 = b1) && true))) := funext fun w => B0L a0 b0 a1 b1 x y K w
@[simp] theorem B8G (a : Option Addr) (x y : Operand) (K : Value → WP) : A6 PR (G0 .eql 26 x y (.pointer a) (.pointer none)) K = K (.bool a.isNone) := funext fun w => B0U a x y K w
@[simp] theorem B8Y (a0 b0 : Bool) (a1 b1 : Bool) (a2 b2 : Bool) (x y : Operand) (K : Value → WP) : A6 PR (G0 .eql 42 x y (.agg #[.bool a0, .bool a1, .bool a2]) (.agg #[.bool b0, .bool b1, .bool b2])) K = K (.bool ((a0 == b0) && ((a1 == b1) && ((a2 == b2) && true)))) := funext fun w => B2n a0 b0 a1 b1 a2 b2 x y K w
@[simp] theorem B8a (a0 b0 : Int) (a1 b1 : Int) (a2 b2 : Bool) (a3 b3 : Int) (x y : Operand) (K : Value → WP) : A6 PR (G0 .eql 55 x y (.agg #[.int .i64 a0, .int .i64 a1, .bool a2, .int .i64 a3]) (.agg #[.int .i64 b0, .int .i64 b1, .bool b2, .int .i64 b3])) K = K (.bool (decide (a0 = b0) && (decide (a1 = b1) && ((a2 == b2) && (decide (a3 = b3) && true))))) := funext fun w => B2f a0 b0 a1 b1 a2 b2 a3 b3 x y K w
@[simp] theorem B66 (a : Option Addr) (x y : Operand) (K : Value → WP) : A6 PR (G0 .eql 61 x y (.pointer a) (.pointer none)) K = K (.bool a.isNone) := funext fun w => A98 a x y K w
@[simp] theorem B59 (a : Option Addr) (x y : Operand) (K : Value → WP) : A6 PR (G0 .neq 131 x y (.pointer a) (.pointer none)) K = K (.bool (!a.isNone)) := funext fun w => A9A a x y K w
@[simp] theorem B7w (a : Option Addr) (x y : Operand) (K : Value → WP) : A6 PR (G0 .neq 26 x y (.pointer a) (.pointer none)) K = K (.bool (!a.isNone)) := funext fun w => B1K a x y K w
@[simp] theorem B78 (a : Option Addr) (x y : Operand) (K : Value → WP) : A6 PR (G0 .neq 33 x y (.pointer a) (.pointer none)) K = K (.bool (!a.isNone)) := funext fun w => B0Z a x y K w
@[simp] theorem B7P (a : Option Addr) (x y : Operand) (K : Value → WP) : A6 PR (G0 .neq 34 x y (.pointer a) (.pointer none)) K = K (.bool (!a.isNone)) := funext fun w => B0Q a x y K w
@[simp] theorem B7d (a : Option Addr) (x y : Operand) (K : Value → WP) : A6 PR (G0 .neq 35 x y (.pointer a) (.pointer none)) K = K (.bool (!a.isNone)) := funext fun w => A93 a x y K w
end Go.Proofs.YtjobgnabneddjaaGreat
namespace Go.Proofs.YtjobgnabneddjaaGreat
open Go
def A9n (n i : Nat) : List Value := [.int .i64 (i : Int), .int .u64 (8 * ((n : Int) - 1 - i))]
abbrev B0H (b : Nat) : Value := .func (.func 243) #[] #[.pointer (some ⟨b, 0, none⟩)]
theorem B2y (w : World) (n : Int) : Fn PR B7 199 #[.int .i64 n] w (Rn [] w (fun b v => v = B0H b) fun b => [.pt b (.cells #[.int .i64 n] 3)]) := by
 refine A51 (TW.go (κ := false) (S := []) ?_)
 unfold A1b
 (have zz:=trivial;repeat((first|clear zz|with_reducible first|refine A2 ?_|refine A5 fun _=>?_|refine A4 fun _=>?_);try simp(disch:=first|omega|assumption|((repeat(first|exact A1|exact uH|apply A3|apply uT));first|done|fail)|(simp;first|done|omega|fail))[]))
 rename_i b
 exact A2p b rfl (by simp)
theorem B2p (b : Nat) {n : Nat} (hn : n ≤ 8) : A4e (B0H b) [.pt b (.cells #[.int .i64 (n : Int)] 3)] (fun _ _ => True) ((List.range n).map (A9n n)) := by
 refine ⟨_, _, _, rfl, fun l J E hJ hE stJ stE hy w0 h0 => ?_⟩
 refine A3u (A3v (TW.at (κ := true) ?_ (hJ _ _ _ h0).1))
 unfold u4
 (have zz:=trivial;repeat((first|clear zz|with_reducible first|refine A2 ?_|refine A5 fun _=>?_|refine A4 fun _=>?_);try simp(disch:=first|omega|assumption|((repeat(first|exact A1|exact uH|apply A3|apply uT));first|done|fail)|(simp;first|done|omega|fail))[]))
 refine A2q n (fun i => i) (fun _ => _) hJ stJ h0 fun i a hi hJi _ L hL => ?_
 by_cases hlt : i < n
 ·(have zz:=trivial;repeat((first|clear zz|with_reducible first|refine A2 ?_|refine A5 fun _=>?_|refine A4 fun _=>?_);try simp(disch:=first|omega|assumption|((repeat(first|exact A1|exact uH|apply A3|apply uT));first|done|fail)|(simp;first|done|omega|fail))[hlt]))
  refine A6u hJ hE stJ hy hJi (by simpa using hlt) (by simp [A9n]) (fun w3 h => ?_) (fun w3 h => ?_)
  ·(have zz:=trivial;repeat((first|clear zz|with_reducible first|refine A2 ?_|refine A5 fun _=>?_|refine A4 fun _=>?_);try simp(disch:=first|omega|assumption|((repeat(first|exact A1|exact uH|apply A3|apply uT));first|done|fail)|(simp;first|done|omega|fail))[]))
   exact fun w' hw' => hL hlt w' (stJ _ _ _ _ _ h hw')
  ·(have zz:=trivial;repeat((first|clear zz|with_reducible first|refine A2 ?_|refine A5 fun _=>?_|refine A4 fun _=>?_);try simp(disch:=first|omega|assumption|((repeat(first|exact A1|exact uH|apply A3|apply uT));first|done|fail)|(simp;first|done|omega|fail))[]))
   exact A41 stE h
 ·obtain rfl : i = n := by omega
  (have zz:=trivial;repeat((first|clear zz|with_reducible first|refine A2 ?_|refine A5 fun _=>?_|refine A4 fun _=>?_);try simp(disch:=first|omega|assumption|((repeat(first|exact A1|exact uH|apply A3|apply uT));first|done|fail)|(simp;first|done|omega|fail))[]))
  exact A46 stJ (by simpa using hJi)
def j6 (s : ByteArray) (i : Nat) : Nat := (s.data.getD i 0).toNat
def beV (s : ByteArray) (a : Nat) : Nat → Nat
 | 0 => 0
 | i + 1 => beV s a i * 256 + j6 s (a + i)
theorem A97 (s : ByteArray) (i : Nat) : j6 s i < 256 := (s.data.getD i 0).toNat_lt
theorem B2T {s : ByteArray} {i : Nat} (h : i < s.size) : ∃ b : UInt8, s[i]? = some b ∧ b.toNat = j6 s i := by
 refine ⟨s[i], by simp [h], ?_⟩
 have h' : i < s.data.size := h
 have e : s.data.getD i 0 = s[i] := by rw [Array.getD_eq_getD_getElem?, Array.getElem?_eq_getElem h']; rfl
 rw [j6, e]
def A6v (v : Int) (n i : Nat) : Int := IntKind.u8.wrap (v.fdiv (2 ^ min (8 * ((n : Int) - 1 - i)).toNat IntKind.u64.bits))
def c6 (v : Int) (n i : Nat) : List Int := (List.range n).map fun j => if j < i then A6v v n j else 0
def A3B (v n : Int) : ByteArray := if 1 ≤ n ∧ n ≤ 8 then x5 (c6 v n.toNat n.toNat) else ByteArray.mk #[]
theorem B19 (v : Int) {n i : Nat} (h : i < n) : (c6 v n i).set i (A6v v n i) = c6 v n (i + 1) := by
 apply List.ext_getElem (by simp [c6])
 intro j h1 h2
 simp only [c6, List.length_set, List.length_map, List.length_range] at h1
 rw [List.getElem_set]
 simp only [c6, List.getElem_map, List.getElem_range]
 by_cases hij : i = j
 ·subst hij; simp
 ·by_cases hj : j < i
  ·simp [hij, hj, Nat.lt_succ_of_lt hj]
  ·have : ¬ j < i + 1 := by omega
   simp [hij, hj, this]
def A0j (v : Int) (n i : Nat) : Array Value := ((c6 v n i).map (Value.int .u8)).toArray
theorem A90 (v : Int) {m : Nat} (h : m ≤ 8) : Builtin.zeroCells (Value.int .u8 0).cells m = A0j v m 0 := by
 have : m = 0 ∨ m = 1 ∨ m = 2 ∨ m = 3 ∨ m = 4 ∨ m = 5 ∨ m = 6 ∨ m = 7 ∨ m = 8 := by omega
 rcases this with rfl | rfl | rfl | rfl | rfl | rfl | rfl | rfl | rfl <;>
  (apply Array.ext'; simp [Builtin.zeroCells, A0j, c6, List.range, List.range.loop])
@[simp] theorem B7r {v n : Int} (h1 : 1 ≤ n) (h2 : n ≤ 8) : (A3B v n).size = n.toNat := by simp [A3B, h1, h2, c6]
theorem A6y (w : World) (v n : Int) :
  Fn PR B7 176 #[.int .u64 v, .int .i64 n] w (fun u w' => u = .string (A3B v n) ∧ C4 [] w w') := by
 refine Fn.pure (A7a (TW.go (κ := false) (S := []) ?_))
 unfold A3W
 by_cases hok : 1 ≤ n ∧ n ≤ 8
 case neg =>
  have hv : A3B v n = ByteArray.mk #[] := if_neg hok
  rw [hv]
  by_cases h1 : n < 1
  ·(have zz:=trivial;repeat((first|clear zz|with_reducible first|refine A2 ?_|refine A5 fun _=>?_|refine A4 fun _=>?_);try simp(disch:=first|omega|assumption|((repeat(first|exact A1|exact uH|apply A3|apply uT));first|done|fail)|(simp;first|done|omega|fail))[h1])); exact C1 rfl
  ·have h2 : 8 < n := by omega
   (have zz:=trivial;repeat((first|clear zz|with_reducible first|refine A2 ?_|refine A5 fun _=>?_|refine A4 fun _=>?_);try simp(disch:=first|omega|assumption|((repeat(first|exact A1|exact uH|apply A3|apply uT));first|done|fail)|(simp;first|done|omega|fail))[h1, h2])); exact C1 rfl
 have hv : A3B v n = x5 (c6 v n.toNat n.toNat) := if_pos hok
 rw [hv]
 obtain ⟨m, rfl⟩ : ∃ m : Nat, n = m := ⟨n.toNat, by omega⟩
 have h1 : ¬ (m : Int) < 1 := by omega
 have h2 : ¬ 8 < (m : Int) := by omega
 (have zz:=trivial;repeat((first|clear zz|with_reducible first|refine A2 ?_|refine A5 fun _=>?_|refine A4 fun _=>?_);try simp(disch:=first|omega|assumption|((repeat(first|exact A1|exact uH|apply A3|apply uT));first|done|fail)|(simp;first|done|omega|fail))[h1, h2]))
 refine A2H (by omega) (by omega) (by omega) (by omega) fun bs => ?_
 rw [Int.toNat_natCast, A90 v (by omega)]
 (have zz:=trivial;repeat((first|clear zz|with_reducible first|refine A2 ?_|refine A5 fun _=>?_|refine A4 fun _=>?_);try simp(disch:=first|omega|assumption|((repeat(first|exact A1|exact uH|apply A3|apply uT));first|done|fail)|(simp;first|done|omega|fail))[h1, h2]))
 rename_i bv bb
 refine W9 A5G (fun w' _ => B2y w' m) ?_
 rintro b v rfl
 refine A6p (B2p b (n := m) (by omega)) (by simp [A9n]) (fun _ (_ : Unit) => True) (fun i _ => [.pt bb (.cells #[.slice (some ⟨bs, 0, none⟩) m m] 301),
   .own 5 1 (.slice (some ⟨bs, 0, none⟩) m m) m (A0j v m i).toList, .pt bv (.cells #[.int .u64 v] 89)])
  (fun _ (_ : Unit) => False) (fun _ => []) () trivial ?_ ?_ ?_ ?_ (by simp)
 ·intros; trivial
 ·rintro i hi _ F _ K' hK _
  have hi' : i < m := by simpa using hi
  have hsh : (0 : Int) ≤ 8 * ((m : Int) - 1 - i) := by omega
  simp only [List.getElem_map, List.getElem_range, A9n, VF.app]
  (have zz:=trivial;repeat((first|clear zz|with_reducible first|refine A2 ?_|refine A5 fun _=>?_|refine A4 fun _=>?_);try simp(disch:=first|omega|assumption|((repeat(first|exact A1|exact uH|apply A3|apply uT));first|done|fail)|(simp;first|done|omega|fail))[]))
  refine y6 (by (repeat constructor)) (by simp) (by simp [A0j, c6]; omega) (by simp) ?_
  refine TW.eqH ?_ (hK () trivial)
  have e : b9 (A0j v m i).toList i [.int .u8 (A6v v m i)] = (A0j v m (i + 1)).toList := by
   rw [B1V (by simp [A0j, c6]; omega)]; simp [A0j, ← B19 v hi', List.map_set]
  rw [← e]; simp [A6v]
 ·rintro _ _
  (have zz:=trivial;repeat((first|clear zz|with_reducible first|refine A2 ?_|refine A5 fun _=>?_|refine A4 fun _=>?_);try simp(disch:=first|omega|assumption|((repeat(first|exact A1|exact uH|apply A3|apply uT));first|done|fail)|(simp;first|done|omega|fail))[]))
  have hlen : (c6 v m m).length = m := by simp [c6]
  have := fun w' K (hr : K7 w' bs 0 ((c6 v m m).map (Value.int .u8))) => @A8M K w' bs 0 m _ hr
  rw [hlen] at this
  rw [B6u fun w' hw' => this w' _ (by simpa [A0j] using hw'.ownr (e := 5) (k := 1) (q := m) (c := m) (xs := (A0j v m m).toList) (by (repeat constructor)))]
  simp only [B6w]
  exact C1 rfl
 ·rintro _ _ h; exact h.elim
end Go.Proofs.YtjobgnabneddjaaGreat
