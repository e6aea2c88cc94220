/- The proof of a given statement, a part of it (ShFlows ShProbe ShPacket ShPort). No condition but what each lemma says. -/
import Derived.Test.YtggakcpabomliaaGreatD8
set_option linter.unusedVariables false
set_option linter.unusedSimpArgs false
namespace Go.Proofs.YtggakcpabomliaaGreat
open Go
def sh_flows_New (X : Nat → Prop) (t0 : Value) (R : Value → WP) : WP :=
  pur PR (builtinS .min #[3, 3] 0 [t0, (.int .i64 64)]) fun t4 =>
  pur PR (builtinS .max #[3, 3] 0 [(.int .i64 0), t4]) fun t5 =>
  lou PR X (Instr.makeSlice 50 t5 t5) fun t6 =>
  R t6
theorem sh_flows_New_eq (X : Nat → Prop) (t0 : Value) (R : Value → WP) : vcFun PR X Tryz.f57 [t0] R = sh_flows_New X t0 R := by kernel_rfl
theorem ent_flows_New : Enters PR 57 := enters_of Tryz.func57 (by kernel_rfl) rfl
theorem mk_flows_New {X : Nat → Prop} {t0 : Value} {R : Value → WP} {w : World} (h : sh_flows_New X t0 R w) : Fn PR X 57 #[t0] w R := fn_of_vc (args := [t0]) mixed Tryz.func57 (by rw [sh_flows_New_eq]; exact h)
def sh_flows_Delete (X : Nat → Prop) (t0 t1 : Value) (R : Value → WP) : WP :=
  lou PR X (Instr.box 9 t1) fun t3 =>
  pur PR (Instr.makeFunc (.func 115) #[] #[t3]) fun t10 =>
  cal PR X 114 [t0, t10] fun t11 =>
  pur PR (Instr.extract t11 0) fun t12 =>
  pur PR (Instr.extract t11 1) fun t13 =>
  jn (n := 1) (fun t6 =>
  R (.tuple #[t6, t13])) fun J1 =>
  gj t13 true (fun J => J t12) fun t16 =>
  gj t13 true (fun J => cal PR X 116 [t16, (.int .i64 2)] J) fun t17 =>
  gj t13 true (fun J => pur PR (binOp .mul 3 (.int .i64 2) t17) J) fun t18 =>
  gj t13 true (fun J => J t12) fun t19 =>
  gj t13 true (fun J => pur PR (builtinS .len #[50] 0 [t19]) J) fun t20 =>
  gj t13 true (fun J => pur PR (binOp .gtr 3 t18 t20) J) fun t21 =>
  pur PR (do pure (if ← asBool t13 then t21 else (.bool false))) fun t22 =>
  cnd t22 (
  cal PR X 117 [t12] fun t24 =>
  J1 t24) (
  J1 t12)
theorem sh_flows_Delete_eq (X : Nat → Prop) (t0 t1 : Value) (R : Value → WP) : vcFun PR X Tryz.f73 [t0, t1] R = sh_flows_Delete X t0 t1 R := by kernel_rfl
theorem ent_flows_Delete : Enters PR 73 := enters_of Tryz.func73 (by kernel_rfl) rfl
theorem mk_flows_Delete {X : Nat → Prop} {t0 t1 : Value} {R : Value → WP} {w : World} (h : sh_flows_Delete X t0 t1 R w) : Fn PR X 73 #[t0, t1] w R := fn_of_vc (args := [t0, t1]) mixed Tryz.func73 (by rw [sh_flows_Delete_eq]; exact h)
def sh_flows_Put (X : Nat → Prop) (t0 t1 t2 t3 : Value) (R : Value → WP) : WP :=
  pur PR (Instr.build 71 #[(0, (.int .i64 1)), (1, t1), (2, t2), (3, t3)]) fun t16 =>
  lou PR X (Instr.alloc 71 true (.tuple #[])) fun t10 =>
  sto PR X (Instr.storeAt 71 t10 t16) <|
  pur PR (Instr.makeFunc (.func 118) #[] #[t10]) fun t19 =>
  cal PR X 114 [t0, t19] fun t20 =>
  pur PR (Instr.extract t20 0) fun t21 =>
  pur PR (Instr.extract t20 1) fun t22 =>
  jn (n := 2) (fun t8 t9 =>
  R (.tuple #[t21, (.int .i64 0)])) fun J1 =>
  pur PR (Op.unary .not t22) fun t24 =>
  cnd t24 (
  R (.tuple #[t21, (.int .i64 12)])) (
  J1 (.slice none 0 0) (.int .i64 0))
theorem sh_flows_Put_eq (X : Nat → Prop) (t0 t1 t2 t3 : Value) (R : Value → WP) : vcFun PR X Tryz.f74 [t0, t1, t2, t3] R = sh_flows_Put X t0 t1 t2 t3 R := by kernel_rfl
theorem ent_flows_Put : Enters PR 74 := enters_of Tryz.func74 (by kernel_rfl) rfl
theorem mk_flows_Put {X : Nat → Prop} {t0 t1 t2 t3 : Value} {R : Value → WP} {w : World} (h : sh_flows_Put X t0 t1 t2 t3 R w) : Fn PR X 74 #[t0, t1, t2, t3] w R := fn_of_vc (args := [t0, t1, t2, t3]) mixed Tryz.func74 (by rw [sh_flows_Put_eq]; exact h)
def sh_flows_table_live (X : Nat → Prop) (t0 : Value) (R : Value → WP) : WP :=
  lou PR X (Instr.box 136 t0) fun t1 =>
  pur PR (Instr.makeFunc (.func 126) #[] #[t1]) fun t3 =>
  R t3
theorem sh_flows_table_live_eq (X : Nat → Prop) (t0 : Value) (R : Value → WP) : vcFun PR X Tryz.f81 [t0] R = sh_flows_table_live X t0 R := by kernel_rfl
theorem ent_flows_table_live : Enters PR 81 := enters_of Tryz.func81 (by kernel_rfl) rfl
theorem mk_flows_table_live {X : Nat → Prop} {t0 : Value} {R : Value → WP} {w : World} (h : sh_flows_table_live X t0 R w) : Fn PR X 81 #[t0] w R := fn_of_vc (args := [t0]) mixed Tryz.func81 (by rw [sh_flows_table_live_eq]; exact h)
def sh_flows_changed (X : Nat → Prop) (t0 t1 : Value) (R : Value → WP) : WP :=
  cal PR X 71 [t0] fun t8 =>
  jn (n := 2) (fun t4 t5 =>
  R (.tuple #[t8, (.bool true)])) fun J1 =>
  cav PR X t1 [t8] fun t11 =>
  pur PR (Op.unary .not t11) fun t12 =>
  cnd t12 (
  R (.tuple #[t0, (.bool false)])) (
  J1 (.slice none 0 0) (.bool false))
theorem sh_flows_changed_eq (X : Nat → Prop) (t0 t1 : Value) (R : Value → WP) : vcFun PR X Tryz.f114 [t0, t1] R = sh_flows_changed X t0 t1 R := by kernel_rfl
theorem ent_flows_changed : Enters PR 114 := enters_of Tryz.func114 (by kernel_rfl) rfl
theorem mk_flows_changed {X : Nat → Prop} {t0 t1 : Value} {R : Value → WP} {w : World} (h : sh_flows_changed X t0 t1 R w) : Fn PR X 114 #[t0, t1] w R := fn_of_vc (args := [t0, t1]) mixed Tryz.func114 (by rw [sh_flows_changed_eq]; exact h)
def sh_flows_Delete_c1 (X : Nat → Prop) (t0 t1 : Value) (R : Value → WP) : WP :=
  rds PR (Instr.loadAt 9 t1) fun t6 =>
  cal PR X 35 [t0, t6] fun t7 =>
  jn (n := 1) (fun t3 =>
  pur PR (Instr.build 71 #[(0, (.int .i64 2))]) fun t12 =>
  pur PR (Instr.indexAt 136 t0 t7) fun t13 =>
  sto PR X (Instr.storeAt 71 t13 t12) <|
  R (.bool true)) fun J1 =>
  pur PR (binOp .lss 3 t7 (.int .i64 0)) fun t9 =>
  cnd t9 (
  R (.bool false)) (
  J1 (.bool false))
theorem sh_flows_Delete_c1_eq (X : Nat → Prop) (t0 t1 : Value) (R : Value → WP) : vcFun PR X Tryz.f115 [t0, t1] R = sh_flows_Delete_c1 X t0 t1 R := by kernel_rfl
theorem ent_flows_Delete_c1 : Enters PR 115 := enters_of Tryz.func115 (by kernel_rfl) rfl
theorem mk_flows_Delete_c1 {X : Nat → Prop} {t0 t1 : Value} {R : Value → WP} {w : World} (h : sh_flows_Delete_c1 X t0 t1 R w) : Fn PR X 115 #[t0, t1] w R := fn_of_vc (args := [t0, t1]) mixed Tryz.func115 (by rw [sh_flows_Delete_c1_eq]; exact h)
def sh_flows_Tidy (X : Nat → Prop) (t0 : Value) (R : Value → WP) : WP :=
  pur PR (builtinS .len #[50] 0 [t0]) fun t7 =>
  cal PR X 57 [t7] fun t8 =>
  lou PR X (Instr.alloc 136 true (.tuple #[])) fun t3 =>
  sto PR X (Instr.storeAt 136 t3 t8) <|
  jn (n := 0) (
  rds PR (Instr.loadAt 136 t3) fun t16 =>
  unw (R t16)) fun J1 =>
  cal PR X 81 [t0] fun t10 =>
  rng (N := 2) PR X (fun t11 t12 K2 =>
  lou PR (fun _ => False) (Instr.alloc 71 true (.tuple #[])) fun t5 =>
  sto PR (fun _ => False) (Instr.storeAt 71 t5 t12) <|
  bgn <|
  rds PR (Instr.loadAt 136 t3) fun t13 =>
  rds PR (Instr.loadAt 71 t5) fun t14 =>
  cal PR (fun _ => False) 119 [t13, t14] fun t15 =>
  K2 none) t10 (fun j => match j with | none => (J1) | some (.exit i) => (match Nat.beq i 0 with | true => (J1) | false => (nowp)) | some .ret => (unw (R (.slice none 0 0))) | some _ => nowp)
theorem sh_flows_Tidy_eq (X : Nat → Prop) (t0 : Value) (R : Value → WP) : vcFun PR X Tryz.f117 [t0] R = sh_flows_Tidy X t0 R := by kernel_rfl
theorem ent_flows_Tidy : Enters PR 117 := enters_of Tryz.func117 (by kernel_rfl) rfl
theorem mk_flows_Tidy {X : Nat → Prop} {t0 : Value} {R : Value → WP} {w : World} (h : sh_flows_Tidy X t0 R w) : Fn PR X 117 #[t0] w R := fn_of_vc (args := [t0]) mixed Tryz.func117 (by rw [sh_flows_Tidy_eq]; exact h)
def sh_flows_Put_c1 (X : Nat → Prop) (t0 t1 : Value) (R : Value → WP) : WP :=
  rds PR (Instr.loadAt 71 t1) fun t5 =>
  cal PR X 119 [t0, t5] fun t6 =>
  R t6
theorem sh_flows_Put_c1_eq (X : Nat → Prop) (t0 t1 : Value) (R : Value → WP) : vcFun PR X Tryz.f118 [t0, t1] R = sh_flows_Put_c1 X t0 t1 R := by kernel_rfl
theorem ent_flows_Put_c1 : Enters PR 118 := enters_of Tryz.func118 (by kernel_rfl) rfl
theorem mk_flows_Put_c1 {X : Nat → Prop} {t0 t1 : Value} {R : Value → WP} {w : World} (h : sh_flows_Put_c1 X t0 t1 R w) : Fn PR X 118 #[t0, t1] w R := fn_of_vc (args := [t0, t1]) mixed Tryz.func118 (by rw [sh_flows_Put_c1_eq]; exact h)
def sh_flows_table_put (X : Nat → Prop) (t0 t1 : Value) (R : Value → WP) : WP :=
  lou PR X (Instr.box 71 t1) fun t3 =>
  pur PR (Instr.fieldAt 71 t3 1) fun t7 =>
  rds PR (Instr.loadAt 9 t7) fun t8 =>
  cal PR X 35 [t0, t8] fun t9 =>
  jn (n := 1) (fun t5 =>
  jn (n := 1) (fun t4 =>
  rds PR (Instr.loadAt 71 t3) fun t20 =>
  pur PR (Instr.indexAt 136 t0 t5) fun t21 =>
  sto PR X (Instr.storeAt 71 t21 t20) <|
  R (.bool true)) fun J1 =>
  pur PR (binOp .lss 3 t5 (.int .i64 0)) fun t17 =>
  cnd t17 (
  R (.bool false)) (
  J1 (.bool false))) fun J2 =>
  pur PR (binOp .lss 3 t9 (.int .i64 0)) fun t11 =>
  cnd t11 (
  pur PR (Instr.fieldAt 71 t3 1) fun t13 =>
  rds PR (Instr.loadAt 9 t13) fun t14 =>
  cal PR X 164 [t0, t14] fun t15 =>
  J2 t15) (
  J2 t9)
theorem sh_flows_table_put_eq (X : Nat → Prop) (t0 t1 : Value) (R : Value → WP) : vcFun PR X Tryz.f119 [t0, t1] R = sh_flows_table_put X t0 t1 R := by kernel_rfl
theorem ent_flows_table_put : Enters PR 119 := enters_of Tryz.func119 (by kernel_rfl) rfl
theorem mk_flows_table_put {X : Nat → Prop} {t0 t1 : Value} {R : Value → WP} {w : World} (h : sh_flows_table_put X t0 t1 R w) : Fn PR X 119 #[t0, t1] w R := fn_of_vc (args := [t0, t1]) mixed Tryz.func119 (by rw [sh_flows_table_put_eq]; exact h)
def sh_flows_table_live_c1 (X : Nat → Prop) (t0 t1 : Value) (R : Value → WP) : WP :=
  rds PR (Instr.loadAt 136 t1) fun t5 =>
  pur PR (builtinS .len #[136] 0 [t5]) fun t6 =>
  lp (n := 1) (fun L1 t7 =>
  pur PR (binOp .lss 3 t7 t6) fun t8 =>
  jn (n := 0) (
  jn (n := 0) (
  pur PR (binOp .add 3 t7 (.int .i64 1)) fun t22 =>
  L1 t22) fun J2 =>
  pur PR (Instr.indexAt 136 t5 t7) fun t10 =>
  rds PR (Instr.loadAt 71 t10) fun t11 =>
  lou PR X (Instr.alloc 71 true (.tuple #[])) fun t4 =>
  sto PR X (Instr.storeAt 71 t4 t11) <|
  pur PR (Instr.fieldAt 71 t4 0) fun t12 =>
  rds PR (Instr.loadAt 3 t12) fun t13 =>
  pur PR (binOp .eql 3 t13 (.int .i64 1)) fun t14 =>
  gj t14 true (fun J => J t0) fun t16 =>
  gj t14 true (fun J => J t7) fun t17 =>
  gj t14 true (fun J => rds PR (Instr.loadAt 71 t4) J) fun t18 =>
  gj t14 true (fun J => cav PR X t16 [t17, t18] J) fun t19 =>
  gj t14 true (fun J => pur PR (Op.unary .not t19) J) fun t20 =>
  pur PR (do pure (if ← asBool t14 then t20 else (.bool false))) fun t21 =>
  cnd t21 (
  R (.tuple #[])) (
  J2)) fun J3 =>
  cnd t8 (
  J3) (
  R (.tuple #[]))) (.int .i64 0)
theorem sh_flows_table_live_c1_eq (X : Nat → Prop) (t0 t1 : Value) (R : Value → WP) : vcFun PR X Tryz.f126 [t0, t1] R = sh_flows_table_live_c1 X t0 t1 R := by kernel_rfl
theorem ent_flows_table_live_c1 : Enters PR 126 := enters_of Tryz.func126 (by kernel_rfl) rfl
theorem mk_flows_table_live_c1 {X : Nat → Prop} {t0 t1 : Value} {R : Value → WP} {w : World} (h : sh_flows_table_live_c1 X t0 t1 R w) : Fn PR X 126 #[t0, t1] w R := fn_of_vc (args := [t0, t1]) mixed Tryz.func126 (by rw [sh_flows_table_live_c1_eq]; exact h)
theorem ce_flows_table_live_c1 {X : Nat → Prop} {t0 t1 : Value} {K : Value → WP} {w : World} (h : Fn PR X 126 #[t0, t1] w K) : calE PR X 126 [t0, t1] K w := ⟨ent_flows_table_live_c1, h⟩
end Go.Proofs.YtggakcpabomliaaGreat
namespace Go.Proofs.YtggakcpabomliaaGreat
open Go
def sh_probe_Find (X : Nat → Prop) (t0 t1 : Value) (R : Value → WP) : WP :=
  lou PR X (Instr.box 9 t1) fun t3 =>
  lou PR X (Instr.alloc 3 true (.tuple #[])) fun t5 =>
  sto PR X (Instr.storeAt 3 t5 (.int .i64 (-1))) <|
  jn (n := 0) (
  rds PR (Instr.loadAt 3 t5) fun t28 =>
  unw (R t28)) fun J1 =>
  rds PR (Instr.loadAt 9 t3) fun t9 =>
  cal PR X 84 [t0, t9] fun t10 =>
  rng (N := 2) PR X (fun t11 t12 K2 =>
  lou PR (fun _ => False) (Instr.alloc 71 true (.tuple #[])) fun t7 =>
  sto PR (fun _ => False) (Instr.storeAt 71 t7 t12) <|
  bgn <|
  pur PR (Instr.fieldAt 71 t7 0) fun t14 =>
  rds PR (Instr.loadAt 3 t14) fun t15 =>
  pur PR (binOp .eql 3 t15 (.int .i64 0)) fun t16 =>
  cnd t16 (
  K2 (some (.exit 0))) (
  pur PR (Instr.fieldAt 71 t7 0) fun t18 =>
  rds PR (Instr.loadAt 3 t18) fun t19 =>
  pur PR (binOp .eql 3 t19 (.int .i64 1)) fun t20 =>
  gj t20 true (fun J => pur PR (Instr.fieldAt 71 t7 1) J) fun t22 =>
  gj t20 true (fun J => rds PR (Instr.loadAt 9 t22) J) fun t23 =>
  gj t20 true (fun J => rds PR (Instr.loadAt 9 t3) J) fun t24 =>
  gj t20 true (fun J => pur PR (binOp .eql 9 t23 t24) J) fun t25 =>
  pur PR (do pure (if ← asBool t20 then t25 else (.bool false))) fun t26 =>
  cnd t26 (
  sto PR (fun _ => False) (Instr.storeAt 3 t5 t11) <|
  K2 (some (.exit 0))) (
  K2 none))) t10 (fun j => match j with | none => (J1) | some (.exit i) => (match Nat.beq i 0 with | true => (J1) | false => (nowp)) | some .ret => (unw (R (.int .i64 0))) | some _ => nowp)
theorem sh_probe_Find_eq (X : Nat → Prop) (t0 t1 : Value) (R : Value → WP) : vcFun PR X Tryz.f35 [t0, t1] R = sh_probe_Find X t0 t1 R := by kernel_rfl
theorem ent_probe_Find : Enters PR 35 := enters_of Tryz.func35 (by kernel_rfl) rfl
theorem mk_probe_Find {X : Nat → Prop} {t0 t1 : Value} {R : Value → WP} {w : World} (h : sh_probe_Find X t0 t1 R w) : Fn PR X 35 #[t0, t1] w R := fn_of_vc (args := [t0, t1]) mixed Tryz.func35 (by rw [sh_probe_Find_eq]; exact h)
def sh_probe_way (X : Nat → Prop) (t0 t1 : Value) (R : Value → WP) : WP :=
  lou PR X (Instr.box 50 t0) fun t2 =>
  lou PR X (Instr.box 9 t1) fun t3 =>
  pur PR (Instr.makeFunc (.func 131) #[] #[t3, t2]) fun t5 =>
  R t5
theorem sh_probe_way_eq (X : Nat → Prop) (t0 t1 : Value) (R : Value → WP) : vcFun PR X Tryz.f84 [t0, t1] R = sh_probe_way X t0 t1 R := by kernel_rfl
theorem ent_probe_way : Enters PR 84 := enters_of Tryz.func84 (by kernel_rfl) rfl
theorem mk_probe_way {X : Nat → Prop} {t0 t1 : Value} {R : Value → WP} {w : World} (h : sh_probe_way X t0 t1 R w) : Fn PR X 84 #[t0, t1] w R := fn_of_vc (args := [t0, t1]) mixed Tryz.func84 (by rw [sh_probe_way_eq]; exact h)
def sh_probe_Count (X : Nat → Prop) (t0 t1 : Value) (R : Value → WP) : WP :=
  lou PR X (Instr.box 3 t1) fun t3 =>
  pur PR (Instr.makeFunc (.func 163) #[] #[t3]) fun t6 =>
  cal PR X 162 [t0, t6] fun t7 =>
  R t7
theorem sh_probe_Count_eq (X : Nat → Prop) (t0 t1 : Value) (R : Value → WP) : vcFun PR X Tryz.f116 [t0, t1] R = sh_probe_Count X t0 t1 R := by kernel_rfl
theorem ent_probe_Count : Enters PR 116 := enters_of Tryz.func116 (by kernel_rfl) rfl
theorem mk_probe_Count {X : Nat → Prop} {t0 t1 : Value} {R : Value → WP} {w : World} (h : sh_probe_Count X t0 t1 R w) : Fn PR X 116 #[t0, t1] w R := fn_of_vc (args := [t0, t1]) mixed Tryz.func116 (by rw [sh_probe_Count_eq]; exact h)
def sh_probe_way_c1 (X : Nat → Prop) (t0 t1 t2 : Value) (R : Value → WP) : WP :=
  rds PR (Instr.loadAt 9 t1) fun t7 =>
  rds PR (Instr.loadAt 50 t2) fun t8 =>
  pur PR (builtinS .len #[50] 0 [t8]) fun t9 =>
  cal PR X 132 [t7, t9] fun t10 =>
  rds PR (Instr.loadAt 50 t2) fun t11 =>
  pur PR (builtinS .len #[50] 0 [t11]) fun t12 =>
  lp (n := 1) (fun L1 t13 =>
  pur PR (binOp .lss 3 t13 t12) fun t14 =>
  jn (n := 0) (
  jn (n := 0) (
  pur PR (binOp .add 3 t13 (.int .i64 1)) fun t30 =>
  L1 t30) fun J2 =>
  pur PR (binOp .add 3 t10 t13) fun t18 =>
  rds PR (Instr.loadAt 50 t2) fun t19 =>
  pur PR (builtinS .len #[50] 0 [t19]) fun t20 =>
  pur PR (binOp .rem 3 t18 t20) fun t21 =>
  rds PR (Instr.loadAt 50 t2) fun t24 =>
  pur PR (Instr.indexAt 50 t24 t21) fun t26 =>
  rds PR (Instr.loadAt 71 t26) fun t27 =>
  cav PR X t0 [t21, t27] fun t28 =>
  pur PR (Op.unary .not t28) fun t29 =>
  cnd t29 (
  R (.tuple #[])) (
  J2)) fun J3 =>
  cnd t14 (
  J3) (
  R (.tuple #[]))) (.int .i64 0)
theorem sh_probe_way_c1_eq (X : Nat → Prop) (t0 t1 t2 : Value) (R : Value → WP) : vcFun PR X Tryz.f131 [t0, t1, t2] R = sh_probe_way_c1 X t0 t1 t2 R := by kernel_rfl
theorem ent_probe_way_c1 : Enters PR 131 := enters_of Tryz.func131 (by kernel_rfl) rfl
theorem mk_probe_way_c1 {X : Nat → Prop} {t0 t1 t2 : Value} {R : Value → WP} {w : World} (h : sh_probe_way_c1 X t0 t1 t2 R w) : Fn PR X 131 #[t0, t1, t2] w R := fn_of_vc (args := [t0, t1, t2]) mixed Tryz.func131 (by rw [sh_probe_way_c1_eq]; exact h)
theorem ce_probe_way_c1 {X : Nat → Prop} {t0 t1 t2 : Value} {K : Value → WP} {w : World} (h : Fn PR X 131 #[t0, t1, t2] w K) : calE PR X 131 [t0, t1, t2] K w := ⟨ent_probe_way_c1, h⟩
def sh_probe_Home (X : Nat → Prop) (t0 t1 : Value) (R : Value → WP) : WP :=
  jn (n := 1) (fun t4 =>
  cal PR X 39 [t0] fun t8 =>
  pur PR (convert 3 68 t1) fun t10 =>
  pur PR (binOp .rem 68 t8 t10) fun t11 =>
  pur PR (convert 68 3 t11) fun t12 =>
  R t12) fun J1 =>
  pur PR (binOp .lss 3 t1 (.int .i64 1)) fun t6 =>
  cnd t6 (
  R (.int .i64 0)) (
  J1 (.int .i64 0))
theorem sh_probe_Home_eq (X : Nat → Prop) (t0 t1 : Value) (R : Value → WP) : vcFun PR X Tryz.f132 [t0, t1] R = sh_probe_Home X t0 t1 R := by kernel_rfl
theorem ent_probe_Home : Enters PR 132 := enters_of Tryz.func132 (by kernel_rfl) rfl
theorem mk_probe_Home {X : Nat → Prop} {t0 t1 : Value} {R : Value → WP} {w : World} (h : sh_probe_Home X t0 t1 R w) : Fn PR X 132 #[t0, t1] w R := fn_of_vc (args := [t0, t1]) mixed Tryz.func132 (by rw [sh_probe_Home_eq]; exact h)
def sh_probe_count_api_Entry (X : Nat → Prop) (t0 t1 : Value) (R : Value → WP) : WP :=
  jn (n := 2) (fun t5 t10 =>
  R t5) fun J1 =>
  pur PR (builtinS .len #[50] 0 [t0]) fun t9 =>
  lp (n := 2) (fun L2 t5_1 t10_1 =>
  pur PR (binOp .lss 3 t10_1 t9) fun t11 =>
  jn (n := 0) (
  jn (n := 1) (fun t5_2 =>
  pur PR (binOp .add 3 t10_1 (.int .i64 1)) fun t19 =>
  L2 t5_2 t19) fun J3 =>
  pur PR (Instr.indexAt 50 t0 t10_1) fun t12 =>
  rds PR (Instr.loadAt 71 t12) fun t13 =>
  lou PR X (Instr.alloc 71 true (.tuple #[])) fun t7 =>
  sto PR X (Instr.storeAt 71 t7 t13) <|
  rds PR (Instr.loadAt 71 t7) fun t15 =>
  cav PR X t1 [t15] fun t16 =>
  cnd t16 (
  pur PR (binOp .add 3 t5_1 (.int .i64 1)) fun t18 =>
  J3 t18) (
  J3 t5_1)) fun J4 =>
  cnd t11 (
  J4) (
  J1 t5_1 t10_1)) (.int .i64 0) (.int .i64 0)
theorem sh_probe_count_api_Entry_eq (X : Nat → Prop) (t0 t1 : Value) (R : Value → WP) : vcFun PR X Tryz.f162 [t0, t1] R = sh_probe_count_api_Entry X t0 t1 R := by kernel_rfl
theorem ent_probe_count_api_Entry : Enters PR 162 := enters_of Tryz.func162 (by kernel_rfl) rfl
theorem mk_probe_count_api_Entry {X : Nat → Prop} {t0 t1 : Value} {R : Value → WP} {w : World} (h : sh_probe_count_api_Entry X t0 t1 R w) : Fn PR X 162 #[t0, t1] w R := fn_of_vc (args := [t0, t1]) mixed Tryz.func162 (by rw [sh_probe_count_api_Entry_eq]; exact h)
def sh_probe_Count_c1 (X : Nat → Prop) (t0 t1 : Value) (R : Value → WP) : WP :=
  lou PR X (Instr.box 71 t0) fun t2 =>
  pur PR (Instr.fieldAt 71 t2 0) fun t4 =>
  rds PR (Instr.loadAt 3 t4) fun t5 =>
  rds PR (Instr.loadAt 3 t1) fun t6 =>
  pur PR (binOp .eql 3 t5 t6) fun t7 =>
  R t7
theorem sh_probe_Count_c1_eq (X : Nat → Prop) (t0 t1 : Value) (R : Value → WP) : vcFun PR X Tryz.f163 [t0, t1] R = sh_probe_Count_c1 X t0 t1 R := by kernel_rfl
theorem ent_probe_Count_c1 : Enters PR 163 := enters_of Tryz.func163 (by kernel_rfl) rfl
theorem mk_probe_Count_c1 {X : Nat → Prop} {t0 t1 : Value} {R : Value → WP} {w : World} (h : sh_probe_Count_c1 X t0 t1 R w) : Fn PR X 163 #[t0, t1] w R := fn_of_vc (args := [t0, t1]) mixed Tryz.func163 (by rw [sh_probe_Count_c1_eq]; exact h)
def sh_probe_Room (X : Nat → Prop) (t0 t1 : Value) (R : Value → WP) : WP :=
  lou PR X (Instr.alloc 3 true (.tuple #[])) fun t4 =>
  jn (n := 0) (
  jn (n := 0) (
  sto PR X (Instr.storeAt 3 t4 (.int .i64 (-1))) <|
  unw (rds PR (finS [.c 3 t4]) R)) fun J1 =>
  cal PR X 84 [t0, t1] fun t13 =>
  rng (N := 2) PR X (fun t14 t15 K2 =>
  lou PR (fun _ => False) (Instr.alloc 71 true (.tuple #[])) fun t6 =>
  sto PR (fun _ => False) (Instr.storeAt 71 t6 t15) <|
  bgn <|
  pur PR (Instr.fieldAt 71 t6 0) fun t16 =>
  rds PR (Instr.loadAt 3 t16) fun t17 =>
  pur PR (binOp .neq 3 t17 (.int .i64 1)) fun t18 =>
  cnd t18 (
  sto PR (fun _ => False) (Instr.storeAt 3 t4 t14) <|
  K2 (some .ret)) (
  K2 none)) t13 (fun j => match j with | none => (J1) | some (.exit i) => (match Nat.beq i 0 with | true => (J1) | false => (nowp)) | some .ret => (unw (rds PR (finS [.c 3 t4]) R)) | some _ => nowp)) fun J3 =>
  cal PR X 35 [t0, t1] fun t9 =>
  pur PR (binOp .geq 3 t9 (.int .i64 0)) fun t10 =>
  cnd t10 (
  sto PR X (Instr.storeAt 3 t4 (.int .i64 (-1))) <|
  unw (rds PR (finS [.c 3 t4]) R)) (
  J3)
theorem sh_probe_Room_eq (X : Nat → Prop) (t0 t1 : Value) (R : Value → WP) : vcFun PR X Tryz.f164 [t0, t1] R = sh_probe_Room X t0 t1 R := by kernel_rfl
theorem ent_probe_Room : Enters PR 164 := enters_of Tryz.func164 (by kernel_rfl) rfl
theorem mk_probe_Room {X : Nat → Prop} {t0 t1 : Value} {R : Value → WP} {w : World} (h : sh_probe_Room X t0 t1 R w) : Fn PR X 164 #[t0, t1] w R := fn_of_vc (args := [t0, t1]) mixed Tryz.func164 (by rw [sh_probe_Room_eq]; exact h)
end Go.Proofs.YtggakcpabomliaaGreat
namespace Go.Proofs.YtggakcpabomliaaGreat
open Go
def sh_packet_Put (X : Nat → Prop) (t0 : Value) (R : Value → WP) : WP :=
  lou PR X (Instr.box 101 t0) fun t1 =>
  pur PR (Instr.fieldAt 101 t1 0) fun t7 =>
  rds PR (Instr.loadAt 99 t7) fun t8 =>
  lou PR X (Instr.alloc 99 true (.tuple #[])) fun t4 =>
  sto PR X (Instr.storeAt 99 t4 t8) <|
  jn (n := 2) (fun t2 t3 =>
  pur PR (Instr.fieldAt 99 t4 5) fun t18 =>
  rds PR (Instr.loadAt 3 t18) fun t19 =>
  pur PR (Instr.fieldAt 99 t4 3) fun t20 =>
  rds PR (Instr.loadAt 3 t20) fun t21 =>
  pur PR (Instr.fieldAt 99 t4 4) fun t22 =>
  rds PR (Instr.loadAt 3 t22) fun t23 =>
  pur PR (Instr.fieldAt 101 t1 1) fun t24 =>
  rds PR (Instr.loadAt 3 t24) fun t25 =>
  pur PR (Instr.build 161 #[(0, t21), (1, t23), (2, t25)]) fun t26 =>
  cal PR X 101 [t19, t26] fun t27 =>
  pur PR (Instr.extract t27 0) fun t28 =>
  pur PR (Instr.extract t27 1) fun t29 =>
  jn (n := 2) (fun t2_1 t3_1 =>
  jn (n := 2) (fun t2_2 t3_2 =>
  pur PR (Instr.fieldAt 99 t4 1) fun t47 =>
  rds PR (Instr.loadAt 9 t47) fun t48 =>
  pur PR (Instr.fieldAt 99 t4 2) fun t49 =>
  rds PR (Instr.loadAt 9 t49) fun t50 =>
  pur PR (Instr.fieldAt 99 t4 5) fun t51 =>
  rds PR (Instr.loadAt 3 t51) fun t52 =>
  pur PR (Instr.build 166 #[(0, t48), (1, t50), (2, t52)]) fun t53 =>
  cal PR X 103 [t53, t28] fun t55 =>
  pur PR (Instr.extract t55 0) fun t56 =>
  pur PR (Instr.extract t55 1) fun t57 =>
  R (.tuple #[t56, t57])) fun J1 =>
  pur PR (Instr.fieldAt 99 t4 0) fun t33 =>
  rds PR (Instr.loadAt 3 t33) fun t34 =>
  pur PR (binOp .eql 3 t34 (.int .i64 6)) fun t35 =>
  cnd t35 (
  pur PR (Instr.fieldAt 99 t4 1) fun t36 =>
  rds PR (Instr.loadAt 9 t36) fun t37 =>
  pur PR (Instr.fieldAt 99 t4 2) fun t38 =>
  rds PR (Instr.loadAt 9 t38) fun t39 =>
  pur PR (Instr.fieldAt 99 t4 5) fun t40 =>
  rds PR (Instr.loadAt 3 t40) fun t41 =>
  pur PR (Instr.build 164 #[(0, t37), (1, t39), (2, t41)]) fun t42 =>
  cal PR X 102 [t42, t28] fun t44 =>
  pur PR (Instr.extract t44 0) fun t45 =>
  pur PR (Instr.extract t44 1) fun t46 =>
  R (.tuple #[t45, t46])) (
  J1 t2_1 t3_1)) fun J2 =>
  pur PR (binOp .neq 28 t29 (.int .i64 0)) fun t31 =>
  cnd t31 (
  R (.tuple #[(.string (ByteArray.mk #[])), t29])) (
  J2 t2 t3)) fun J3 =>
  pur PR (Instr.fieldAt 99 t4 0) fun t9 =>
  rds PR (Instr.loadAt 3 t9) fun t10 =>
  pur PR (binOp .neq 3 t10 (.int .i64 4)) fun t11 =>
  gj t11 true (fun J => pur PR (Instr.fieldAt 99 t4 0) J) fun t13 =>
  gj t11 true (fun J => rds PR (Instr.loadAt 3 t13) J) fun t14 =>
  gj t11 true (fun J => pur PR (binOp .neq 3 t14 (.int .i64 6)) J) fun t15 =>
  pur PR (do pure (if ← asBool t11 then t15 else (.bool false))) fun t16 =>
  cnd t16 (
  R (.tuple #[(.string (ByteArray.mk #[])), (.int .i64 3)])) (
  J3 (.string (ByteArray.mk #[])) (.int .i64 0))
theorem sh_packet_Put_eq (X : Nat → Prop) (t0 : Value) (R : Value → WP) : vcFun PR X Tryz.f54 [t0] R = sh_packet_Put X t0 R := by kernel_rfl
theorem ent_packet_Put : Enters PR 54 := enters_of Tryz.func54 (by kernel_rfl) rfl
theorem mk_packet_Put {X : Nat → Prop} {t0 : Value} {R : Value → WP} {w : World} (h : sh_packet_Put X t0 R w) : Fn PR X 54 #[t0] w R := fn_of_vc (args := [t0]) mixed Tryz.func54 (by rw [sh_packet_Put_eq]; exact h)
def sh_packet_Parse (X : Nat → Prop) (t0 : Value) (R : Value → WP) : WP :=
  lou PR X (Instr.alloc 101 true (.tuple #[])) fun t2 =>
  cal PR X 153 [t0] fun t10 =>
  pur PR (Instr.extract t10 0) fun t11 =>
  pur PR (Instr.extract t10 1) fun t12 =>
  pur PR (Instr.extract t10 2) fun t13 =>
  lou PR X (Instr.alloc 99 true (.tuple #[])) fun t4 =>
  sto PR X (Instr.storeAt 99 t4 t11) <|
  jn (n := 1) (fun t3 =>
  pur PR (Instr.fieldAt 99 t4 5) fun t19 =>
  rds PR (Instr.loadAt 3 t19) fun t20 =>
  cal PR X 154 [t20, t12] fun t22 =>
  pur PR (Instr.extract t22 0) fun t23 =>
  pur PR (Instr.extract t22 1) fun t24 =>
  lou PR X (Instr.alloc 161 true (.tuple #[])) fun t7 =>
  sto PR X (Instr.storeAt 161 t7 t23) <|
  jn (n := 1) (fun t3_1 =>
  drw <|
  pur PR (Instr.fieldAt 161 t7 0) fun t29 =>
  rds PR (Instr.loadAt 3 t29) fun t30 =>
  pur PR (Instr.fieldAt 161 t7 1) fun t31 =>
  rds PR (Instr.loadAt 3 t31) fun t32 =>
  pur PR (Instr.fieldAt 99 t4 3) fun t33 =>
  sto PR X (Instr.storeAt 3 t33 t30) <|
  watch PR [(none, (Instr.loadAt 3 t31), t32)] <|
  pur PR (Instr.fieldAt 99 t4 4) fun t34 =>
  sto PR X (Instr.storeAt 3 t34 t32) <|
  rds PR (Instr.loadAt 99 t4) fun t35 =>
  pur PR (Instr.fieldAt 161 t7 2) fun t36 =>
  rds PR (Instr.loadAt 3 t36) fun t37 =>
  pur PR (Instr.build 101 #[(0, t35), (1, t37)]) fun t38 =>
  sto PR X (Instr.storeAt 101 t2 t38) <|
  rds PR (finS [.c 101 t2, .v (.int .i64 0)]) R) fun J1 =>
  pur PR (binOp .neq 28 t24 (.int .i64 0)) fun t26 =>
  cnd t26 (
  pur PR (Instr.build 101 #[]) fun t27 =>
  sto PR X (Instr.storeAt 101 t2 t27) <|
  rds PR (finS [.c 101 t2, .v t24]) R) (
  J1 t3)) fun J2 =>
  pur PR (binOp .neq 28 t13 (.int .i64 0)) fun t15 =>
  cnd t15 (
  pur PR (Instr.build 101 #[]) fun t16 =>
  sto PR X (Instr.storeAt 101 t2 t16) <|
  rds PR (finS [.c 101 t2, .v t13]) R) (
  J2 (.int .i64 0))
theorem sh_packet_Parse_eq (X : Nat → Prop) (t0 : Value) (R : Value → WP) : vcFun PR X Tryz.f104 [t0] R = sh_packet_Parse X t0 R := by kernel_rfl
theorem ent_packet_Parse : Enters PR 104 := enters_of Tryz.func104 (by kernel_rfl) rfl
theorem mk_packet_Parse {X : Nat → Prop} {t0 : Value} {R : Value → WP} {w : World} (h : sh_packet_Parse X t0 R w) : Fn PR X 104 #[t0] w R := fn_of_vc (args := [t0]) mixed Tryz.func104 (by rw [sh_packet_Parse_eq]; exact h)
def sh_packet_Bytes (X : Nat → Prop) (t0 : Value) (R : Value → WP) : WP :=
  lou PR X (Instr.box 99 t0) fun t1 =>
  pur PR (Instr.fieldAt 99 t1 0) fun t8 =>
  rds PR (Instr.loadAt 3 t8) fun t9 =>
  cal PR X 155 [t9] fun t10 =>
  pur PR (Instr.fieldAt 99 t1 5) fun t12 =>
  rds PR (Instr.loadAt 3 t12) fun t13 =>
  pur PR (Instr.fieldAt 99 t1 3) fun t14 =>
  rds PR (Instr.loadAt 3 t14) fun t15 =>
  pur PR (Instr.fieldAt 99 t1 4) fun t16 =>
  rds PR (Instr.loadAt 3 t16) fun t17 =>
  pur PR (Instr.build 161 #[(0, t15), (1, t17)]) fun t18 =>
  cal PR X 101 [t13, t18] fun t19 =>
  pur PR (Instr.extract t19 0) fun t20 =>
  pur PR (Instr.extract t19 1) fun t21 =>
  jn (n := 2) (fun t2 t3 =>
  lou PR X (Instr.alloc 237 true (.tuple #[])) fun t7 =>
  pur PR (Instr.sliceAt 237 t7 none none none) fun t42 =>
  lou PR X (builtinS .clear #[218] 0 [t42]) fun _ =>
  drw <|
  pur PR (Instr.sliceAt 237 t7 none none none) fun t43 =>
  pur PR (Instr.fieldAt 99 t1 0) fun t44 =>
  rds PR (Instr.loadAt 3 t44) fun t45 =>
  pur PR (convert 3 68 t45) fun t46 =>
  pur PR (binOp .shl 68 t46 (.int .u64 8)) fun t47 =>
  pur PR (Instr.fieldAt 99 t1 5) fun t48 =>
  rds PR (Instr.loadAt 3 t48) fun t49 =>
  pur PR (convert 3 68 t49) fun t50 =>
  pur PR (binOp .or 68 t47 t50) fun t51 =>
  pur PR (Instr.fieldAt 99 t1 3) fun t53 =>
  rds PR (Instr.loadAt 3 t53) fun t54 =>
  pur PR (convert 3 68 t54) fun t55 =>
  pur PR (Instr.fieldAt 99 t1 4) fun t58 =>
  rds PR (Instr.loadAt 3 t58) fun t59 =>
  pur PR (convert 3 68 t59) fun t60 =>
  cal PR X 151 [t51, (.int .i64 2)] fun t52 =>
  watch PR [(none, (Instr.loadAt 3 t58), t59), (none, (Instr.loadAt 3 t53), t54)] <|
  cal PR X 151 [t55, (.int .i64 2)] fun t56 =>
  watch PR [(none, (Instr.loadAt 3 t58), t59)] <|
  pur PR (binOp .add 9 t52 t56) fun t57 =>
  cal PR X 151 [t60, (.int .i64 2)] fun t61 =>
  pur PR (binOp .add 9 t57 t61) fun t62 =>
  lou PR X (builtinS .copy #[218, 9] 3 [t43, t62]) fun t63 =>
  drw <|
  pur PR (Instr.sliceAt 237 t7 (some (.int .i64 6)) none none) fun t64 =>
  pur PR (Instr.fieldAt 99 t1 1) fun t65 =>
  rds PR (Instr.loadAt 9 t65) fun t66 =>
  lou PR X (builtinS .copy #[218, 9] 3 [t64, t66]) fun t67 =>
  drw <|
  pur PR (Instr.sliceAt 237 t7 (some (.int .i64 22)) none none) fun t68 =>
  pur PR (Instr.fieldAt 99 t1 2) fun t69 =>
  rds PR (Instr.loadAt 9 t69) fun t70 =>
  lou PR X (builtinS .copy #[218, 9] 3 [t68, t70]) fun t71 =>
  pur PR (Instr.sliceAt 237 t7 none none none) fun t72 =>
  rds PR (convert 218 9 t72) fun t73 =>
  R (.tuple #[t73, (.bool true)])) fun J1 =>
  pur PR (binOp .eql 3 t10 (.int .i64 0)) fun t23 =>
  gj t23 false (fun J => pur PR (Instr.fieldAt 99 t1 1) J) fun t25 =>
  gj t23 false (fun J => rds PR (Instr.loadAt 9 t25) J) fun t26 =>
  gj t23 false (fun J => pur PR (builtinS .len #[9] 0 [t26]) J) fun t27 =>
  gj t23 false (fun J => J t10) fun t28 =>
  gj t23 false (fun J => pur PR (binOp .neq 3 t27 t28) J) fun t29 =>
  pur PR (do pure (if ← asBool t23 then (.bool true) else t29)) fun t30 =>
  gj t30 false (fun J => pur PR (Instr.fieldAt 99 t1 2) J) fun t32 =>
  gj t30 false (fun J => rds PR (Instr.loadAt 9 t32) J) fun t33 =>
  gj t30 false (fun J => pur PR (builtinS .len #[9] 0 [t33]) J) fun t34 =>
  gj t30 false (fun J => J t10) fun t35 =>
  gj t30 false (fun J => pur PR (binOp .neq 3 t34 t35) J) fun t36 =>
  pur PR (do pure (if ← asBool t30 then (.bool true) else t36)) fun t37 =>
  gj t37 false (fun J => J t21) fun t39 =>
  gj t37 false (fun J => pur PR (binOp .neq 28 t39 (.int .i64 0)) J) fun t40 =>
  pur PR (do pure (if ← asBool t37 then (.bool true) else t40)) fun t41 =>
  cnd t41 (
  R (.tuple #[(.string (ByteArray.mk #[])), (.bool false)])) (
  J1 (.string (ByteArray.mk #[])) (.bool false))
theorem sh_packet_Bytes_eq (X : Nat → Prop) (t0 : Value) (R : Value → WP) : vcFun PR X Tryz.f105 [t0] R = sh_packet_Bytes X t0 R := by kernel_rfl
theorem ent_packet_Bytes : Enters PR 105 := enters_of Tryz.func105 (by kernel_rfl) rfl
theorem mk_packet_Bytes {X : Nat → Prop} {t0 : Value} {R : Value → WP} {w : World} (h : sh_packet_Bytes X t0 R w) : Fn PR X 105 #[t0] w R := fn_of_vc (args := [t0]) mixed Tryz.func105 (by rw [sh_packet_Bytes_eq]; exact h)
def sh_packet_Closing (X : Nat → Prop) (t0 : Value) (R : Value → WP) : WP :=
  lou PR X (Instr.box 101 t0) fun t1 =>
  pur PR (Instr.fieldAt 101 t1 0) fun t3 =>
  pur PR (Instr.fieldAt 99 t3 5) fun t4 =>
  rds PR (Instr.loadAt 3 t4) fun t5 =>
  pur PR (binOp .eql 3 t5 (.int .i64 6)) fun t6 =>
  gj t6 true (fun J => pur PR (Instr.fieldAt 101 t1 1) J) fun t8 =>
  gj t6 true (fun J => rds PR (Instr.loadAt 3 t8) J) fun t9 =>
  gj t6 true (fun J => pur PR (binOp .and 3 t9 (.int .i64 5)) J) fun t10 =>
  gj t6 true (fun J => pur PR (binOp .neq 3 t10 (.int .i64 0)) J) fun t11 =>
  pur PR (do pure (if ← asBool t6 then t11 else (.bool false))) fun t12 =>
  R t12
theorem sh_packet_Closing_eq (X : Nat → Prop) (t0 : Value) (R : Value → WP) : vcFun PR X Tryz.f106 [t0] R = sh_packet_Closing X t0 R := by kernel_rfl
theorem ent_packet_Closing : Enters PR 106 := enters_of Tryz.func106 (by kernel_rfl) rfl
theorem mk_packet_Closing {X : Nat → Prop} {t0 : Value} {R : Value → WP} {w : World} (h : sh_packet_Closing X t0 R w) : Fn PR X 106 #[t0] w R := fn_of_vc (args := [t0]) mixed Tryz.func106 (by rw [sh_packet_Closing_eq]; exact h)
def sh_packet_keyed (X : Nat → Prop) (t0 : Value) (R : Value → WP) : WP :=
  lou PR X (Instr.alloc 99 true (.tuple #[])) fun t2 =>
  jn (n := 2) (fun t3 t4 =>
  pur PR (Instr.build 99 #[]) fun t29 =>
  sto PR X (Instr.storeAt 99 t2 t29) <|
  rds PR (finS [.c 99 t2, .v (.string (ByteArray.mk #[])), .v (.int .i64 3)]) R) fun J1 =>
  pur PR (binOp .eql 9 t0 (.string (ByteArray.mk #[]))) fun t7 =>
  cnd t7 (
  pur PR (Instr.build 99 #[]) fun t8 =>
  sto PR X (Instr.storeAt 99 t2 t8) <|
  rds PR (finS [.c 99 t2, .v (.string (ByteArray.mk #[])), .v (.int .i64 2)]) R) (
  pur PR (Instr.index 9 t0 (.int .i64 0)) fun t11 =>
  pur PR (binOp .shr 5 t11 (.int .u64 4)) fun t12 =>
  pur PR (binOp .eql 5 t12 (.int .u8 4)) fun t13 =>
  cnd t13 (
  cal PR X 186 [t0, (.func (.func 187) #[] #[]), (.func (.func 188) #[] #[])] fun t15 =>
  pur PR (Instr.extract t15 0) fun t16 =>
  pur PR (Instr.extract t15 1) fun t17 =>
  pur PR (Instr.extract t15 2) fun t18 =>
  sto PR X (Instr.storeAt 99 t2 t16) <|
  rds PR (finS [.c 99 t2, .v t17, .v t18]) R) (
  pur PR (Instr.index 9 t0 (.int .i64 0)) fun t21 =>
  pur PR (binOp .shr 5 t21 (.int .u64 4)) fun t22 =>
  pur PR (binOp .eql 5 t22 (.int .u8 6)) fun t23 =>
  cnd t23 (
  cal PR X 189 [t0, (.func (.func 190) #[] #[]), (.func (.func 191) #[] #[])] fun t25 =>
  pur PR (Instr.extract t25 0) fun t26 =>
  pur PR (Instr.extract t25 1) fun t27 =>
  pur PR (Instr.extract t25 2) fun t28 =>
  sto PR X (Instr.storeAt 99 t2 t26) <|
  rds PR (finS [.c 99 t2, .v t27, .v t28]) R) (
  J1 (.string (ByteArray.mk #[])) (.int .i64 0))))
theorem sh_packet_keyed_eq (X : Nat → Prop) (t0 : Value) (R : Value → WP) : vcFun PR X Tryz.f153 [t0] R = sh_packet_keyed X t0 R := by kernel_rfl
theorem ent_packet_keyed : Enters PR 153 := enters_of Tryz.func153 (by kernel_rfl) rfl
theorem mk_packet_keyed {X : Nat → Prop} {t0 : Value} {R : Value → WP} {w : World} (h : sh_packet_keyed X t0 R w) : Fn PR X 153 #[t0] w R := fn_of_vc (args := [t0]) mixed Tryz.func153 (by rw [sh_packet_keyed_eq]; exact h)
def sh_packet_long (X : Nat → Prop) (t0 : Value) (R : Value → WP) : WP :=
  jn (n := 1) (fun t2 =>
  R (.int .i64 0)) fun J1 =>
  pur PR (binOp .eql 3 t0 (.int .i64 4)) fun t5 =>
  cnd t5 (
  R (.int .i64 4)) (
  pur PR (binOp .eql 3 t0 (.int .i64 6)) fun t7 =>
  cnd t7 (
  R (.int .i64 16)) (
  J1 (.int .i64 0)))
theorem sh_packet_long_eq (X : Nat → Prop) (t0 : Value) (R : Value → WP) : vcFun PR X Tryz.f155 [t0] R = sh_packet_long X t0 R := by kernel_rfl
theorem ent_packet_long : Enters PR 155 := enters_of Tryz.func155 (by kernel_rfl) rfl
theorem mk_packet_long {X : Nat → Prop} {t0 : Value} {R : Value → WP} {w : World} (h : sh_packet_long X t0 R w) : Fn PR X 155 #[t0] w R := fn_of_vc (args := [t0]) mixed Tryz.func155 (by rw [sh_packet_long_eq]; exact h)
def sh_packet_told_ip4_Head (X : Nat → Prop) (t0 t1 t2 : Value) (R : Value → WP) : WP :=
  lou PR X (Instr.alloc 99 true (.tuple #[])) fun t6 =>
  cav PR X t1 [t0] fun t15 =>
  pur PR (Instr.extract t15 0) fun t16 =>
  pur PR (Instr.extract t15 1) fun t17 =>
  pur PR (Instr.extract t15 2) fun t18 =>
  lou PR X (Instr.alloc 166 true (.tuple #[])) fun t9 =>
  sto PR X (Instr.storeAt 166 t9 t16) <|
  rds PR (Instr.loadAt 166 t9) fun t20 =>
  cav PR X t2 [t20] fun t21 =>
  sto PR X (Instr.storeAt 99 t6 t21) <|
  rds PR (finS [.c 99 t6, .v t17, .v t18]) R
theorem sh_packet_told_ip4_Head_eq (X : Nat → Prop) (t0 t1 t2 : Value) (R : Value → WP) : vcFun PR X Tryz.f186 [t0, t1, t2] R = sh_packet_told_ip4_Head X t0 t1 t2 R := by kernel_rfl
theorem ent_packet_told_ip4_Head : Enters PR 186 := enters_of Tryz.func186 (by kernel_rfl) rfl
theorem mk_packet_told_ip4_Head {X : Nat → Prop} {t0 t1 t2 : Value} {R : Value → WP} {w : World} (h : sh_packet_told_ip4_Head X t0 t1 t2 R w) : Fn PR X 186 #[t0, t1, t2] w R := fn_of_vc (args := [t0, t1, t2]) mixed Tryz.func186 (by rw [sh_packet_told_ip4_Head_eq]; exact h)
def sh_packet_keyed_c1 (X : Nat → Prop) (t0 : Value) (R : Value → WP) : WP :=
  lou PR X (Instr.box 166 t0) fun t1 =>
  lou PR X (Instr.alloc 99 true (.tuple #[])) fun t2 =>
  pur PR (Instr.fieldAt 166 t1 0) fun t3 =>
  rds PR (Instr.loadAt 9 t3) fun t4 =>
  pur PR (Instr.fieldAt 166 t1 1) fun t5 =>
  rds PR (Instr.loadAt 9 t5) fun t6 =>
  pur PR (Instr.fieldAt 166 t1 2) fun t7 =>
  rds PR (Instr.loadAt 3 t7) fun t8 =>
  pur PR (Instr.build 99 #[(0, (.int .i64 4)), (1, t4), (2, t6), (5, t8)]) fun t9 =>
  sto PR X (Instr.storeAt 99 t2 t9) <|
  rds PR (finS [.c 99 t2]) R
theorem sh_packet_keyed_c1_eq (X : Nat → Prop) (t0 : Value) (R : Value → WP) : vcFun PR X Tryz.f188 [t0] R = sh_packet_keyed_c1 X t0 R := by kernel_rfl
theorem ent_packet_keyed_c1 : Enters PR 188 := enters_of Tryz.func188 (by kernel_rfl) rfl
theorem mk_packet_keyed_c1 {X : Nat → Prop} {t0 : Value} {R : Value → WP} {w : World} (h : sh_packet_keyed_c1 X t0 R w) : Fn PR X 188 #[t0] w R := fn_of_vc (args := [t0]) mixed Tryz.func188 (by rw [sh_packet_keyed_c1_eq]; exact h)
def sh_packet_told_ip6_Head (X : Nat → Prop) (t0 t1 t2 : Value) (R : Value → WP) : WP :=
  lou PR X (Instr.alloc 99 true (.tuple #[])) fun t6 =>
  cav PR X t1 [t0] fun t15 =>
  pur PR (Instr.extract t15 0) fun t16 =>
  pur PR (Instr.extract t15 1) fun t17 =>
  pur PR (Instr.extract t15 2) fun t18 =>
  lou PR X (Instr.alloc 164 true (.tuple #[])) fun t9 =>
  sto PR X (Instr.storeAt 164 t9 t16) <|
  rds PR (Instr.loadAt 164 t9) fun t20 =>
  cav PR X t2 [t20] fun t21 =>
  sto PR X (Instr.storeAt 99 t6 t21) <|
  rds PR (finS [.c 99 t6, .v t17, .v t18]) R
theorem sh_packet_told_ip6_Head_eq (X : Nat → Prop) (t0 t1 t2 : Value) (R : Value → WP) : vcFun PR X Tryz.f189 [t0, t1, t2] R = sh_packet_told_ip6_Head X t0 t1 t2 R := by kernel_rfl
theorem ent_packet_told_ip6_Head : Enters PR 189 := enters_of Tryz.func189 (by kernel_rfl) rfl
theorem mk_packet_told_ip6_Head {X : Nat → Prop} {t0 t1 t2 : Value} {R : Value → WP} {w : World} (h : sh_packet_told_ip6_Head X t0 t1 t2 R w) : Fn PR X 189 #[t0, t1, t2] w R := fn_of_vc (args := [t0, t1, t2]) mixed Tryz.func189 (by rw [sh_packet_told_ip6_Head_eq]; exact h)
def sh_packet_keyed_c2 (X : Nat → Prop) (t0 : Value) (R : Value → WP) : WP :=
  lou PR X (Instr.box 164 t0) fun t1 =>
  lou PR X (Instr.alloc 99 true (.tuple #[])) fun t2 =>
  pur PR (Instr.fieldAt 164 t1 0) fun t3 =>
  rds PR (Instr.loadAt 9 t3) fun t4 =>
  pur PR (Instr.fieldAt 164 t1 1) fun t5 =>
  rds PR (Instr.loadAt 9 t5) fun t6 =>
  pur PR (Instr.fieldAt 164 t1 2) fun t7 =>
  rds PR (Instr.loadAt 3 t7) fun t8 =>
  pur PR (Instr.build 99 #[(0, (.int .i64 6)), (1, t4), (2, t6), (5, t8)]) fun t9 =>
  sto PR X (Instr.storeAt 99 t2 t9) <|
  rds PR (finS [.c 99 t2]) R
theorem sh_packet_keyed_c2_eq (X : Nat → Prop) (t0 : Value) (R : Value → WP) : vcFun PR X Tryz.f191 [t0] R = sh_packet_keyed_c2 X t0 R := by kernel_rfl
theorem ent_packet_keyed_c2 : Enters PR 191 := enters_of Tryz.func191 (by kernel_rfl) rfl
theorem mk_packet_keyed_c2 {X : Nat → Prop} {t0 : Value} {R : Value → WP} {w : World} (h : sh_packet_keyed_c2 X t0 R w) : Fn PR X 191 #[t0] w R := fn_of_vc (args := [t0]) mixed Tryz.func191 (by rw [sh_packet_keyed_c2_eq]; exact h)
end Go.Proofs.YtggakcpabomliaaGreat
namespace Go.Proofs.YtggakcpabomliaaGreat
open Go
def sh_port_Put (X : Nat → Prop) (t0 t1 : Value) (R : Value → WP) : WP :=
  lou PR X (Instr.box 161 t1) fun t3 =>
  cal PR X 145 [] fun t11 =>
  rds PR (Instr.lookup 213 t11 t0 false) fun t13 =>
  jn (n := 2) (fun t4 t5 =>
  rds PR (Instr.loadAt 161 t3) fun t17 =>
  cal PR X 146 [t17] fun t18 =>
  pur PR (Instr.extract t18 0) fun t19 =>
  pur PR (Instr.extract t18 1) fun t20 =>
  pur PR (Instr.fieldAt 161 t3 2) fun t23 =>
  rds PR (Instr.loadAt 3 t23) fun t24 =>
  inv PR X t13 "gangplank/port.put" [t24] fun t25 =>
  pur PR (Instr.extract t25 0) fun t26 =>
  pur PR (Instr.extract t25 1) fun t27 =>
  jn (n := 2) (fun t4_1 t5_1 =>
  pur PR (binOp .add 9 t19 t26) fun t36 =>
  R (.tuple #[t36, (.int .i64 0)])) fun J1 =>
  pur PR (Op.unary .not t20) fun t29 =>
  gj t29 false (fun J => J t27) fun t31 =>
  gj t29 false (fun J => pur PR (binOp .neq 28 t31 (.int .i64 0)) J) fun t32 =>
  pur PR (do pure (if ← asBool t29 then (.bool true) else t32)) fun t33 =>
  cnd t33 (
  R (.tuple #[(.string (ByteArray.mk #[])), (.int .i64 1)])) (
  J1 t4 t5)) fun J2 =>
  rds PR (eqS .eql 212 (.tmp 14) (.const .nilIface) t13 .nilIface) fun t15 =>
  cnd t15 (
  R (.tuple #[(.string (ByteArray.mk #[])), (.int .i64 7)])) (
  J2 (.string (ByteArray.mk #[])) (.int .i64 0))
theorem sh_port_Put_eq (X : Nat → Prop) (t0 t1 : Value) (R : Value → WP) : vcFun PR X Tryz.f101 [t0, t1] R = sh_port_Put X t0 t1 R := by kernel_rfl
theorem ent_port_Put : Enters PR 101 := enters_of Tryz.func101 (by kernel_rfl) rfl
theorem mk_port_Put {X : Nat → Prop} {t0 t1 : Value} {R : Value → WP} {w : World} (h : sh_port_Put X t0 t1 R w) : Fn PR X 101 #[t0, t1] w R := fn_of_vc (args := [t0, t1]) mixed Tryz.func101 (by rw [sh_port_Put_eq]; exact h)
def sh_port_protos (X : Nat → Prop) (R : Value → WP) : WP :=
  lou PR X (Instr.makeMap 213 none) fun t1 =>
  pur PR (Instr.build 263 #[]) fun t2 =>
  pur PR (Instr.makeInterface 263 t2) fun t3 =>
  sto PR X (Instr.mapUpdate 213 t1 (.int .i64 6) t3) <|
  pur PR (Instr.build 264 #[]) fun t4 =>
  pur PR (Instr.makeInterface 264 t4) fun t5 =>
  sto PR X (Instr.mapUpdate 213 t1 (.int .i64 17) t5) <|
  R t1
theorem sh_port_protos_eq (X : Nat → Prop) (R : Value → WP) : vcFun PR X Tryz.f145 [] R = sh_port_protos X R := by kernel_rfl
theorem ent_port_protos : Enters PR 145 := enters_of Tryz.func145 (by kernel_rfl) rfl
theorem mk_port_protos {X : Nat → Prop} {R : Value → WP} {w : World} (h : sh_port_protos X R w) : Fn PR X 145 #[] w R := fn_of_vc (args := []) mixed Tryz.func145 (by rw [sh_port_protos_eq]; exact h)
def sh_port_ports (X : Nat → Prop) (t0 : Value) (R : Value → WP) : WP :=
  lou PR X (Instr.box 161 t0) fun t1 =>
  jn (n := 2) (fun t4 t5 =>
  pur PR (binOp .eql 3 t5 (.int .i64 2)) fun t37 =>
  R (.tuple #[t4, t37])) fun J1 =>
  jn (n := 2) (fun t4_1 t5_1 =>
  jn (n := 2) (fun t4_2 t5_2 =>
  J1 t4_2 t5_2) fun J2 =>
  pur PR (Instr.fieldAt 161 t1 1) fun t19 =>
  rds PR (Instr.loadAt 3 t19) fun t20 =>
  pur PR (binOp .geq 3 t20 (.int .i64 0)) fun t21 =>
  gj t21 true (fun J => pur PR (Instr.fieldAt 161 t1 1) J) fun t23 =>
  gj t21 true (fun J => rds PR (Instr.loadAt 3 t23) J) fun t24 =>
  gj t21 true (fun J => pur PR (binOp .leq 3 t24 (.int .i64 65535)) J) fun t25 =>
  pur PR (do pure (if ← asBool t21 then t25 else (.bool false))) fun t26 =>
  cnd t26 (
  pur PR (Instr.fieldAt 161 t1 1) fun t28 =>
  rds PR (Instr.loadAt 3 t28) fun t29 =>
  pur PR (convert 3 68 t29) fun t30 =>
  cal PR X 151 [t30, (.int .i64 2)] fun t31 =>
  pur PR (binOp .add 9 t4_1 t31) fun t32 =>
  pur PR (binOp .add 3 t5_1 (.int .i64 1)) fun t34 =>
  J2 t32 t34) (
  J2 t4_1 t5_1)) fun J3 =>
  jn (n := 0) (
  pur PR (Instr.fieldAt 161 t1 0) fun t15 =>
  rds PR (Instr.loadAt 3 t15) fun t16 =>
  pur PR (convert 3 68 t16) fun t17 =>
  cal PR X 151 [t17, (.int .i64 2)] fun t18 =>
  J3 t18 (.int .i64 1)) fun J4 =>
  jn (n := 0) (
  J3 (.string (ByteArray.mk #[])) (.int .i64 0)) fun J5 =>
  pur PR (Instr.fieldAt 161 t1 0) fun t7 =>
  rds PR (Instr.loadAt 3 t7) fun t8 =>
  pur PR (binOp .geq 3 t8 (.int .i64 0)) fun t9 =>
  gj t9 true (fun J => pur PR (Instr.fieldAt 161 t1 0) J) fun t11 =>
  gj t9 true (fun J => rds PR (Instr.loadAt 3 t11) J) fun t12 =>
  gj t9 true (fun J => pur PR (binOp .leq 3 t12 (.int .i64 65535)) J) fun t13 =>
  pur PR (do pure (if ← asBool t9 then t13 else (.bool false))) fun t14 =>
  cnd t14 (
  J4) (
  J5)
theorem sh_port_ports_eq (X : Nat → Prop) (t0 : Value) (R : Value → WP) : vcFun PR X Tryz.f146 [t0] R = sh_port_ports X t0 R := by kernel_rfl
theorem ent_port_ports : Enters PR 146 := enters_of Tryz.func146 (by kernel_rfl) rfl
theorem mk_port_ports {X : Nat → Prop} {t0 : Value} {R : Value → WP} {w : World} (h : sh_port_ports X t0 R w) : Fn PR X 146 #[t0] w R := fn_of_vc (args := [t0]) mixed Tryz.func146 (by rw [sh_port_ports_eq]; exact h)
def sh_port_Parse (X : Nat → Prop) (t0 t1 : Value) (R : Value → WP) : WP :=
  lou PR X (Instr.alloc 161 true (.tuple #[])) fun t4 =>
  cal PR X 145 [] fun t13 =>
  rds PR (Instr.lookup 213 t13 t0 false) fun t15 =>
  jn (n := 1) (fun t5 =>
  inv PR X t15 "gangplank/port.parse" [t1] fun t22 =>
  pur PR (Instr.extract t22 0) fun t23 =>
  pur PR (Instr.extract t22 1) fun t24 =>
  jn (n := 1) (fun t5_1 =>
  cal PR X 192 [t1, (.int .i64 0), (.int .i64 2)] fun t31 =>
  pur PR (Instr.extract t31 0) fun t32 =>
  pur PR (Instr.extract t31 1) fun t33 =>
  cal PR X 192 [t1, (.int .i64 2), (.int .i64 2)] fun t36 =>
  pur PR (Instr.extract t36 0) fun t37 =>
  pur PR (Instr.extract t36 1) fun t38 =>
  pur PR (convert 68 3 t32) fun t40 =>
  pur PR (convert 68 3 t37) fun t42 =>
  pur PR (Instr.build 161 #[(0, t40), (1, t42), (2, t23)]) fun t44 =>
  sto PR X (Instr.storeAt 161 t4 t44) <|
  rds PR (finS [.c 161 t4, .v (.int .i64 0)]) R) fun J1 =>
  pur PR (binOp .neq 28 t24 (.int .i64 0)) fun t26 =>
  cnd t26 (
  pur PR (Instr.build 161 #[]) fun t27 =>
  sto PR X (Instr.storeAt 161 t4 t27) <|
  rds PR (finS [.c 161 t4, .v t24]) R) (
  J1 t5)) fun J2 =>
  rds PR (eqS .eql 212 (.tmp 16) (.const .nilIface) t15 .nilIface) fun t17 =>
  cnd t17 (
  pur PR (Instr.build 161 #[]) fun t18 =>
  sto PR X (Instr.storeAt 161 t4 t18) <|
  rds PR (finS [.c 161 t4, .v (.int .i64 7)]) R) (
  J2 (.int .i64 0))
theorem sh_port_Parse_eq (X : Nat → Prop) (t0 t1 : Value) (R : Value → WP) : vcFun PR X Tryz.f154 [t0, t1] R = sh_port_Parse X t0 t1 R := by kernel_rfl
theorem ent_port_Parse : Enters PR 154 := enters_of Tryz.func154 (by kernel_rfl) rfl
theorem mk_port_Parse {X : Nat → Prop} {t0 t1 : Value} {R : Value → WP} {w : World} (h : sh_port_Parse X t0 t1 R w) : Fn PR X 154 #[t0, t1] w R := fn_of_vc (args := [t0, t1]) mixed Tryz.func154 (by rw [sh_port_Parse_eq]; exact h)
def sh_port_tcp_parse (X : Nat → Prop) (t0 t1 : Value) (R : Value → WP) : WP :=
  lou PR X (Instr.box 263 t0) fun t2 =>
  jn (n := 2) (fun t4 t5 =>
  jn (n := 2) (fun t4_1 t5_1 =>
  pur PR (Instr.index 9 t1 (.int .i64 13)) fun t24 =>
  pur PR (convert 5 3 t24) fun t25 =>
  R (.tuple #[t25, (.int .i64 0)])) fun J1 =>
  pur PR (Instr.index 9 t1 (.int .i64 12)) fun t11 =>
  pur PR (binOp .shr 5 t11 (.int .u64 4)) fun t12 =>
  pur PR (convert 5 3 t12) fun t13 =>
  pur PR (binOp .mul 3 t13 (.int .i64 4)) fun t14 =>
  pur PR (binOp .lss 3 t14 (.int .i64 20)) fun t16 =>
  gj t16 false (fun J => J t14) fun t18 =>
  gj t16 false (fun J => J t1) fun t19 =>
  gj t16 false (fun J => pur PR (builtinS .len #[9] 0 [t19]) J) fun t20 =>
  gj t16 false (fun J => pur PR (binOp .gtr 3 t18 t20) J) fun t21 =>
  pur PR (do pure (if ← asBool t16 then (.bool true) else t21)) fun t22 =>
  cnd t22 (
  R (.tuple #[(.int .i64 0), (.int .i64 8)])) (
  J1 t4 t5)) fun J2 =>
  pur PR (builtinS .len #[9] 0 [t1]) fun t8 =>
  pur PR (binOp .lss 3 t8 (.int .i64 20)) fun t9 =>
  cnd t9 (
  R (.tuple #[(.int .i64 0), (.int .i64 2)])) (
  J2 (.int .i64 0) (.int .i64 0))
theorem sh_port_tcp_parse_eq (X : Nat → Prop) (t0 t1 : Value) (R : Value → WP) : vcFun PR X Tryz.f253 [t0, t1] R = sh_port_tcp_parse X t0 t1 R := by kernel_rfl
theorem mk_port_tcp_parse {X : Nat → Prop} {t0 t1 : Value} {R : Value → WP} {w : World} (h : sh_port_tcp_parse X t0 t1 R w) : Fn PR X 253 #[t0, t1] w R := fn_of_vc (args := [t0, t1]) mixed Tryz.func253 (by rw [sh_port_tcp_parse_eq]; exact h)
def sh_port_tcp_put (X : Nat → Prop) (t0 t1 : Value) (R : Value → WP) : WP :=
  lou PR X (Instr.box 263 t0) fun t2 =>
  jn (n := 2) (fun t4 t5 =>
  cal PR X 255 [(.string (ByteArray.mk #[0])), (.int .i64 8)] fun t12 =>
  pur PR (binOp .add 9 t12 (.string (ByteArray.mk #[80]))) fun t13 =>
  pur PR (convert 3 68 t1) fun t15 =>
  cal PR X 151 [t15, (.int .i64 1)] fun t16 =>
  pur PR (binOp .add 9 t13 t16) fun t17 =>
  cal PR X 255 [(.string (ByteArray.mk #[0])), (.int .i64 6)] fun t18 =>
  pur PR (binOp .add 9 t17 t18) fun t19 =>
  R (.tuple #[t19, (.int .i64 0)])) fun J1 =>
  pur PR (binOp .lss 3 t1 (.int .i64 0)) fun t7 =>
  gj t7 false (fun J => J t1) fun t9 =>
  gj t7 false (fun J => pur PR (binOp .gtr 3 t9 (.int .i64 255)) J) fun t10 =>
  pur PR (do pure (if ← asBool t7 then (.bool true) else t10)) fun t11 =>
  cnd t11 (
  R (.tuple #[(.string (ByteArray.mk #[])), (.int .i64 1)])) (
  J1 (.string (ByteArray.mk #[])) (.int .i64 0))
theorem sh_port_tcp_put_eq (X : Nat → Prop) (t0 t1 : Value) (R : Value → WP) : vcFun PR X Tryz.f254 [t0, t1] R = sh_port_tcp_put X t0 t1 R := by kernel_rfl
theorem mk_port_tcp_put {X : Nat → Prop} {t0 t1 : Value} {R : Value → WP} {w : World} (h : sh_port_tcp_put X t0 t1 R w) : Fn PR X 254 #[t0, t1] w R := fn_of_vc (args := [t0, t1]) mixed Tryz.func254 (by rw [sh_port_tcp_put_eq]; exact h)
def sh_port_udp_parse (X : Nat → Prop) (t0 t1 : Value) (R : Value → WP) : WP :=
  lou PR X (Instr.box 264 t0) fun t2 =>
  jn (n := 2) (fun t4 t5 =>
  jn (n := 2) (fun t4_1 t5_1 =>
  R (.tuple #[(.int .i64 0), (.int .i64 0)])) fun J1 =>
  cal PR X 192 [t1, (.int .i64 4), (.int .i64 2)] fun t13 =>
  pur PR (Instr.extract t13 0) fun t14 =>
  pur PR (Instr.extract t13 1) fun t15 =>
  pur PR (binOp .lss 68 t14 (.int .u64 8)) fun t17 =>
  gj t17 false (fun J => J t14) fun t19 =>
  gj t17 false (fun J => J t1) fun t20 =>
  gj t17 false (fun J => pur PR (builtinS .len #[9] 0 [t20]) J) fun t21 =>
  gj t17 false (fun J => pur PR (convert 3 68 t21) J) fun t22 =>
  gj t17 false (fun J => pur PR (binOp .gtr 68 t19 t22) J) fun t23 =>
  pur PR (do pure (if ← asBool t17 then (.bool true) else t23)) fun t24 =>
  cnd t24 (
  R (.tuple #[(.int .i64 0), (.int .i64 4)])) (
  J1 t4 t5)) fun J2 =>
  pur PR (builtinS .len #[9] 0 [t1]) fun t9 =>
  pur PR (binOp .lss 3 t9 (.int .i64 8)) fun t10 =>
  cnd t10 (
  R (.tuple #[(.int .i64 0), (.int .i64 2)])) (
  J2 (.int .i64 0) (.int .i64 0))
theorem sh_port_udp_parse_eq (X : Nat → Prop) (t0 t1 : Value) (R : Value → WP) : vcFun PR X Tryz.f265 [t0, t1] R = sh_port_udp_parse X t0 t1 R := by kernel_rfl
theorem mk_port_udp_parse {X : Nat → Prop} {t0 t1 : Value} {R : Value → WP} {w : World} (h : sh_port_udp_parse X t0 t1 R w) : Fn PR X 265 #[t0, t1] w R := fn_of_vc (args := [t0, t1]) mixed Tryz.func265 (by rw [sh_port_udp_parse_eq]; exact h)
def sh_port_udp_put (X : Nat → Prop) (t0 t1 : Value) (R : Value → WP) : WP :=
  lou PR X (Instr.box 264 t0) fun t2 =>
  jn (n := 2) (fun t4 t5 =>
  R (.tuple #[(.string (ByteArray.mk #[0, 8, 0, 0])), (.int .i64 0)])) fun J1 =>
  pur PR (binOp .neq 3 t1 (.int .i64 0)) fun t7 =>
  cnd t7 (
  R (.tuple #[(.string (ByteArray.mk #[])), (.int .i64 1)])) (
  J1 (.string (ByteArray.mk #[])) (.int .i64 0))
theorem sh_port_udp_put_eq (X : Nat → Prop) (t0 t1 : Value) (R : Value → WP) : vcFun PR X Tryz.f266 [t0, t1] R = sh_port_udp_put X t0 t1 R := by kernel_rfl
theorem mk_port_udp_put {X : Nat → Prop} {t0 t1 : Value} {R : Value → WP} {w : World} (h : sh_port_udp_put X t0 t1 R w) : Fn PR X 266 #[t0, t1] w R := fn_of_vc (args := [t0, t1]) mixed Tryz.func266 (by rw [sh_port_udp_put_eq]; exact h)
end Go.Proofs.YtggakcpabomliaaGreat
