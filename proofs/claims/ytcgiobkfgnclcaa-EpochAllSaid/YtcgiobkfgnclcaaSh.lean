/- The shallow text of functions of the program, printed by a program (wip/tools/shallow.py), each with the equation that the kernel checks. -/
import Derived.Test.YtcgiobkfgnclcaaNames
set_option linter.unusedVariables false
set_option linter.unusedSimpArgs false
namespace Go.Proofs.Ytcgiobkfgnclcaa
open Go

def sh_epoch_New (X : Nat → Prop) (t0 : Value) (R : Value → WP) : WP :=
  pur PR (builtinS .min #[3, 3] 0 [t0, (.int .i64 8)]) fun t4 =>
  pur PR (builtinS .max #[3, 3] 0 [(.int .i64 0), t4]) fun t5 =>
  pur PR (Instr.build 50 #[(1, t5)]) fun t6 =>
  lou PR X (Instr.box 50 t6) fun t7 =>
  R t7
theorem sh_epoch_New_eq (X : Nat → Prop) (t0 : Value) (R : Value → WP) : vcFun PR X Try.f10 [t0] R = sh_epoch_New X t0 R := by kernel_rfl
theorem ent_epoch_New : Enters PR 10 := enters_of Try.func10 (by kernel_rfl) rfl
theorem mk_epoch_New {X : Nat → Prop} {t0 : Value} {R : Value → WP} {w : World} (h : sh_epoch_New X t0 R w) : Fn PR X 10 #[t0] w R := fn_of_vc (args := [t0]) mixed Try.func10 (by rw [sh_epoch_New_eq]; exact h)
theorem c_epoch_New {X : Nat → Prop} {t0 : Value} {K : Value → WP} {w : World} (h : Fn PR X 10 #[t0] w K) : cal PR X 10 [t0] K w := ⟨ent_epoch_New, h⟩

def sh_epoch_Keeper_State (X : Nat → Prop) (t0 t1 : Value) (R : Value → WP) : WP :=
  jn (n := 1) (fun t4 =>
  pur PR (nilc t0) fun t17 =>
  pur PR (Instr.fieldAt 50 t17 0) fun t18 =>
  pur PR (Instr.indexAt 48 t18 t1) fun t19 =>
  pur PR (Instr.fieldAt 47 t19 0) fun t20 =>
  rds PR (Instr.loadAt 3 t20) fun t21 =>
  R t21) fun J1 =>
  pur PR (binOp .lss 3 t1 (.int .i64 0)) fun t6 =>
  gj t6 false (fun J => J t1) fun t8 =>
  gj t6 false (fun J => J t0) fun t9 =>
  gj t6 false (fun J => pur PR (nilc t9) J) fun t10 =>
  gj t6 false (fun J => pur PR (Instr.fieldAt 50 t10 1) J) fun t11 =>
  gj t6 false (fun J => rds PR (Instr.loadAt 3 t11) J) fun t12 =>
  gj t6 false (fun J => pur PR (binOp .geq 3 t8 t12) J) fun t13 =>
  pur PR (do pure (if ← asBool t6 then (.bool true) else t13)) fun t14 =>
  cnd t14 (
  R (.int .i64 (-1))) (
  J1 (.int .i64 0))
theorem sh_epoch_Keeper_State_eq (X : Nat → Prop) (t0 t1 : Value) (R : Value → WP) : vcFun PR X Try.f14 [t0, t1] R = sh_epoch_Keeper_State X t0 t1 R := by kernel_rfl
theorem ent_epoch_Keeper_State : Enters PR 14 := enters_of Try.func14 (by kernel_rfl) rfl
theorem mk_epoch_Keeper_State {X : Nat → Prop} {t0 t1 : Value} {R : Value → WP} {w : World} (h : sh_epoch_Keeper_State X t0 t1 R w) : Fn PR X 14 #[t0, t1] w R := fn_of_vc (args := [t0, t1]) mixed Try.func14 (by rw [sh_epoch_Keeper_State_eq]; exact h)
theorem c_epoch_Keeper_State {X : Nat → Prop} {t0 t1 : Value} {K : Value → WP} {w : World} (h : Fn PR X 14 #[t0, t1] w K) : cal PR X 14 [t0, t1] K w := ⟨ent_epoch_Keeper_State, h⟩

def sh_epoch_Keeper_Take (X : Nat → Prop) (t0 : Value) (R : Value → WP) : WP :=
  jn (n := 1) (fun t2 =>
  R (.int .i64 (-1))) fun J1 =>
  drw <|
  pur PR (nilc t0) fun t5 =>
  pur PR (Instr.fieldAt 50 t5 0) fun t6 =>
  pur PR (nilc t0) fun t8 =>
  pur PR (Instr.fieldAt 50 t8 1) fun t9 =>
  rds PR (Instr.loadAt 3 t9) fun t10 =>
  pur PR (Instr.sliceAt 48 t6 none (some t10) none) fun t11 =>
  pur PR (builtinS .len #[62] 0 [t11]) fun t12 =>
  lp (n := 2) (fun L2 t2_1 t13 =>
  pur PR (binOp .lss 3 t13 t12) fun t14 =>
  jn (n := 0) (
  jn (n := 1) (fun t2_2 =>
  pur PR (binOp .add 3 t13 (.int .i64 1)) fun t31 =>
  L2 t2_2 t31) fun J3 =>
  pur PR (nilc t0) fun t18 =>
  pur PR (Instr.fieldAt 50 t18 0) fun t19 =>
  pur PR (Instr.indexAt 48 t19 t13) fun t20 =>
  rds PR (Instr.loadAt 47 t20) fun t21 =>
  pur PR (Instr.build 47 #[]) fun t22 =>
  rds PR (eqS .eql 47 (.tmp 21) (.tmp 22) t21 t22) fun t23 =>
  cnd t23 (
  pur PR (nilc t0) fun t26 =>
  pur PR (Instr.fieldAt 50 t26 0) fun t27 =>
  pur PR (Instr.indexAt 48 t27 t13) fun t28 =>
  pur PR (Instr.fieldAt 47 t28 0) fun t29 =>
  sto PR X (Instr.storeAt 3 t29 (.int .i64 1)) <|
  R t13) (
  J3 t2_1)) fun J4 =>
  cnd t14 (
  J4) (
  J1 t2_1)) (.int .i64 0) (.int .i64 0)
theorem sh_epoch_Keeper_Take_eq (X : Nat → Prop) (t0 : Value) (R : Value → WP) : vcFun PR X Try.f17 [t0] R = sh_epoch_Keeper_Take X t0 R := by kernel_rfl
theorem ent_epoch_Keeper_Take : Enters PR 17 := enters_of Try.func17 (by kernel_rfl) rfl
theorem mk_epoch_Keeper_Take {X : Nat → Prop} {t0 : Value} {R : Value → WP} {w : World} (h : sh_epoch_Keeper_Take X t0 R w) : Fn PR X 17 #[t0] w R := fn_of_vc (args := [t0]) mixed Try.func17 (by rw [sh_epoch_Keeper_Take_eq]; exact h)
theorem c_epoch_Keeper_Take {X : Nat → Prop} {t0 : Value} {K : Value → WP} {w : World} (h : Fn PR X 17 #[t0] w K) : cal PR X 17 [t0] K w := ⟨ent_epoch_Keeper_Take, h⟩

def sh_epoch_Keeper_each (X : Nat → Prop) (t0 t1 : Value) (R : Value → WP) : WP :=
  lou PR X (Instr.box 25 t0) fun t2 =>
  lou PR X (Instr.box 3 t1) fun t3 =>
  pur PR (Instr.makeFunc (.func 29) #[] #[t2, t3]) fun t5 =>
  R t5
theorem sh_epoch_Keeper_each_eq (X : Nat → Prop) (t0 t1 : Value) (R : Value → WP) : vcFun PR X Try.f25 [t0, t1] R = sh_epoch_Keeper_each X t0 t1 R := by kernel_rfl
theorem ent_epoch_Keeper_each : Enters PR 25 := enters_of Try.func25 (by kernel_rfl) rfl
theorem mk_epoch_Keeper_each {X : Nat → Prop} {t0 t1 : Value} {R : Value → WP} {w : World} (h : sh_epoch_Keeper_each X t0 t1 R w) : Fn PR X 25 #[t0, t1] w R := fn_of_vc (args := [t0, t1]) mixed Try.func25 (by rw [sh_epoch_Keeper_each_eq]; exact h)
theorem c_epoch_Keeper_each {X : Nat → Prop} {t0 t1 : Value} {K : Value → WP} {w : World} (h : Fn PR X 25 #[t0, t1] w K) : cal PR X 25 [t0, t1] K w := ⟨ent_epoch_Keeper_each, h⟩

def sh_epoch_Keeper_turn (X : Nat → Prop) (t0 t1 t2 t3 : Value) (R : Value → WP) : WP :=
  lou PR X (Instr.box 47 t3) fun t7 =>
  jn (n := 1) (fun t8 =>
  drw <|
  rds PR (Instr.loadAt 47 t7) fun t16 =>
  pur PR (nilc t0) fun t17 =>
  pur PR (Instr.fieldAt 50 t17 0) fun t18 =>
  pur PR (Instr.indexAt 48 t18 t1) fun t19 =>
  sto PR X (Instr.storeAt 47 t19 t16) <|
  R (.bool true)) fun J1 =>
  cal PR X 14 [t0, t1] fun t11 =>
  pur PR (binOp .neq 3 t11 t2) fun t13 =>
  cnd t13 (
  R (.bool false)) (
  J1 (.bool false))
theorem sh_epoch_Keeper_turn_eq (X : Nat → Prop) (t0 t1 t2 t3 : Value) (R : Value → WP) : vcFun PR X Try.f26 [t0, t1, t2, t3] R = sh_epoch_Keeper_turn X t0 t1 t2 t3 R := by kernel_rfl
theorem ent_epoch_Keeper_turn : Enters PR 26 := enters_of Try.func26 (by kernel_rfl) rfl
theorem mk_epoch_Keeper_turn {X : Nat → Prop} {t0 t1 t2 t3 : Value} {R : Value → WP} {w : World} (h : sh_epoch_Keeper_turn X t0 t1 t2 t3 R w) : Fn PR X 26 #[t0, t1, t2, t3] w R := fn_of_vc (args := [t0, t1, t2, t3]) mixed Try.func26 (by rw [sh_epoch_Keeper_turn_eq]; exact h)
theorem c_epoch_Keeper_turn {X : Nat → Prop} {t0 t1 t2 t3 : Value} {K : Value → WP} {w : World} (h : Fn PR X 26 #[t0, t1, t2, t3] w K) : cal PR X 26 [t0, t1, t2, t3] K w := ⟨ent_epoch_Keeper_turn, h⟩

def sh_epoch_Keeper_each_c1 (X : Nat → Prop) (t0 t1 t2 : Value) (R : Value → WP) : WP :=
  rds PR (Instr.loadAt 25 t1) fun t5 =>
  pur PR (nilc t5) fun t6 =>
  pur PR (Instr.fieldAt 50 t6 1) fun t7 =>
  rds PR (Instr.loadAt 3 t7) fun t8 =>
  lp (n := 1) (fun L1 t9 =>
  pur PR (binOp .lss 3 t9 t8) fun t10 =>
  jn (n := 0) (
  jn (n := 0) (
  pur PR (binOp .add 3 t9 (.int .i64 1)) fun t27 =>
  L1 t27) fun J2 =>
  drw <|
  rds PR (Instr.loadAt 25 t1) fun t12 =>
  pur PR (nilc t12) fun t14 =>
  pur PR (Instr.fieldAt 50 t14 0) fun t15 =>
  pur PR (Instr.indexAt 48 t15 t9) fun t16 =>
  pur PR (Instr.fieldAt 47 t16 0) fun t17 =>
  rds PR (Instr.loadAt 3 t17) fun t18 =>
  rds PR (Instr.loadAt 3 t2) fun t19 =>
  pur PR (binOp .eql 3 t18 t19) fun t20 =>
  gj t20 true (fun J => J t0) fun t22 =>
  gj t20 true (fun J => J t9) fun t23 =>
  gj t20 true (fun J => cav PR X t22 [t23] J) fun t24 =>
  gj t20 true (fun J => pur PR (Op.unary .not t24) J) fun t25 =>
  pur PR (do pure (if ← asBool t20 then t25 else (.bool false))) fun t26 =>
  cnd t26 (
  R (.tuple #[])) (
  J2)) fun J3 =>
  cnd t10 (
  J3) (
  R (.tuple #[]))) (.int .i64 0)
theorem sh_epoch_Keeper_each_c1_eq (X : Nat → Prop) (t0 t1 t2 : Value) (R : Value → WP) : vcFun PR X Try.f29 [t0, t1, t2] R = sh_epoch_Keeper_each_c1 X t0 t1 t2 R := by kernel_rfl
theorem ent_epoch_Keeper_each_c1 : Enters PR 29 := enters_of Try.func29 (by kernel_rfl) rfl
theorem mk_epoch_Keeper_each_c1 {X : Nat → Prop} {t0 t1 t2 : Value} {R : Value → WP} {w : World} (h : sh_epoch_Keeper_each_c1 X t0 t1 t2 R w) : Fn PR X 29 #[t0, t1, t2] w R := fn_of_vc (args := [t0, t1, t2]) mixed Try.func29 (by rw [sh_epoch_Keeper_each_c1_eq]; exact h)
theorem c_epoch_Keeper_each_c1 {X : Nat → Prop} {t0 t1 t2 : Value} {K : Value → WP} {w : World} (h : Fn PR X 29 #[t0, t1, t2] w K) : cal PR X 29 [t0, t1, t2] K w := ⟨ent_epoch_Keeper_each_c1, h⟩

def sh_epoch_Keeper_Retire (X : Nat → Prop) (t0 t1 t2 : Value) (R : Value → WP) : WP :=
  pur PR (Instr.build 47 #[(0, (.int .i64 2)), (1, t2)]) fun t10 =>
  cal PR X 26 [t0, t1, (.int .i64 1), t10] fun t11 =>
  R t11
theorem sh_epoch_Keeper_Retire_eq (X : Nat → Prop) (t0 t1 t2 : Value) (R : Value → WP) : vcFun PR X Try.f18 [t0, t1, t2] R = sh_epoch_Keeper_Retire X t0 t1 t2 R := by kernel_rfl
theorem ent_epoch_Keeper_Retire : Enters PR 18 := enters_of Try.func18 (by kernel_rfl) rfl
theorem mk_epoch_Keeper_Retire {X : Nat → Prop} {t0 t1 t2 : Value} {R : Value → WP} {w : World} (h : sh_epoch_Keeper_Retire X t0 t1 t2 R w) : Fn PR X 18 #[t0, t1, t2] w R := fn_of_vc (args := [t0, t1, t2]) mixed Try.func18 (by rw [sh_epoch_Keeper_Retire_eq]; exact h)
theorem c_epoch_Keeper_Retire {X : Nat → Prop} {t0 t1 t2 : Value} {K : Value → WP} {w : World} (h : Fn PR X 18 #[t0, t1, t2] w K) : cal PR X 18 [t0, t1, t2] K w := ⟨ent_epoch_Keeper_Retire, h⟩

def sh_epoch_Keeper_Free (X : Nat → Prop) (t0 t1 : Value) (R : Value → WP) : WP :=
  pur PR (Instr.build 47 #[(0, (.int .i64 0))]) fun t7 =>
  cal PR X 26 [t0, t1, (.int .i64 2), t7] fun t8 =>
  R t8
theorem sh_epoch_Keeper_Free_eq (X : Nat → Prop) (t0 t1 : Value) (R : Value → WP) : vcFun PR X Try.f19 [t0, t1] R = sh_epoch_Keeper_Free X t0 t1 R := by kernel_rfl
theorem ent_epoch_Keeper_Free : Enters PR 19 := enters_of Try.func19 (by kernel_rfl) rfl
theorem mk_epoch_Keeper_Free {X : Nat → Prop} {t0 t1 : Value} {R : Value → WP} {w : World} (h : sh_epoch_Keeper_Free X t0 t1 R w) : Fn PR X 19 #[t0, t1] w R := fn_of_vc (args := [t0, t1]) mixed Try.func19 (by rw [sh_epoch_Keeper_Free_eq]; exact h)
theorem c_epoch_Keeper_Free {X : Nat → Prop} {t0 t1 : Value} {K : Value → WP} {w : World} (h : Fn PR X 19 #[t0, t1] w K) : cal PR X 19 [t0, t1] K w := ⟨ent_epoch_Keeper_Free, h⟩

def sh_epoch_Keeper_Ripe (X : Nat → Prop) (t0 t1 : Value) (R : Value → WP) : WP :=
  lou PR X (Instr.box 25 t0) fun t2 =>
  lou PR X (Instr.box 30 t1) fun t3 =>
  lou PR X (Instr.alloc 3 true (.tuple #[])) fun t4 =>
  jn (n := 0) (
  sto PR X (Instr.storeAt 3 t4 (.int .i64 (-1))) <|
  unw (rds PR (finS [.c 3 t4]) R)) fun J1 =>
  rds PR (Instr.loadAt 25 t2) fun t8 =>
  cal PR X 25 [t8, (.int .i64 2)] fun t9 =>
  rng (N := 1) PR X (fun t10 K2 =>
  bgn <|
  jn (n := 0) (
  sto PR (fun _ => False) (Instr.storeAt 3 t4 t10) <|
  K2 (some .ret)) fun J3 =>
  rds PR (Instr.loadAt 30 t3) fun t11 =>
  pur PR (builtinS .len #[30] 0 [t11]) fun t12 =>
  lp (n := 1) (fun L4 t13 =>
  pur PR (binOp .lss 3 t13 t12) fun t14 =>
  jn (n := 0) (
  jn (n := 0) (
  pur PR (binOp .add 3 t13 (.int .i64 1)) fun t30 =>
  L4 t30) fun J5 =>
  pur PR (Instr.indexAt 30 t11 t13) fun t15 =>
  rds PR (Instr.loadAt 3 t15) fun t16 =>
  pur PR (binOp .neq 3 t16 (.int .i64 0)) fun t18 =>
  gj t18 true (fun J => J t16) fun t20 =>
  gj t18 true (fun J => rds PR (Instr.loadAt 25 t2) J) fun t21 =>
  gj t18 true (fun J => J t10) fun t22 =>
  gj t18 true (fun J => pur PR (nilc t21) J) fun t23 =>
  gj t18 true (fun J => pur PR (Instr.fieldAt 50 t23 0) J) fun t24 =>
  gj t18 true (fun J => pur PR (Instr.indexAt 48 t24 t22) J) fun t25 =>
  gj t18 true (fun J => pur PR (Instr.fieldAt 47 t25 1) J) fun t26 =>
  gj t18 true (fun J => rds PR (Instr.loadAt 3 t26) J) fun t27 =>
  gj t18 true (fun J => pur PR (binOp .leq 3 t20 t27) J) fun t28 =>
  pur PR (do pure (if ← asBool t18 then t28 else (.bool false))) fun t29 =>
  cnd t29 (
  K2 none) (
  J5)) fun J6 =>
  cnd t14 (
  J6) (
  J3)) (.int .i64 0)) t9 (fun j => match j with | none => (J1) | some (.exit i) => (match Nat.beq i 0 with | true => (J1) | false => (nowp)) | some .ret => (unw (rds PR (finS [.c 3 t4]) R)) | some _ => nowp)
theorem sh_epoch_Keeper_Ripe_eq (X : Nat → Prop) (t0 t1 : Value) (R : Value → WP) : vcFun PR X Try.f16 [t0, t1] R = sh_epoch_Keeper_Ripe X t0 t1 R := by kernel_rfl
theorem ent_epoch_Keeper_Ripe : Enters PR 16 := enters_of Try.func16 (by kernel_rfl) rfl
theorem mk_epoch_Keeper_Ripe {X : Nat → Prop} {t0 t1 : Value} {R : Value → WP} {w : World} (h : sh_epoch_Keeper_Ripe X t0 t1 R w) : Fn PR X 16 #[t0, t1] w R := fn_of_vc (args := [t0, t1]) mixed Try.func16 (by rw [sh_epoch_Keeper_Ripe_eq]; exact h)
theorem c_epoch_Keeper_Ripe {X : Nat → Prop} {t0 t1 : Value} {K : Value → WP} {w : World} (h : Fn PR X 16 #[t0, t1] w K) : cal PR X 16 [t0, t1] K w := ⟨ent_epoch_Keeper_Ripe, h⟩

def sh_gangplanklaw15_works (X : Nat → Prop) (R : Value → WP) : WP :=
  cal PR X 10 [(.int .i64 2)] fun t9 =>
  jn (n := 1) (fun t0 =>
  cal PR X 17 [t9] fun t13 =>
  cal PR X 18 [t9, (.int .i64 0), (.int .i64 5)] fun t15 =>
  lou PR X (Instr.buildSlice 30 2 #[(0, (.int .i64 0)), (1, (.int .i64 5))]) fun t17 =>
  cal PR X 16 [t9, t17] fun t18 =>
  lou PR X (Instr.buildSlice 30 2 #[(0, (.int .i64 0)), (1, (.int .i64 6))]) fun t20 =>
  cal PR X 16 [t9, t20] fun t21 =>
  cal PR X 14 [t9, (.int .i64 0)] fun t23 =>
  cal PR X 19 [t9, (.int .i64 0)] fun t25 =>
  cal PR X 19 [t9, (.int .i64 0)] fun t27 =>
  pur PR (binOp .eql 3 t13 (.int .i64 0)) fun t29 =>
  gj t29 true (fun J => J t15) fun t31 =>
  pur PR (do pure (if ← asBool t29 then t31 else (.bool false))) fun t32 =>
  gj t32 true (fun J => J t18) fun t34 =>
  gj t32 true (fun J => pur PR (binOp .eql 3 t34 (.int .i64 (-1))) J) fun t35 =>
  pur PR (do pure (if ← asBool t32 then t35 else (.bool false))) fun t36 =>
  gj t36 true (fun J => J t21) fun t38 =>
  gj t36 true (fun J => pur PR (binOp .eql 3 t38 (.int .i64 0)) J) fun t39 =>
  pur PR (do pure (if ← asBool t36 then t39 else (.bool false))) fun t40 =>
  gj t40 true (fun J => J t23) fun t42 =>
  gj t40 true (fun J => pur PR (binOp .eql 3 t42 (.int .i64 2)) J) fun t43 =>
  pur PR (do pure (if ← asBool t40 then t43 else (.bool false))) fun t44 =>
  gj t44 true (fun J => J t25) fun t46 =>
  pur PR (do pure (if ← asBool t44 then t46 else (.bool false))) fun t47 =>
  gj t47 true (fun J => J t27) fun t49 =>
  gj t47 true (fun J => pur PR (Op.unary .not t49) J) fun t50 =>
  pur PR (do pure (if ← asBool t47 then t50 else (.bool false))) fun t51 =>
  gj t51 true (fun J => J t9) fun t53 =>
  gj t51 true (fun J => cal PR X 14 [t53, (.int .i64 0)] J) fun t54 =>
  gj t51 true (fun J => pur PR (binOp .eql 3 t54 (.int .i64 0)) J) fun t55 =>
  pur PR (do pure (if ← asBool t51 then t55 else (.bool false))) fun t56 =>
  gj t56 true (fun J => J t9) fun t58 =>
  gj t56 true (fun J => cal PR X 14 [t58, (.int .i64 2)] J) fun t59 =>
  gj t56 true (fun J => pur PR (binOp .eql 3 t59 (.int .i64 (-1))) J) fun t60 =>
  pur PR (do pure (if ← asBool t56 then t60 else (.bool false))) fun t61 =>
  gj t61 true (fun J => J t9) fun t63 =>
  gj t61 true (fun J => cal PR X 17 [t63] J) fun t64 =>
  gj t61 true (fun J => pur PR (binOp .eql 3 t64 (.int .i64 0)) J) fun t65 =>
  pur PR (do pure (if ← asBool t61 then t65 else (.bool false))) fun t66 =>
  gj t66 true (fun J => J t9) fun t68 =>
  gj t66 true (fun J => cal PR X 17 [t68] J) fun t69 =>
  gj t66 true (fun J => pur PR (binOp .eql 3 t69 (.int .i64 1)) J) fun t70 =>
  pur PR (do pure (if ← asBool t66 then t70 else (.bool false))) fun t71 =>
  gj t71 true (fun J => J t9) fun t73 =>
  gj t71 true (fun J => cal PR X 17 [t73] J) fun t74 =>
  gj t71 true (fun J => pur PR (binOp .eql 3 t74 (.int .i64 (-1))) J) fun t75 =>
  pur PR (do pure (if ← asBool t71 then t75 else (.bool false))) fun t76 =>
  R t76) fun J1 =>
  rds PR (eqS .eql 25 (.tmp 10) (.const (.pointer none)) t9 (.pointer none)) fun t11 =>
  cnd t11 (
  R (.bool false)) (
  J1 (.bool false))
theorem sh_gangplanklaw15_works_eq (X : Nat → Prop) (R : Value → WP) : vcFun PR X Try.f8 [] R = sh_gangplanklaw15_works X R := by kernel_rfl
theorem ent_gangplanklaw15_works : Enters PR 8 := enters_of Try.func8 (by kernel_rfl) rfl
theorem mk_gangplanklaw15_works {X : Nat → Prop} {R : Value → WP} {w : World} (h : sh_gangplanklaw15_works X R w) : Fn PR X 8 #[] w R := fn_of_vc (args := []) mixed Try.func8 (by rw [sh_gangplanklaw15_works_eq]; exact h)
theorem c_gangplanklaw15_works {X : Nat → Prop} {K : Value → WP} {w : World} (h : Fn PR X 8 #[] w K) : cal PR X 8 [] K w := ⟨ent_gangplanklaw15_works, h⟩

def sh_gangplanklaw15_few (X : Nat → Prop) (t0 : Value) (R : Value → WP) : WP :=
  jn (n := 1) (fun t2 =>
  jn (n := 1) (fun t2_1 =>
  R (.bool true)) fun J1 =>
  lp (n := 2) (fun L2 t2_2 t3 =>
  jn (n := 0) (
  jn (n := 1) (fun t2_3 =>
  pur PR (binOp .add 3 t3 (.int .i64 1)) fun t12 =>
  L2 t2_3 t12) fun J3 =>
  pur PR (Instr.indexAt 22 t0 t3) fun t15 =>
  pur PR (Instr.fieldAt 32 t15 3) fun t16 =>
  rds PR (Instr.loadAt 30 t16) fun t17 =>
  pur PR (builtinS .len #[30] 0 [t17]) fun t18 =>
  pur PR (binOp .gtr 3 t18 (.int .i64 60)) fun t19 =>
  cnd t19 (
  R (.bool false)) (
  J3 t2_2)) fun J4 =>
  pur PR (builtinS .len #[22] 0 [t0]) fun t9 =>
  pur PR (binOp .lss 3 t3 t9) fun t10 =>
  cnd t10 (
  J4) (
  J1 t2_2)) t2 (.int .i64 0)) fun J5 =>
  pur PR (builtinS .len #[22] 0 [t0]) fun t5 =>
  pur PR (binOp .gtr 3 t5 (.int .i64 60)) fun t6 =>
  cnd t6 (
  R (.bool false)) (
  J5 (.bool false))
theorem sh_gangplanklaw15_few_eq (X : Nat → Prop) (t0 : Value) (R : Value → WP) : vcFun PR X Try.f9 [t0] R = sh_gangplanklaw15_few X t0 R := by kernel_rfl
theorem ent_gangplanklaw15_few : Enters PR 9 := enters_of Try.func9 (by kernel_rfl) rfl
theorem mk_gangplanklaw15_few {X : Nat → Prop} {t0 : Value} {R : Value → WP} {w : World} (h : sh_gangplanklaw15_few X t0 R w) : Fn PR X 9 #[t0] w R := fn_of_vc (args := [t0]) mixed Try.func9 (by rw [sh_gangplanklaw15_few_eq]; exact h)
theorem c_gangplanklaw15_few {X : Nat → Prop} {t0 : Value} {K : Value → WP} {w : World} (h : Fn PR X 9 #[t0] w K) : cal PR X 9 [t0] K w := ⟨ent_gangplanklaw15_few, h⟩

def sh_gangplanklaw15_do (X : Nat → Prop) (t0 t1 : Value) (R : Value → WP) : WP :=
  lou PR X (Instr.box 32 t1) fun t3 =>
  jn (n := 1) (fun t4 =>
  pur PR (Instr.fieldAt 32 t3 3) fun t28 =>
  rds PR (Instr.loadAt 30 t28) fun t29 =>
  cal PR X 16 [t0, t29] fun t30 =>
  R t30) fun J1 =>
  pur PR (Instr.fieldAt 32 t3 0) fun t5 =>
  rds PR (Instr.loadAt 3 t5) fun t6 =>
  pur PR (binOp .eql 3 t6 (.int .i64 0)) fun t8 =>
  cnd t8 (
  cal PR X 17 [t0] fun t10 =>
  R t10) (
  pur PR (binOp .eql 3 t6 (.int .i64 1)) fun t12 =>
  cnd t12 (
  pur PR (Instr.fieldAt 32 t3 1) fun t14 =>
  rds PR (Instr.loadAt 3 t14) fun t15 =>
  pur PR (Instr.fieldAt 32 t3 2) fun t16 =>
  rds PR (Instr.loadAt 3 t16) fun t17 =>
  cal PR X 18 [t0, t15, t17] fun t18 =>
  cal PR X 20 [t18] fun t19 =>
  R t19) (
  pur PR (binOp .eql 3 t6 (.int .i64 2)) fun t21 =>
  cnd t21 (
  pur PR (Instr.fieldAt 32 t3 1) fun t23 =>
  rds PR (Instr.loadAt 3 t23) fun t24 =>
  cal PR X 19 [t0, t24] fun t25 =>
  cal PR X 20 [t25] fun t26 =>
  R t26) (
  J1 (.int .i64 0))))
theorem sh_gangplanklaw15_do_eq (X : Nat → Prop) (t0 t1 : Value) (R : Value → WP) : vcFun PR X Try.f12 [t0, t1] R = sh_gangplanklaw15_do X t0 t1 R := by kernel_rfl
theorem ent_gangplanklaw15_do : Enters PR 12 := enters_of Try.func12 (by kernel_rfl) rfl
theorem mk_gangplanklaw15_do {X : Nat → Prop} {t0 t1 : Value} {R : Value → WP} {w : World} (h : sh_gangplanklaw15_do X t0 t1 R w) : Fn PR X 12 #[t0, t1] w R := fn_of_vc (args := [t0, t1]) mixed Try.func12 (by rw [sh_gangplanklaw15_do_eq]; exact h)
theorem c_gangplanklaw15_do {X : Nat → Prop} {t0 t1 : Value} {K : Value → WP} {w : World} (h : Fn PR X 12 #[t0, t1] w K) : cal PR X 12 [t0, t1] K w := ⟨ent_gangplanklaw15_do, h⟩

def sh_gangplanklaw15_told (X : Nat → Prop) (t0 t1 : Value) (R : Value → WP) : WP :=
  lou PR X (Instr.box 32 t1) fun t3 =>
  jn (n := 2) (fun t4 t5 =>
  pur PR (Instr.fieldAt 32 t3 3) fun t46 =>
  rds PR (Instr.loadAt 30 t46) fun t47 =>
  cal PR X 24 [t0, t47] fun t48 =>
  R (.tuple #[t0, t48])) fun J1 =>
  pur PR (Instr.fieldAt 32 t3 0) fun t10 =>
  rds PR (Instr.loadAt 3 t10) fun t11 =>
  pur PR (binOp .eql 3 t11 (.int .i64 0)) fun t13 =>
  cnd t13 (
  cal PR X 21 [t0] fun t15 =>
  pur PR (Instr.extract t15 0) fun t16 =>
  pur PR (Instr.extract t15 1) fun t17 =>
  R (.tuple #[t16, t17])) (
  pur PR (binOp .eql 3 t11 (.int .i64 1)) fun t19 =>
  cnd t19 (
  pur PR (Instr.fieldAt 32 t3 1) fun t22 =>
  rds PR (Instr.loadAt 3 t22) fun t23 =>
  pur PR (Instr.fieldAt 32 t3 2) fun t24 =>
  rds PR (Instr.loadAt 3 t24) fun t25 =>
  cal PR X 22 [t0, t23, t25] fun t26 =>
  pur PR (Instr.extract t26 0) fun t27 =>
  pur PR (Instr.extract t26 1) fun t28 =>
  cal PR X 20 [t28] fun t31 =>
  R (.tuple #[t27, t31])) (
  pur PR (binOp .eql 3 t11 (.int .i64 2)) fun t33 =>
  cnd t33 (
  pur PR (Instr.fieldAt 32 t3 1) fun t36 =>
  rds PR (Instr.loadAt 3 t36) fun t37 =>
  cal PR X 23 [t0, t37] fun t38 =>
  pur PR (Instr.extract t38 0) fun t39 =>
  pur PR (Instr.extract t38 1) fun t40 =>
  cal PR X 20 [t40] fun t43 =>
  R (.tuple #[t39, t43])) (
  J1 (.slice none 0 0) (.int .i64 0))))
theorem sh_gangplanklaw15_told_eq (X : Nat → Prop) (t0 t1 : Value) (R : Value → WP) : vcFun PR X Try.f13 [t0, t1] R = sh_gangplanklaw15_told X t0 t1 R := by kernel_rfl
theorem ent_gangplanklaw15_told : Enters PR 13 := enters_of Try.func13 (by kernel_rfl) rfl
theorem mk_gangplanklaw15_told {X : Nat → Prop} {t0 t1 : Value} {R : Value → WP} {w : World} (h : sh_gangplanklaw15_told X t0 t1 R w) : Fn PR X 13 #[t0, t1] w R := fn_of_vc (args := [t0, t1]) mixed Try.func13 (by rw [sh_gangplanklaw15_told_eq]; exact h)
theorem c_gangplanklaw15_told {X : Nat → Prop} {t0 t1 : Value} {K : Value → WP} {w : World} (h : Fn PR X 13 #[t0, t1] w K) : cal PR X 13 [t0, t1] K w := ⟨ent_gangplanklaw15_told, h⟩

def sh_gangplanklaw15_number (X : Nat → Prop) (t0 : Value) (R : Value → WP) : WP :=
  jn (n := 1) (fun t2 =>
  R (.int .i64 0)) fun J1 =>
  cnd t0 (
  R (.int .i64 1)) (
  J1 (.int .i64 0))
theorem sh_gangplanklaw15_number_eq (X : Nat → Prop) (t0 : Value) (R : Value → WP) : vcFun PR X Try.f20 [t0] R = sh_gangplanklaw15_number X t0 R := by kernel_rfl
theorem ent_gangplanklaw15_number : Enters PR 20 := enters_of Try.func20 (by kernel_rfl) rfl
theorem mk_gangplanklaw15_number {X : Nat → Prop} {t0 : Value} {R : Value → WP} {w : World} (h : sh_gangplanklaw15_number X t0 R w) : Fn PR X 20 #[t0] w R := fn_of_vc (args := [t0]) mixed Try.func20 (by rw [sh_gangplanklaw15_number_eq]; exact h)
theorem c_gangplanklaw15_number {X : Nat → Prop} {t0 : Value} {K : Value → WP} {w : World} (h : Fn PR X 20 #[t0] w K) : cal PR X 20 [t0] K w := ⟨ent_gangplanklaw15_number, h⟩

def sh_gangplankref15_New (X : Nat → Prop) (t0 : Value) (R : Value → WP) : WP :=
  pur PR (builtinS .min #[3, 3] 0 [t0, (.int .i64 8)]) fun t4 =>
  pur PR (builtinS .max #[3, 3] 0 [(.int .i64 0), t4]) fun t5 =>
  lou PR X (Instr.makeSlice 27 t5 t5) fun t6 =>
  R t6
theorem sh_gangplankref15_New_eq (X : Nat → Prop) (t0 : Value) (R : Value → WP) : vcFun PR X Try.f11 [t0] R = sh_gangplankref15_New X t0 R := by kernel_rfl
theorem ent_gangplankref15_New : Enters PR 11 := enters_of Try.func11 (by kernel_rfl) rfl
theorem mk_gangplankref15_New {X : Nat → Prop} {t0 : Value} {R : Value → WP} {w : World} (h : sh_gangplankref15_New X t0 R w) : Fn PR X 11 #[t0] w R := fn_of_vc (args := [t0]) mixed Try.func11 (by rw [sh_gangplankref15_New_eq]; exact h)
theorem c_gangplankref15_New {X : Nat → Prop} {t0 : Value} {K : Value → WP} {w : World} (h : Fn PR X 11 #[t0] w K) : cal PR X 11 [t0] K w := ⟨ent_gangplankref15_New, h⟩

def sh_gangplankref15_State (X : Nat → Prop) (t0 t1 : Value) (R : Value → WP) : WP :=
  jn (n := 1) (fun t4 =>
  pur PR (Instr.indexAt 27 t0 t1) fun t15 =>
  pur PR (Instr.fieldAt 58 t15 0) fun t16 =>
  rds PR (Instr.loadAt 3 t16) fun t17 =>
  R t17) fun J1 =>
  pur PR (binOp .lss 3 t1 (.int .i64 0)) fun t6 =>
  gj t6 false (fun J => J t1) fun t8 =>
  gj t6 false (fun J => J t0) fun t9 =>
  gj t6 false (fun J => pur PR (builtinS .len #[27] 0 [t9]) J) fun t10 =>
  gj t6 false (fun J => pur PR (binOp .geq 3 t8 t10) J) fun t11 =>
  pur PR (do pure (if ← asBool t6 then (.bool true) else t11)) fun t12 =>
  cnd t12 (
  R (.int .i64 (-1))) (
  J1 (.int .i64 0))
theorem sh_gangplankref15_State_eq (X : Nat → Prop) (t0 t1 : Value) (R : Value → WP) : vcFun PR X Try.f15 [t0, t1] R = sh_gangplankref15_State X t0 t1 R := by kernel_rfl
theorem ent_gangplankref15_State : Enters PR 15 := enters_of Try.func15 (by kernel_rfl) rfl
theorem mk_gangplankref15_State {X : Nat → Prop} {t0 t1 : Value} {R : Value → WP} {w : World} (h : sh_gangplankref15_State X t0 t1 R w) : Fn PR X 15 #[t0, t1] w R := fn_of_vc (args := [t0, t1]) mixed Try.func15 (by rw [sh_gangplankref15_State_eq]; exact h)
theorem c_gangplankref15_State {X : Nat → Prop} {t0 t1 : Value} {K : Value → WP} {w : World} (h : Fn PR X 15 #[t0, t1] w K) : cal PR X 15 [t0, t1] K w := ⟨ent_gangplankref15_State, h⟩

def sh_gangplankref15_with (X : Nat → Prop) (t0 t1 t2 : Value) (R : Value → WP) : WP :=
  lou PR X (Instr.box 58 t2) fun t5 =>
  lou PR X (Instr.buildSlice 27 0 #[]) fun t8 =>
  lou PR X (builtinS .append #[27, 27] 27 [t8, t0]) fun t10 =>
  rds PR (Instr.loadAt 58 t5) fun t13 =>
  pur PR (Instr.indexAt 27 t10 t1) fun t14 =>
  sto PR X (Instr.storeAt 58 t14 t13) <|
  R t10
theorem sh_gangplankref15_with_eq (X : Nat → Prop) (t0 t1 t2 : Value) (R : Value → WP) : vcFun PR X Try.f27 [t0, t1, t2] R = sh_gangplankref15_with X t0 t1 t2 R := by kernel_rfl
theorem ent_gangplankref15_with : Enters PR 27 := enters_of Try.func27 (by kernel_rfl) rfl
theorem mk_gangplankref15_with {X : Nat → Prop} {t0 t1 t2 : Value} {R : Value → WP} {w : World} (h : sh_gangplankref15_with X t0 t1 t2 R w) : Fn PR X 27 #[t0, t1, t2] w R := fn_of_vc (args := [t0, t1, t2]) mixed Try.func27 (by rw [sh_gangplankref15_with_eq]; exact h)
theorem c_gangplankref15_with {X : Nat → Prop} {t0 t1 t2 : Value} {K : Value → WP} {w : World} (h : Fn PR X 27 #[t0, t1, t2] w K) : cal PR X 27 [t0, t1, t2] K w := ⟨ent_gangplankref15_with, h⟩

def sh_gangplankref15_Take (X : Nat → Prop) (t0 : Value) (R : Value → WP) : WP :=
  jn (n := 2) (fun t2 t3 =>
  R (.tuple #[t0, (.int .i64 (-1))])) fun J1 =>
  lp (n := 3) (fun L2 t2_1 t3_1 t4 =>
  jn (n := 0) (
  jn (n := 2) (fun t2_2 t3_2 =>
  pur PR (binOp .add 3 t4 (.int .i64 1)) fun t10 =>
  L2 t2_2 t3_2 t10) fun J3 =>
  pur PR (Instr.indexAt 27 t0 t4) fun t13 =>
  pur PR (Instr.fieldAt 58 t13 0) fun t14 =>
  rds PR (Instr.loadAt 3 t14) fun t15 =>
  pur PR (binOp .eql 3 t15 (.int .i64 0)) fun t16 =>
  cnd t16 (
  pur PR (Instr.build 58 #[(0, (.int .i64 1))]) fun t19 =>
  cal PR X 27 [t0, t4, t19] fun t20 =>
  R (.tuple #[t20, t4])) (
  J3 t2_1 t3_1)) fun J4 =>
  pur PR (builtinS .len #[27] 0 [t0]) fun t7 =>
  pur PR (binOp .lss 3 t4 t7) fun t8 =>
  cnd t8 (
  J4) (
  J1 t2_1 t3_1)) (.slice none 0 0) (.int .i64 0) (.int .i64 0)
theorem sh_gangplankref15_Take_eq (X : Nat → Prop) (t0 : Value) (R : Value → WP) : vcFun PR X Try.f21 [t0] R = sh_gangplankref15_Take X t0 R := by kernel_rfl
theorem ent_gangplankref15_Take : Enters PR 21 := enters_of Try.func21 (by kernel_rfl) rfl
theorem mk_gangplankref15_Take {X : Nat → Prop} {t0 : Value} {R : Value → WP} {w : World} (h : sh_gangplankref15_Take X t0 R w) : Fn PR X 21 #[t0] w R := fn_of_vc (args := [t0]) mixed Try.func21 (by rw [sh_gangplankref15_Take_eq]; exact h)
theorem c_gangplankref15_Take {X : Nat → Prop} {t0 : Value} {K : Value → WP} {w : World} (h : Fn PR X 21 #[t0] w K) : cal PR X 21 [t0] K w := ⟨ent_gangplankref15_Take, h⟩

def sh_gangplankref15_Retire (X : Nat → Prop) (t0 t1 t2 : Value) (R : Value → WP) : WP :=
  jn (n := 2) (fun t6 t7 =>
  pur PR (Instr.build 58 #[(0, (.int .i64 2)), (1, t2)]) fun t16 =>
  cal PR X 27 [t0, t1, t16] fun t17 =>
  R (.tuple #[t17, (.bool true)])) fun J1 =>
  cal PR X 15 [t0, t1] fun t10 =>
  pur PR (binOp .neq 3 t10 (.int .i64 1)) fun t11 =>
  cnd t11 (
  R (.tuple #[t0, (.bool false)])) (
  J1 (.slice none 0 0) (.bool false))
theorem sh_gangplankref15_Retire_eq (X : Nat → Prop) (t0 t1 t2 : Value) (R : Value → WP) : vcFun PR X Try.f22 [t0, t1, t2] R = sh_gangplankref15_Retire X t0 t1 t2 R := by kernel_rfl
theorem ent_gangplankref15_Retire : Enters PR 22 := enters_of Try.func22 (by kernel_rfl) rfl
theorem mk_gangplankref15_Retire {X : Nat → Prop} {t0 t1 t2 : Value} {R : Value → WP} {w : World} (h : sh_gangplankref15_Retire X t0 t1 t2 R w) : Fn PR X 22 #[t0, t1, t2] w R := fn_of_vc (args := [t0, t1, t2]) mixed Try.func22 (by rw [sh_gangplankref15_Retire_eq]; exact h)
theorem c_gangplankref15_Retire {X : Nat → Prop} {t0 t1 t2 : Value} {K : Value → WP} {w : World} (h : Fn PR X 22 #[t0, t1, t2] w K) : cal PR X 22 [t0, t1, t2] K w := ⟨ent_gangplankref15_Retire, h⟩

def sh_gangplankref15_Free (X : Nat → Prop) (t0 t1 : Value) (R : Value → WP) : WP :=
  jn (n := 2) (fun t4 t5 =>
  pur PR (Instr.build 58 #[]) fun t13 =>
  cal PR X 27 [t0, t1, t13] fun t14 =>
  R (.tuple #[t14, (.bool true)])) fun J1 =>
  cal PR X 15 [t0, t1] fun t8 =>
  pur PR (binOp .neq 3 t8 (.int .i64 2)) fun t9 =>
  cnd t9 (
  R (.tuple #[t0, (.bool false)])) (
  J1 (.slice none 0 0) (.bool false))
theorem sh_gangplankref15_Free_eq (X : Nat → Prop) (t0 t1 : Value) (R : Value → WP) : vcFun PR X Try.f23 [t0, t1] R = sh_gangplankref15_Free X t0 t1 R := by kernel_rfl
theorem ent_gangplankref15_Free : Enters PR 23 := enters_of Try.func23 (by kernel_rfl) rfl
theorem mk_gangplankref15_Free {X : Nat → Prop} {t0 t1 : Value} {R : Value → WP} {w : World} (h : sh_gangplankref15_Free X t0 t1 R w) : Fn PR X 23 #[t0, t1] w R := fn_of_vc (args := [t0, t1]) mixed Try.func23 (by rw [sh_gangplankref15_Free_eq]; exact h)
theorem c_gangplankref15_Free {X : Nat → Prop} {t0 t1 : Value} {K : Value → WP} {w : World} (h : Fn PR X 23 #[t0, t1] w K) : cal PR X 23 [t0, t1] K w := ⟨ent_gangplankref15_Free, h⟩

def sh_gangplankref15_above (X : Nat → Prop) (t0 t1 : Value) (R : Value → WP) : WP :=
  jn (n := 1) (fun t4 =>
  R (.bool true)) fun J1 =>
  lp (n := 2) (fun L2 t4_1 t5 =>
  jn (n := 0) (
  jn (n := 1) (fun t4_2 =>
  pur PR (binOp .add 3 t5 (.int .i64 1)) fun t11 =>
  L2 t4_2 t11) fun J3 =>
  pur PR (Instr.indexAt 30 t0 t5) fun t14 =>
  rds PR (Instr.loadAt 3 t14) fun t15 =>
  pur PR (binOp .neq 3 t15 (.int .i64 0)) fun t16 =>
  gj t16 true (fun J => J t0) fun t18 =>
  gj t16 true (fun J => J t5) fun t19 =>
  gj t16 true (fun J => pur PR (Instr.indexAt 30 t18 t19) J) fun t20 =>
  gj t16 true (fun J => rds PR (Instr.loadAt 3 t20) J) fun t21 =>
  gj t16 true (fun J => J t1) fun t22 =>
  gj t16 true (fun J => pur PR (binOp .leq 3 t21 t22) J) fun t23 =>
  pur PR (do pure (if ← asBool t16 then t23 else (.bool false))) fun t24 =>
  cnd t24 (
  R (.bool false)) (
  J3 t4_1)) fun J4 =>
  pur PR (builtinS .len #[30] 0 [t0]) fun t8 =>
  pur PR (binOp .lss 3 t5 t8) fun t9 =>
  cnd t9 (
  J4) (
  J1 t4_1)) (.bool false) (.int .i64 0)
theorem sh_gangplankref15_above_eq (X : Nat → Prop) (t0 t1 : Value) (R : Value → WP) : vcFun PR X Try.f28 [t0, t1] R = sh_gangplankref15_above X t0 t1 R := by kernel_rfl
theorem ent_gangplankref15_above : Enters PR 28 := enters_of Try.func28 (by kernel_rfl) rfl
theorem mk_gangplankref15_above {X : Nat → Prop} {t0 t1 : Value} {R : Value → WP} {w : World} (h : sh_gangplankref15_above X t0 t1 R w) : Fn PR X 28 #[t0, t1] w R := fn_of_vc (args := [t0, t1]) mixed Try.func28 (by rw [sh_gangplankref15_above_eq]; exact h)
theorem c_gangplankref15_above {X : Nat → Prop} {t0 t1 : Value} {K : Value → WP} {w : World} (h : Fn PR X 28 #[t0, t1] w K) : cal PR X 28 [t0, t1] K w := ⟨ent_gangplankref15_above, h⟩

def sh_gangplankref15_Ripe (X : Nat → Prop) (t0 t1 : Value) (R : Value → WP) : WP :=
  jn (n := 1) (fun t4 =>
  R (.int .i64 (-1))) fun J1 =>
  lp (n := 2) (fun L2 t4_1 t5 =>
  jn (n := 0) (
  jn (n := 1) (fun t4_2 =>
  pur PR (binOp .add 3 t5 (.int .i64 1)) fun t11 =>
  L2 t4_2 t11) fun J3 =>
  pur PR (Instr.indexAt 27 t0 t5) fun t14 =>
  pur PR (Instr.fieldAt 58 t14 0) fun t15 =>
  rds PR (Instr.loadAt 3 t15) fun t16 =>
  pur PR (binOp .eql 3 t16 (.int .i64 2)) fun t17 =>
  gj t17 true (fun J => J t1) fun t19 =>
  gj t17 true (fun J => J t0) fun t20 =>
  gj t17 true (fun J => J t5) fun t21 =>
  gj t17 true (fun J => pur PR (Instr.indexAt 27 t20 t21) J) fun t22 =>
  gj t17 true (fun J => pur PR (Instr.fieldAt 58 t22 1) J) fun t23 =>
  gj t17 true (fun J => rds PR (Instr.loadAt 3 t23) J) fun t24 =>
  gj t17 true (fun J => cal PR X 28 [t19, t24] J) fun t25 =>
  pur PR (do pure (if ← asBool t17 then t25 else (.bool false))) fun t26 =>
  cnd t26 (
  R t5) (
  J3 t4_1)) fun J4 =>
  pur PR (builtinS .len #[27] 0 [t0]) fun t8 =>
  pur PR (binOp .lss 3 t5 t8) fun t9 =>
  cnd t9 (
  J4) (
  J1 t4_1)) (.int .i64 0) (.int .i64 0)
theorem sh_gangplankref15_Ripe_eq (X : Nat → Prop) (t0 t1 : Value) (R : Value → WP) : vcFun PR X Try.f24 [t0, t1] R = sh_gangplankref15_Ripe X t0 t1 R := by kernel_rfl
theorem ent_gangplankref15_Ripe : Enters PR 24 := enters_of Try.func24 (by kernel_rfl) rfl
theorem mk_gangplankref15_Ripe {X : Nat → Prop} {t0 t1 : Value} {R : Value → WP} {w : World} (h : sh_gangplankref15_Ripe X t0 t1 R w) : Fn PR X 24 #[t0, t1] w R := fn_of_vc (args := [t0, t1]) mixed Try.func24 (by rw [sh_gangplankref15_Ripe_eq]; exact h)
theorem c_gangplankref15_Ripe {X : Nat → Prop} {t0 t1 : Value} {K : Value → WP} {w : World} (h : Fn PR X 24 #[t0, t1] w K) : cal PR X 24 [t0, t1] K w := ⟨ent_gangplankref15_Ripe, h⟩

def sh_gangplanklaw15_EpochDoes (X : Nat → Prop) (t0 t1 t2 : Value) (R : Value → WP) : WP :=
  cal PR X 8 [] fun t14 =>
  jn (n := 1) (fun t6 =>
  jn (n := 1) (fun t6_1 =>
  cal PR X 10 [t0] fun t22 =>
  jn (n := 1) (fun t6_2 =>
  cal PR X 11 [t0] fun t26 =>
  jn (n := 2) (fun t9 t6_3 =>
  R t14) fun J1 =>
  lp (n := 3) (fun L2 t9_1 t6_4 t10 =>
  jn (n := 0) (
  jn (n := 2) (fun t9_2 t6_5 =>
  pur PR (binOp .add 3 t10 (.int .i64 1)) fun t32 =>
  L2 t9_2 t6_5 t32) fun J3 =>
  pur PR (Instr.indexAt 22 t1 t10) fun t36 =>
  rds PR (Instr.loadAt 32 t36) fun t37 =>
  cal PR X 12 [t22, t37] fun t38 =>
  pur PR (Instr.indexAt 22 t1 t10) fun t43 =>
  rds PR (Instr.loadAt 32 t43) fun t44 =>
  cal PR X 13 [t9_1, t44] fun t45 =>
  pur PR (Instr.extract t45 0) fun t46 =>
  pur PR (Instr.extract t45 1) fun t47 =>
  pur PR (binOp .neq 3 t38 t47) fun t51 =>
  gj t51 false (fun J => J t22) fun t53 =>
  gj t51 false (fun J => J t2) fun t54 =>
  gj t51 false (fun J => cal PR X 14 [t53, t54] J) fun t55 =>
  gj t51 false (fun J => J t46) fun t56 =>
  gj t51 false (fun J => J t2) fun t57 =>
  gj t51 false (fun J => cal PR X 15 [t56, t57] J) fun t58 =>
  gj t51 false (fun J => pur PR (binOp .neq 3 t55 t58) J) fun t59 =>
  pur PR (do pure (if ← asBool t51 then (.bool true) else t59)) fun t60 =>
  cnd t60 (
  R (.bool false)) (
  J3 t46 t6_4)) fun J4 =>
  pur PR (builtinS .len #[22] 0 [t1]) fun t29 =>
  pur PR (binOp .lss 3 t10 t29) fun t30 =>
  cnd t30 (
  J4) (
  J1 t9_1 t6_4)) t26 t6_2 (.int .i64 0)) fun J5 =>
  rds PR (eqS .eql 25 (.tmp 23) (.const (.pointer none)) t22 (.pointer none)) fun t24 =>
  cnd t24 (
  R (.bool false)) (
  J5 t6_1)) fun J6 =>
  cal PR X 9 [t1] fun t18 =>
  pur PR (Op.unary .not t18) fun t19 =>
  cnd t19 (
  R t14) (
  J6 t6)) fun J7 =>
  pur PR (Op.unary .not t14) fun t16 =>
  cnd t16 (
  R (.bool false)) (
  J7 (.bool false))
theorem sh_gangplanklaw15_EpochDoes_eq (X : Nat → Prop) (t0 t1 t2 : Value) (R : Value → WP) : vcFun PR X Try.f3 [t0, t1, t2] R = sh_gangplanklaw15_EpochDoes X t0 t1 t2 R := by kernel_rfl
theorem ent_gangplanklaw15_EpochDoes : Enters PR 3 := enters_of Try.func3 (by kernel_rfl) rfl
theorem mk_gangplanklaw15_EpochDoes {X : Nat → Prop} {t0 t1 t2 : Value} {R : Value → WP} {w : World} (h : sh_gangplanklaw15_EpochDoes X t0 t1 t2 R w) : Fn PR X 3 #[t0, t1, t2] w R := fn_of_vc (args := [t0, t1, t2]) mixed Try.func3 (by rw [sh_gangplanklaw15_EpochDoes_eq]; exact h)
theorem c_gangplanklaw15_EpochDoes {X : Nat → Prop} {t0 t1 t2 : Value} {K : Value → WP} {w : World} (h : Fn PR X 3 #[t0, t1, t2] w K) : cal PR X 3 [t0, t1, t2] K w := ⟨ent_gangplanklaw15_EpochDoes, h⟩

def sh_gangplanklaw15_EpochOne (X : Nat → Prop) (t0 t1 : Value) (R : Value → WP) : WP :=
  cal PR X 8 [] fun t11 =>
  jn (n := 1) (fun t4 =>
  jn (n := 1) (fun t4_1 =>
  cal PR X 10 [t0] fun t19 =>
  jn (n := 1) (fun t4_2 =>
  lou PR X (Instr.makeSlice 30 (.int .i64 8) (.int .i64 8)) fun t22 =>
  jn (n := 1) (fun t4_3 =>
  jn (n := 1) (fun t4_4 =>
  R t11) fun J1 =>
  lp (n := 2) (fun L2 t4_5 t10 =>
  jn (n := 0) (
  jn (n := 1) (fun t4_6 =>
  pur PR (binOp .add 3 t10 (.int .i64 1)) fun t144 =>
  L2 t4_6 t144) fun J3 =>
  drw <|
  pur PR (Instr.indexAt 30 t22 t10) fun t150 =>
  rds PR (Instr.loadAt 3 t150) fun t151 =>
  cal PR X 14 [t19, t10] fun t147 =>
  watch PR [(none, (Instr.loadAt 3 t150), t151)] <|
  pur PR (binOp .neq 3 t147 t151) fun t152 =>
  gj t152 true (fun J => J t19) fun t154 =>
  gj t152 true (fun J => J t10) fun t155 =>
  gj t152 true (fun J => cal PR X 14 [t154, t155] J) fun t156 =>
  gj t152 true (fun J => pur PR (binOp .neq 3 t156 (.int .i64 (-1))) J) fun t157 =>
  gj t152 true (fun J => J t157) fun t158 =>
  gj t158 false (fun J => J t22) fun t159 =>
  gj t158 false (fun J => J t10) fun t160 =>
  gj t158 false (fun J => pur PR (Instr.indexAt 30 t159 t160) J) fun t161 =>
  gj t158 false (fun J => rds PR (Instr.loadAt 3 t161) J) fun t162 =>
  gj t158 false (fun J => pur PR (binOp .neq 3 t162 (.int .i64 0)) J) fun t163 =>
  gj t152 true (fun J => pur PR (do pure (if ← asBool t158 then (.bool true) else t163)) J) fun t164 =>
  pur PR (do pure (if ← asBool t152 then t164 else (.bool false))) fun t165 =>
  cnd t165 (
  R (.bool false)) (
  J3 t4_5)) fun J4 =>
  pur PR (binOp .lss 3 t10 (.int .i64 8)) fun t142 =>
  cnd t142 (
  J4) (
  J1 t4_5)) t4_3 (.int .i64 0)) fun J5 =>
  lp (n := 2) (fun L6 t4_7 t8 =>
  jn (n := 0) (
  jn (n := 1) (fun t4_8 =>
  pur PR (binOp .add 3 t8 (.int .i64 1)) fun t28 =>
  L6 t4_8 t28) fun J7 =>
  pur PR (Instr.indexAt 22 t1 t8) fun t32 =>
  rds PR (Instr.loadAt 32 t32) fun t33 =>
  cal PR X 12 [t19, t33] fun t34 =>
  jn (n := 1) (fun t4_9 =>
  jn (n := 1) (fun t4_10 =>
  pur PR (Instr.indexAt 22 t1 t8) fun t101 =>
  pur PR (Instr.fieldAt 32 t101 0) fun t102 =>
  rds PR (Instr.loadAt 3 t102) fun t103 =>
  pur PR (binOp .eql 3 t103 (.int .i64 2)) fun t104 =>
  gj t104 true (fun J => J t34) fun t106 =>
  gj t104 true (fun J => pur PR (binOp .eql 3 t106 (.int .i64 1)) J) fun t107 =>
  pur PR (do pure (if ← asBool t104 then t107 else (.bool false))) fun t108 =>
  cnd t108 (
  jn (n := 1) (fun t4_11 =>
  pur PR (Instr.indexAt 22 t1 t8) fun t137 =>
  pur PR (Instr.fieldAt 32 t137 1) fun t138 =>
  rds PR (Instr.loadAt 3 t138) fun t139 =>
  pur PR (Instr.indexAt 30 t22 t139) fun t140 =>
  sto PR X (Instr.storeAt 3 t140 (.int .i64 0)) <|
  J7 t4_11) fun J8 =>
  pur PR (Instr.indexAt 22 t1 t8) fun t111 =>
  pur PR (Instr.fieldAt 32 t111 1) fun t112 =>
  rds PR (Instr.loadAt 3 t112) fun t113 =>
  pur PR (binOp .lss 3 t113 (.int .i64 0)) fun t114 =>
  gj t114 false (fun J => J t1) fun t116 =>
  gj t114 false (fun J => J t8) fun t117 =>
  gj t114 false (fun J => pur PR (Instr.indexAt 22 t116 t117) J) fun t118 =>
  gj t114 false (fun J => pur PR (Instr.fieldAt 32 t118 1) J) fun t119 =>
  gj t114 false (fun J => rds PR (Instr.loadAt 3 t119) J) fun t120 =>
  gj t114 false (fun J => pur PR (binOp .geq 3 t120 (.int .i64 8)) J) fun t121 =>
  pur PR (do pure (if ← asBool t114 then (.bool true) else t121)) fun t122 =>
  gj t122 false (fun J => J t22) fun t124 =>
  gj t122 false (fun J => J t1) fun t125 =>
  gj t122 false (fun J => J t8) fun t126 =>
  gj t122 false (fun J => pur PR (Instr.indexAt 22 t125 t126) J) fun t127 =>
  gj t122 false (fun J => pur PR (Instr.fieldAt 32 t127 1) J) fun t128 =>
  gj t122 false (fun J => rds PR (Instr.loadAt 3 t128) J) fun t129 =>
  gj t122 false (fun J => pur PR (Instr.indexAt 30 t124 t129) J) fun t130 =>
  gj t122 false (fun J => rds PR (Instr.loadAt 3 t130) J) fun t131 =>
  gj t122 false (fun J => pur PR (binOp .neq 3 t131 (.int .i64 2)) J) fun t132 =>
  pur PR (do pure (if ← asBool t122 then (.bool true) else t132)) fun t133 =>
  cnd t133 (
  R (.bool false)) (
  J8 t4_10)) (
  J7 t4_10)) fun J9 =>
  pur PR (Instr.indexAt 22 t1 t8) fun t59 =>
  pur PR (Instr.fieldAt 32 t59 0) fun t60 =>
  rds PR (Instr.loadAt 3 t60) fun t61 =>
  pur PR (binOp .eql 3 t61 (.int .i64 1)) fun t62 =>
  gj t62 true (fun J => J t34) fun t64 =>
  gj t62 true (fun J => pur PR (binOp .eql 3 t64 (.int .i64 1)) J) fun t65 =>
  pur PR (do pure (if ← asBool t62 then t65 else (.bool false))) fun t66 =>
  cnd t66 (
  jn (n := 1) (fun t4_12 =>
  pur PR (Instr.indexAt 22 t1 t8) fun t95 =>
  pur PR (Instr.fieldAt 32 t95 1) fun t96 =>
  rds PR (Instr.loadAt 3 t96) fun t97 =>
  pur PR (Instr.indexAt 30 t22 t97) fun t98 =>
  sto PR X (Instr.storeAt 3 t98 (.int .i64 2)) <|
  J9 t4_12) fun J10 =>
  pur PR (Instr.indexAt 22 t1 t8) fun t69 =>
  pur PR (Instr.fieldAt 32 t69 1) fun t70 =>
  rds PR (Instr.loadAt 3 t70) fun t71 =>
  pur PR (binOp .lss 3 t71 (.int .i64 0)) fun t72 =>
  gj t72 false (fun J => J t1) fun t74 =>
  gj t72 false (fun J => J t8) fun t75 =>
  gj t72 false (fun J => pur PR (Instr.indexAt 22 t74 t75) J) fun t76 =>
  gj t72 false (fun J => pur PR (Instr.fieldAt 32 t76 1) J) fun t77 =>
  gj t72 false (fun J => rds PR (Instr.loadAt 3 t77) J) fun t78 =>
  gj t72 false (fun J => pur PR (binOp .geq 3 t78 (.int .i64 8)) J) fun t79 =>
  pur PR (do pure (if ← asBool t72 then (.bool true) else t79)) fun t80 =>
  gj t80 false (fun J => J t22) fun t82 =>
  gj t80 false (fun J => J t1) fun t83 =>
  gj t80 false (fun J => J t8) fun t84 =>
  gj t80 false (fun J => pur PR (Instr.indexAt 22 t83 t84) J) fun t85 =>
  gj t80 false (fun J => pur PR (Instr.fieldAt 32 t85 1) J) fun t86 =>
  gj t80 false (fun J => rds PR (Instr.loadAt 3 t86) J) fun t87 =>
  gj t80 false (fun J => pur PR (Instr.indexAt 30 t82 t87) J) fun t88 =>
  gj t80 false (fun J => rds PR (Instr.loadAt 3 t88) J) fun t89 =>
  gj t80 false (fun J => pur PR (binOp .neq 3 t89 (.int .i64 1)) J) fun t90 =>
  pur PR (do pure (if ← asBool t80 then (.bool true) else t90)) fun t91 =>
  cnd t91 (
  R (.bool false)) (
  J10 t4_9)) (
  J9 t4_9)) fun J11 =>
  pur PR (Instr.indexAt 22 t1 t8) fun t37 =>
  pur PR (Instr.fieldAt 32 t37 0) fun t38 =>
  rds PR (Instr.loadAt 3 t38) fun t39 =>
  pur PR (binOp .eql 3 t39 (.int .i64 0)) fun t40 =>
  gj t40 true (fun J => J t34) fun t42 =>
  gj t40 true (fun J => pur PR (binOp .geq 3 t42 (.int .i64 0)) J) fun t43 =>
  pur PR (do pure (if ← asBool t40 then t43 else (.bool false))) fun t44 =>
  cnd t44 (
  jn (n := 1) (fun t4_13 =>
  pur PR (Instr.indexAt 30 t22 t34) fun t56 =>
  sto PR X (Instr.storeAt 3 t56 (.int .i64 1)) <|
  J11 t4_13) fun J12 =>
  pur PR (binOp .geq 3 t34 (.int .i64 8)) fun t46 =>
  gj t46 false (fun J => J t22) fun t48 =>
  gj t46 false (fun J => J t34) fun t49 =>
  gj t46 false (fun J => pur PR (Instr.indexAt 30 t48 t49) J) fun t50 =>
  gj t46 false (fun J => rds PR (Instr.loadAt 3 t50) J) fun t51 =>
  gj t46 false (fun J => pur PR (binOp .neq 3 t51 (.int .i64 0)) J) fun t52 =>
  pur PR (do pure (if ← asBool t46 then (.bool true) else t52)) fun t53 =>
  cnd t53 (
  R (.bool false)) (
  J12 t4_7)) (
  J11 t4_7)) fun J13 =>
  pur PR (builtinS .len #[22] 0 [t1]) fun t25 =>
  pur PR (binOp .lss 3 t8 t25) fun t26 =>
  cnd t26 (
  J13) (
  J5 t4_7)) t4_2 (.int .i64 0)) fun J14 =>
  rds PR (eqS .eql 25 (.tmp 20) (.const (.pointer none)) t19 (.pointer none)) fun t21 =>
  cnd t21 (
  R (.bool false)) (
  J14 t4_1)) fun J15 =>
  cal PR X 9 [t1] fun t15 =>
  pur PR (Op.unary .not t15) fun t16 =>
  cnd t16 (
  R t11) (
  J15 t4)) fun J16 =>
  pur PR (Op.unary .not t11) fun t13 =>
  cnd t13 (
  R (.bool false)) (
  J16 (.bool false))
theorem sh_gangplanklaw15_EpochOne_eq (X : Nat → Prop) (t0 t1 : Value) (R : Value → WP) : vcFun PR X Try.f4 [t0, t1] R = sh_gangplanklaw15_EpochOne X t0 t1 R := by kernel_rfl
theorem ent_gangplanklaw15_EpochOne : Enters PR 4 := enters_of Try.func4 (by kernel_rfl) rfl
theorem mk_gangplanklaw15_EpochOne {X : Nat → Prop} {t0 t1 : Value} {R : Value → WP} {w : World} (h : sh_gangplanklaw15_EpochOne X t0 t1 R w) : Fn PR X 4 #[t0, t1] w R := fn_of_vc (args := [t0, t1]) mixed Try.func4 (by rw [sh_gangplanklaw15_EpochOne_eq]; exact h)
theorem c_gangplanklaw15_EpochOne {X : Nat → Prop} {t0 t1 : Value} {K : Value → WP} {w : World} (h : Fn PR X 4 #[t0, t1] w K) : cal PR X 4 [t0, t1] K w := ⟨ent_gangplanklaw15_EpochOne, h⟩

def sh_gangplanklaw15_EpochRipe (X : Nat → Prop) (t0 t1 t2 t3 : Value) (R : Value → WP) : WP :=
  cal PR X 8 [] fun t17 =>
  jn (n := 1) (fun t8 =>
  jn (n := 1) (fun t8_1 =>
  cal PR X 10 [t0] fun t30 =>
  jn (n := 1) (fun t8_2 =>
  lou PR X (Instr.makeSlice 30 (.int .i64 8) (.int .i64 8)) fun t33 =>
  jn (n := 0) (
  cal PR X 16 [t30, t2] fun t86 =>
  jn (n := 1) (fun t8_3 =>
  jn (n := 1) (fun t8_4 =>
  lou PR X (Instr.buildSlice 30 0 #[]) fun t130 =>
  lou PR X (builtinS .append #[30, 30] 30 [t130, t2]) fun t132 =>
  lou PR X (Instr.buildSlice 30 1 #[(0, t3)]) fun t134 =>
  lou PR X (builtinS .append #[30, 30] 30 [t132, t134]) fun t135 =>
  cal PR X 16 [t30, t135] fun t136 =>
  jn (n := 1) (fun t8_5 =>
  gj t17 true (fun J => J t30) fun t150 =>
  gj t17 true (fun J => lou PR X (Instr.buildSlice 30 1 #[(0, (.int .i64 0))]) J) fun t151 =>
  gj t17 true (fun J => J t2) fun t152 =>
  gj t17 true (fun J => lou PR X (builtinS .append #[30, 30] 30 [t151, t152]) J) fun t153 =>
  gj t17 true (fun J => cal PR X 16 [t150, t153] J) fun t154 =>
  gj t17 true (fun J => J t86) fun t155 =>
  gj t17 true (fun J => pur PR (binOp .eql 3 t154 t155) J) fun t156 =>
  pur PR (do pure (if ← asBool t17 then t156 else (.bool false))) fun t157 =>
  gj t157 true (fun J => J t136) fun t159 =>
  gj t157 true (fun J => J t86) fun t160 =>
  gj t157 true (fun J => pur PR (binOp .eql 3 t159 t160) J) fun t161 =>
  gj t157 true (fun J => J t161) fun t162 =>
  gj t162 false (fun J => J t3) fun t163 =>
  gj t162 false (fun J => pur PR (binOp .neq 3 t163 (.int .i64 0)) J) fun t164 =>
  gj t157 true (fun J => pur PR (do pure (if ← asBool t162 then (.bool true) else t164)) J) fun t165 =>
  pur PR (do pure (if ← asBool t157 then t165 else (.bool false))) fun t166 =>
  R t166) fun J1 =>
  pur PR (binOp .geq 3 t136 (.int .i64 0)) fun t138 =>
  gj t138 true (fun J => J t86) fun t140 =>
  gj t138 true (fun J => pur PR (binOp .lss 3 t140 (.int .i64 0)) J) fun t141 =>
  gj t138 true (fun J => J t141) fun t142 =>
  gj t142 false (fun J => J t136) fun t143 =>
  gj t142 false (fun J => J t86) fun t144 =>
  gj t142 false (fun J => pur PR (binOp .lss 3 t143 t144) J) fun t145 =>
  gj t138 true (fun J => pur PR (do pure (if ← asBool t142 then (.bool true) else t145)) J) fun t146 =>
  pur PR (do pure (if ← asBool t138 then t146 else (.bool false))) fun t147 =>
  cnd t147 (
  R (.bool false)) (
  J1 t8_4)) fun J2 =>
  lp (n := 2) (fun L3 t8_6 t15 =>
  jn (n := 0) (
  jn (n := 1) (fun t8_7 =>
  pur PR (binOp .add 3 t15 (.int .i64 1)) fun t112 =>
  L3 t8_7 t112) fun J4 =>
  drw <|
  pur PR (Instr.indexAt 30 t2 t15) fun t115 =>
  rds PR (Instr.loadAt 3 t115) fun t116 =>
  pur PR (binOp .neq 3 t116 (.int .i64 0)) fun t117 =>
  gj t117 true (fun J => J t2) fun t119 =>
  gj t117 true (fun J => J t15) fun t120 =>
  gj t117 true (fun J => pur PR (Instr.indexAt 30 t119 t120) J) fun t121 =>
  gj t117 true (fun J => rds PR (Instr.loadAt 3 t121) J) fun t122 =>
  gj t117 true (fun J => J t33) fun t123 =>
  gj t117 true (fun J => J t86) fun t124 =>
  gj t117 true (fun J => pur PR (Instr.indexAt 30 t123 t124) J) fun t125 =>
  gj t117 true (fun J => rds PR (Instr.loadAt 3 t125) J) fun t126 =>
  gj t117 true (fun J => pur PR (binOp .leq 3 t122 t126) J) fun t127 =>
  pur PR (do pure (if ← asBool t117 then t127 else (.bool false))) fun t128 =>
  cnd t128 (
  R (.bool false)) (
  J4 t8_6)) fun J5 =>
  pur PR (builtinS .len #[30] 0 [t2]) fun t105 =>
  pur PR (binOp .lss 3 t15 t105) fun t106 =>
  gj t106 true (fun J => J t86) fun t108 =>
  gj t106 true (fun J => pur PR (binOp .geq 3 t108 (.int .i64 0)) J) fun t109 =>
  pur PR (do pure (if ← asBool t106 then t109 else (.bool false))) fun t110 =>
  cnd t110 (
  J5) (
  J2 t8_6)) t8_3 (.int .i64 0)) fun J6 =>
  pur PR (binOp .geq 3 t86 (.int .i64 8)) fun t88 =>
  gj t88 false (fun J => J t86) fun t90 =>
  gj t88 false (fun J => pur PR (binOp .lss 3 t90 (.int .i64 (-1))) J) fun t91 =>
  pur PR (do pure (if ← asBool t88 then (.bool true) else t91)) fun t92 =>
  gj t92 false (fun J => J t86) fun t94 =>
  gj t92 false (fun J => pur PR (binOp .geq 3 t94 (.int .i64 0)) J) fun t95 =>
  gj t92 false (fun J => J t95) fun t96 =>
  gj t96 true (fun J => J t30) fun t97 =>
  gj t96 true (fun J => J t86) fun t98 =>
  gj t96 true (fun J => cal PR X 14 [t97, t98] J) fun t99 =>
  gj t96 true (fun J => pur PR (binOp .neq 3 t99 (.int .i64 2)) J) fun t100 =>
  gj t92 false (fun J => pur PR (do pure (if ← asBool t96 then t100 else (.bool false))) J) fun t101 =>
  pur PR (do pure (if ← asBool t92 then (.bool true) else t101)) fun t102 =>
  cnd t102 (
  R (.bool false)) (
  J6 t8_2)) fun J7 =>
  lp (n := 1) (fun L8 t12 =>
  jn (n := 0) (
  jn (n := 0) (
  pur PR (binOp .add 3 t12 (.int .i64 1)) fun t39 =>
  L8 t39) fun J9 =>
  pur PR (Instr.indexAt 22 t1 t12) fun t43 =>
  rds PR (Instr.loadAt 32 t43) fun t44 =>
  cal PR X 12 [t30, t44] fun t45 =>
  pur PR (Instr.indexAt 22 t1 t12) fun t48 =>
  pur PR (Instr.fieldAt 32 t48 0) fun t49 =>
  rds PR (Instr.loadAt 3 t49) fun t50 =>
  pur PR (binOp .eql 3 t50 (.int .i64 1)) fun t51 =>
  gj t51 true (fun J => J t45) fun t53 =>
  gj t51 true (fun J => pur PR (binOp .eql 3 t53 (.int .i64 1)) J) fun t54 =>
  pur PR (do pure (if ← asBool t51 then t54 else (.bool false))) fun t55 =>
  gj t55 true (fun J => J t1) fun t57 =>
  gj t55 true (fun J => J t12) fun t58 =>
  gj t55 true (fun J => pur PR (Instr.indexAt 22 t57 t58) J) fun t59 =>
  gj t55 true (fun J => pur PR (Instr.fieldAt 32 t59 1) J) fun t60 =>
  gj t55 true (fun J => rds PR (Instr.loadAt 3 t60) J) fun t61 =>
  gj t55 true (fun J => pur PR (binOp .geq 3 t61 (.int .i64 0)) J) fun t62 =>
  pur PR (do pure (if ← asBool t55 then t62 else (.bool false))) fun t63 =>
  gj t63 true (fun J => J t1) fun t65 =>
  gj t63 true (fun J => J t12) fun t66 =>
  gj t63 true (fun J => pur PR (Instr.indexAt 22 t65 t66) J) fun t67 =>
  gj t63 true (fun J => pur PR (Instr.fieldAt 32 t67 1) J) fun t68 =>
  gj t63 true (fun J => rds PR (Instr.loadAt 3 t68) J) fun t69 =>
  gj t63 true (fun J => pur PR (binOp .lss 3 t69 (.int .i64 8)) J) fun t70 =>
  pur PR (do pure (if ← asBool t63 then t70 else (.bool false))) fun t71 =>
  cnd t71 (
  drw <|
  pur PR (Instr.indexAt 22 t1 t12) fun t75 =>
  pur PR (Instr.fieldAt 32 t75 1) fun t76 =>
  rds PR (Instr.loadAt 3 t76) fun t77 =>
  pur PR (Instr.indexAt 22 t1 t12) fun t80 =>
  pur PR (Instr.fieldAt 32 t80 2) fun t81 =>
  rds PR (Instr.loadAt 3 t81) fun t82 =>
  pur PR (Instr.indexAt 30 t33 t77) fun t83 =>
  sto PR X (Instr.storeAt 3 t83 t82) <|
  J9) (
  J9)) fun J10 =>
  pur PR (builtinS .len #[22] 0 [t1]) fun t36 =>
  pur PR (binOp .lss 3 t12 t36) fun t37 =>
  cnd t37 (
  J10) (
  J7)) (.int .i64 0)) fun J11 =>
  rds PR (eqS .eql 25 (.tmp 31) (.const (.pointer none)) t30 (.pointer none)) fun t32 =>
  cnd t32 (
  R (.bool false)) (
  J11 t8_1)) fun J12 =>
  cal PR X 9 [t1] fun t21 =>
  pur PR (Op.unary .not t21) fun t22 =>
  gj t22 false (fun J => J t2) fun t24 =>
  gj t22 false (fun J => pur PR (builtinS .len #[30] 0 [t24]) J) fun t25 =>
  gj t22 false (fun J => pur PR (binOp .gtr 3 t25 (.int .i64 60)) J) fun t26 =>
  pur PR (do pure (if ← asBool t22 then (.bool true) else t26)) fun t27 =>
  cnd t27 (
  R t17) (
  J12 t8)) fun J13 =>
  pur PR (Op.unary .not t17) fun t19 =>
  cnd t19 (
  R (.bool false)) (
  J13 (.bool false))
theorem sh_gangplanklaw15_EpochRipe_eq (X : Nat → Prop) (t0 t1 t2 t3 : Value) (R : Value → WP) : vcFun PR X Try.f5 [t0, t1, t2, t3] R = sh_gangplanklaw15_EpochRipe X t0 t1 t2 t3 R := by kernel_rfl
theorem ent_gangplanklaw15_EpochRipe : Enters PR 5 := enters_of Try.func5 (by kernel_rfl) rfl
theorem mk_gangplanklaw15_EpochRipe {X : Nat → Prop} {t0 t1 t2 t3 : Value} {R : Value → WP} {w : World} (h : sh_gangplanklaw15_EpochRipe X t0 t1 t2 t3 R w) : Fn PR X 5 #[t0, t1, t2, t3] w R := fn_of_vc (args := [t0, t1, t2, t3]) mixed Try.func5 (by rw [sh_gangplanklaw15_EpochRipe_eq]; exact h)
theorem c_gangplanklaw15_EpochRipe {X : Nat → Prop} {t0 t1 t2 t3 : Value} {K : Value → WP} {w : World} (h : Fn PR X 5 #[t0, t1, t2, t3] w K) : cal PR X 5 [t0, t1, t2, t3] K w := ⟨ent_gangplanklaw15_EpochRipe, h⟩

def sh_gangplanklaw15_EpochAll (X : Nat → Prop) (t0 t1 t2 : Value) (R : Value → WP) : WP :=
  cal PR X 8 [] fun t11 =>
  jn (n := 1) (fun t6 =>
  jn (n := 1) (fun t6_1 =>
  cal PR X 10 [t0] fun t22 =>
  jn (n := 1) (fun t6_2 =>
  jn (n := 1) (fun t6_3 =>
  jn (n := 1) (fun t6_4 =>
  jn (n := 1) (fun t10 =>
  jn (n := 1) (fun t6_5 =>
  gj t11 true (fun J => J t22) fun t84 =>
  gj t11 true (fun J => J t0) fun t85 =>
  gj t11 true (fun J => pur PR (binOp .sub 3 t85 (.int .i64 1)) J) fun t86 =>
  gj t11 true (fun J => cal PR X 14 [t84, t86] J) fun t87 =>
  gj t11 true (fun J => pur PR (binOp .eql 3 t87 (.int .i64 1)) J) fun t88 =>
  pur PR (do pure (if ← asBool t11 then t88 else (.bool false))) fun t89 =>
  gj t89 true (fun J => J t22) fun t91 =>
  gj t89 true (fun J => J t0) fun t92 =>
  gj t89 true (fun J => cal PR X 14 [t91, t92] J) fun t93 =>
  gj t89 true (fun J => pur PR (binOp .eql 3 t93 (.int .i64 (-1))) J) fun t94 =>
  pur PR (do pure (if ← asBool t89 then t94 else (.bool false))) fun t95 =>
  R t95) fun J1 =>
  lou PR X (Instr.buildSlice 30 1 #[(0, t2)]) fun t64 =>
  cal PR X 16 [t22, t64] fun t65 =>
  pur PR (binOp .neq 3 t65 t10) fun t67 =>
  gj t67 false (fun J => J t22) fun t69 =>
  gj t67 false (fun J => J t0) fun t70 =>
  gj t67 false (fun J => pur PR (binOp .sub 3 t70 (.int .i64 1)) J) fun t71 =>
  gj t67 false (fun J => cal PR X 19 [t69, t71] J) fun t72 =>
  gj t67 false (fun J => pur PR (Op.unary .not t72) J) fun t73 =>
  pur PR (do pure (if ← asBool t67 then (.bool true) else t73)) fun t74 =>
  gj t74 false (fun J => J t22) fun t76 =>
  gj t74 false (fun J => cal PR X 17 [t76] J) fun t77 =>
  gj t74 false (fun J => J t0) fun t78 =>
  gj t74 false (fun J => pur PR (binOp .sub 3 t78 (.int .i64 1)) J) fun t79 =>
  gj t74 false (fun J => pur PR (binOp .neq 3 t77 t79) J) fun t80 =>
  pur PR (do pure (if ← asBool t74 then (.bool true) else t80)) fun t81 =>
  cnd t81 (
  R (.bool false)) (
  J1 t6_4)) fun J2 =>
  pur PR (binOp .eql 3 t2 (.int .i64 0)) fun t56 =>
  gj t56 false (fun J => J t2) fun t58 =>
  gj t56 false (fun J => J t1) fun t59 =>
  gj t56 false (fun J => pur PR (binOp .gtr 3 t58 t59) J) fun t60 =>
  pur PR (do pure (if ← asBool t56 then (.bool true) else t60)) fun t61 =>
  cnd t61 (
  J2 (.int .i64 0)) (
  J2 (.int .i64 (-1)))) fun J3 =>
  cal PR X 17 [t22] fun t48 =>
  pur PR (binOp .neq 3 t48 (.int .i64 (-1))) fun t49 =>
  gj t49 false (fun J => J t22) fun t51 =>
  gj t49 false (fun J => cal PR X 16 [t51, (.slice none 0 0)] J) fun t52 =>
  gj t49 false (fun J => pur PR (binOp .neq 3 t52 (.int .i64 0)) J) fun t53 =>
  pur PR (do pure (if ← asBool t49 then (.bool true) else t53)) fun t54 =>
  cnd t54 (
  R (.bool false)) (
  J3 t6_3)) fun J4 =>
  lp (n := 2) (fun L5 t6_6 t9 =>
  jn (n := 0) (
  jn (n := 1) (fun t6_7 =>
  pur PR (binOp .add 3 t9 (.int .i64 1)) fun t29 =>
  L5 t6_7 t29) fun J6 =>
  cal PR X 17 [t22] fun t31 =>
  pur PR (binOp .neq 3 t31 t9) fun t33 =>
  gj t33 false (fun J => J t22) fun t35 =>
  gj t33 false (fun J => J t9) fun t36 =>
  gj t33 false (fun J => J t1) fun t37 =>
  gj t33 false (fun J => cal PR X 18 [t35, t36, t37] J) fun t38 =>
  gj t33 false (fun J => pur PR (Op.unary .not t38) J) fun t39 =>
  pur PR (do pure (if ← asBool t33 then (.bool true) else t39)) fun t40 =>
  gj t40 false (fun J => J t22) fun t42 =>
  gj t40 false (fun J => J t9) fun t43 =>
  gj t40 false (fun J => J t1) fun t44 =>
  gj t40 false (fun J => cal PR X 18 [t42, t43, t44] J) fun t45 =>
  pur PR (do pure (if ← asBool t40 then (.bool true) else t45)) fun t46 =>
  cnd t46 (
  R (.bool false)) (
  J6 t6_6)) fun J7 =>
  pur PR (binOp .lss 3 t9 t0) fun t27 =>
  cnd t27 (
  J7) (
  J4 t6_6)) t6_2 (.int .i64 0)) fun J8 =>
  rds PR (eqS .eql 25 (.tmp 23) (.const (.pointer none)) t22 (.pointer none)) fun t24 =>
  cnd t24 (
  R (.bool false)) (
  J8 t6_1)) fun J9 =>
  pur PR (binOp .lss 3 t0 (.int .i64 1)) fun t15 =>
  gj t15 false (fun J => J t0) fun t17 =>
  gj t15 false (fun J => pur PR (binOp .gtr 3 t17 (.int .i64 8)) J) fun t18 =>
  pur PR (do pure (if ← asBool t15 then (.bool true) else t18)) fun t19 =>
  cnd t19 (
  R t11) (
  J9 t6)) fun J10 =>
  pur PR (Op.unary .not t11) fun t13 =>
  cnd t13 (
  R (.bool false)) (
  J10 (.bool false))
theorem sh_gangplanklaw15_EpochAll_eq (X : Nat → Prop) (t0 t1 t2 : Value) (R : Value → WP) : vcFun PR X Try.f6 [t0, t1, t2] R = sh_gangplanklaw15_EpochAll X t0 t1 t2 R := by kernel_rfl
theorem ent_gangplanklaw15_EpochAll : Enters PR 6 := enters_of Try.func6 (by kernel_rfl) rfl
theorem mk_gangplanklaw15_EpochAll {X : Nat → Prop} {t0 t1 t2 : Value} {R : Value → WP} {w : World} (h : sh_gangplanklaw15_EpochAll X t0 t1 t2 R w) : Fn PR X 6 #[t0, t1, t2] w R := fn_of_vc (args := [t0, t1, t2]) mixed Try.func6 (by rw [sh_gangplanklaw15_EpochAll_eq]; exact h)
theorem c_gangplanklaw15_EpochAll {X : Nat → Prop} {t0 t1 t2 : Value} {K : Value → WP} {w : World} (h : Fn PR X 6 #[t0, t1, t2] w K) : cal PR X 6 [t0, t1, t2] K w := ⟨ent_gangplanklaw15_EpochAll, h⟩

def sh_gangplanklaw15_EpochPins (X : Nat → Prop) (t0 t1 t2 : Value) (R : Value → WP) : WP :=
  cal PR X 8 [] fun t13 =>
  jn (n := 1) (fun t6 =>
  jn (n := 1) (fun t6_1 =>
  cal PR X 10 [t0] fun t26 =>
  jn (n := 1) (fun t6_2 =>
  jn (n := 0) (
  jn (n := 2) (fun t10 t11 =>
  gj t13 true (fun J => J t26) fun t70 =>
  gj t13 true (fun J => J t2) fun t71 =>
  gj t13 true (fun J => cal PR X 16 [t70, t71] J) fun t72 =>
  gj t13 true (fun J => J t26) fun t73 =>
  gj t13 true (fun J => J t10) fun t74 =>
  gj t13 true (fun J => lou PR X (Instr.buildSlice 30 1 #[(0, t74)]) J) fun t75 =>
  gj t13 true (fun J => cal PR X 16 [t73, t75] J) fun t76 =>
  gj t13 true (fun J => pur PR (binOp .eql 3 t72 t76) J) fun t77 =>
  pur PR (do pure (if ← asBool t13 then t77 else (.bool false))) fun t78 =>
  gj t78 true (fun J => J t11) fun t80 =>
  gj t78 true (fun J => J t80) fun t81 =>
  gj t81 false (fun J => J t26) fun t82 =>
  gj t81 false (fun J => J t2) fun t83 =>
  gj t81 false (fun J => cal PR X 16 [t82, t83] J) fun t84 =>
  gj t81 false (fun J => J t26) fun t85 =>
  gj t81 false (fun J => cal PR X 16 [t85, (.slice none 0 0)] J) fun t86 =>
  gj t81 false (fun J => pur PR (binOp .eql 3 t84 t86) J) fun t87 =>
  gj t78 true (fun J => pur PR (do pure (if ← asBool t81 then (.bool true) else t87)) J) fun t88 =>
  pur PR (do pure (if ← asBool t78 then t88 else (.bool false))) fun t89 =>
  R t89) fun J1 =>
  lp (n := 3) (fun L2 t10_1 t11_1 t12 =>
  jn (n := 0) (
  jn (n := 2) (fun t10_2 t11_2 =>
  pur PR (binOp .add 3 t12 (.int .i64 1)) fun t46 =>
  L2 t10_2 t11_2 t46) fun J3 =>
  pur PR (Instr.indexAt 30 t2 t12) fun t49 =>
  rds PR (Instr.loadAt 3 t49) fun t50 =>
  pur PR (binOp .neq 3 t50 (.int .i64 0)) fun t51 =>
  gj t51 true (fun J => J t11_1) fun t53 =>
  gj t51 true (fun J => pur PR (Op.unary .not t53) J) fun t54 =>
  gj t51 true (fun J => J t54) fun t55 =>
  gj t55 false (fun J => J t2) fun t56 =>
  gj t55 false (fun J => J t12) fun t57 =>
  gj t55 false (fun J => pur PR (Instr.indexAt 30 t56 t57) J) fun t58 =>
  gj t55 false (fun J => rds PR (Instr.loadAt 3 t58) J) fun t59 =>
  gj t55 false (fun J => J t10_1) fun t60 =>
  gj t55 false (fun J => pur PR (binOp .lss 3 t59 t60) J) fun t61 =>
  gj t51 true (fun J => pur PR (do pure (if ← asBool t55 then (.bool true) else t61)) J) fun t62 =>
  pur PR (do pure (if ← asBool t51 then t62 else (.bool false))) fun t63 =>
  cnd t63 (
  pur PR (Instr.indexAt 30 t2 t12) fun t66 =>
  rds PR (Instr.loadAt 3 t66) fun t67 =>
  J3 t67 (.bool true)) (
  J3 t10_1 t11_1)) fun J4 =>
  pur PR (builtinS .len #[30] 0 [t2]) fun t43 =>
  pur PR (binOp .lss 3 t12 t43) fun t44 =>
  cnd t44 (
  J4) (
  J1 t10_1 t11_1)) (.int .i64 0) (.bool false) (.int .i64 0)) fun J5 =>
  lp (n := 1) (fun L6 t9 =>
  jn (n := 0) (
  jn (n := 0) (
  pur PR (binOp .add 3 t9 (.int .i64 1)) fun t34 =>
  L6 t34) fun J7 =>
  pur PR (Instr.indexAt 22 t1 t9) fun t38 =>
  rds PR (Instr.loadAt 32 t38) fun t39 =>
  cal PR X 12 [t26, t39] fun t40 =>
  J7) fun J8 =>
  pur PR (builtinS .len #[22] 0 [t1]) fun t31 =>
  pur PR (binOp .lss 3 t9 t31) fun t32 =>
  cnd t32 (
  J8) (
  J5)) (.int .i64 0)) fun J9 =>
  rds PR (eqS .eql 25 (.tmp 27) (.const (.pointer none)) t26 (.pointer none)) fun t28 =>
  cnd t28 (
  R (.bool false)) (
  J9 t6_1)) fun J10 =>
  cal PR X 9 [t1] fun t17 =>
  pur PR (Op.unary .not t17) fun t18 =>
  gj t18 false (fun J => J t2) fun t20 =>
  gj t18 false (fun J => pur PR (builtinS .len #[30] 0 [t20]) J) fun t21 =>
  gj t18 false (fun J => pur PR (binOp .gtr 3 t21 (.int .i64 60)) J) fun t22 =>
  pur PR (do pure (if ← asBool t18 then (.bool true) else t22)) fun t23 =>
  cnd t23 (
  R t13) (
  J10 t6)) fun J11 =>
  pur PR (Op.unary .not t13) fun t15 =>
  cnd t15 (
  R (.bool false)) (
  J11 (.bool false))
theorem sh_gangplanklaw15_EpochPins_eq (X : Nat → Prop) (t0 t1 t2 : Value) (R : Value → WP) : vcFun PR X Try.f7 [t0, t1, t2] R = sh_gangplanklaw15_EpochPins X t0 t1 t2 R := by kernel_rfl
theorem ent_gangplanklaw15_EpochPins : Enters PR 7 := enters_of Try.func7 (by kernel_rfl) rfl
theorem mk_gangplanklaw15_EpochPins {X : Nat → Prop} {t0 t1 t2 : Value} {R : Value → WP} {w : World} (h : sh_gangplanklaw15_EpochPins X t0 t1 t2 R w) : Fn PR X 7 #[t0, t1, t2] w R := fn_of_vc (args := [t0, t1, t2]) mixed Try.func7 (by rw [sh_gangplanklaw15_EpochPins_eq]; exact h)
theorem c_gangplanklaw15_EpochPins {X : Nat → Prop} {t0 t1 t2 : Value} {K : Value → WP} {w : World} (h : Fn PR X 7 #[t0, t1, t2] w K) : cal PR X 7 [t0, t1, t2] K w := ⟨ent_gangplanklaw15_EpochPins, h⟩

end Go.Proofs.Ytcgiobkfgnclcaa