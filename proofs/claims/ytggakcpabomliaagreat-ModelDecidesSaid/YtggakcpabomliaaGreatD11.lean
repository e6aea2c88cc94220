/- The proof of a given statement, a part of it (ShStd ShOctet Ins Tc Tn Oct). No condition but what each lemma says. -/
import Derived.Test.YtggakcpabomliaaGreatD10
set_option linter.unusedVariables false
set_option linter.unusedSimpArgs false
namespace Go.Proofs.YtggakcpabomliaaGreat
open Go
def sh_slices_Clone_api_Backend_api_Backend (X : Nat → Prop) (t0 : Value) (R : Value → WP) : WP :=
  jn (n := 1) (fun t2 =>
  lou PR X (Instr.buildSlice 32 0 #[]) fun t5 =>
  lou PR X (builtinS .append #[32, 32] 32 [t5, t0]) fun t7 =>
  R t7) fun J1 =>
  rds PR (eqS .eql 32 (.tmp 3) (.const (.slice none 0 0)) t0 (.slice none 0 0)) fun t4 =>
  cnd t4 (
  R (.slice none 0 0)) (
  J1 (.slice none 0 0))
theorem sh_slices_Clone_api_Backend_api_Backend_eq (X : Nat → Prop) (t0 : Value) (R : Value → WP) : vcFun PR X Tryz.f70 [t0] R = sh_slices_Clone_api_Backend_api_Backend X t0 R := by kernel_rfl
theorem ent_slices_Clone_api_Backend_api_Backend : Enters PR 70 := enters_of Tryz.func70 (by kernel_rfl) rfl
theorem mk_slices_Clone_api_Backend_api_Backend {X : Nat → Prop} {t0 : Value} {R : Value → WP} {w : World} (h : sh_slices_Clone_api_Backend_api_Backend X t0 R w) : Fn PR X 70 #[t0] w R := fn_of_vc (args := [t0]) mixed Tryz.func70 (by rw [sh_slices_Clone_api_Backend_api_Backend_eq]; exact h)
def sh_slices_Clone_api_Entry_api_Entry (X : Nat → Prop) (t0 : Value) (R : Value → WP) : WP :=
  jn (n := 1) (fun t2 =>
  lou PR X (Instr.buildSlice 50 0 #[]) fun t5 =>
  lou PR X (builtinS .append #[50, 50] 50 [t5, t0]) fun t7 =>
  R t7) fun J1 =>
  rds PR (eqS .eql 50 (.tmp 3) (.const (.slice none 0 0)) t0 (.slice none 0 0)) fun t4 =>
  cnd t4 (
  R (.slice none 0 0)) (
  J1 (.slice none 0 0))
theorem sh_slices_Clone_api_Entry_api_Entry_eq (X : Nat → Prop) (t0 : Value) (R : Value → WP) : vcFun PR X Tryz.f71 [t0] R = sh_slices_Clone_api_Entry_api_Entry X t0 R := by kernel_rfl
theorem ent_slices_Clone_api_Entry_api_Entry : Enters PR 71 := enters_of Tryz.func71 (by kernel_rfl) rfl
theorem mk_slices_Clone_api_Entry_api_Entry {X : Nat → Prop} {t0 : Value} {R : Value → WP} {w : World} (h : sh_slices_Clone_api_Entry_api_Entry X t0 R w) : Fn PR X 71 #[t0] w R := fn_of_vc (args := [t0]) mixed Tryz.func71 (by rw [sh_slices_Clone_api_Entry_api_Entry_eq]; exact h)
def sh_slices_IndexFunc_api_Backend_api_Backend (X : Nat → Prop) (t0 t1 : Value) (R : Value → WP) : WP :=
  jn (n := 2) (fun t4 t8 =>
  R (.int .i64 (-1))) fun J1 =>
  pur PR (builtinS .len #[32] 0 [t0]) fun t7 =>
  lp (n := 2) (fun L2 t4_1 t8_1 =>
  pur PR (binOp .lss 3 t8_1 t7) fun t9 =>
  jn (n := 0) (
  jn (n := 1) (fun t4_2 =>
  pur PR (binOp .add 3 t8_1 (.int .i64 1)) fun t18 =>
  L2 t4_2 t18) fun J3 =>
  pur PR (Instr.indexAt 32 t0 t8_1) fun t14 =>
  rds PR (Instr.loadAt 103 t14) fun t15 =>
  cav PR X t1 [t15] fun t16 =>
  cnd t16 (
  R t8_1) (
  J3 t4_1)) fun J4 =>
  cnd t9 (
  J4) (
  J1 t4_1 t8_1)) (.int .i64 0) (.int .i64 0)
theorem sh_slices_IndexFunc_api_Backend_api_Backend_eq (X : Nat → Prop) (t0 t1 : Value) (R : Value → WP) : vcFun PR X Tryz.f86 [t0, t1] R = sh_slices_IndexFunc_api_Backend_api_Backend X t0 t1 R := by kernel_rfl
theorem ent_slices_IndexFunc_api_Backend_api_Backend : Enters PR 86 := enters_of Tryz.func86 (by kernel_rfl) rfl
theorem mk_slices_IndexFunc_api_Backend_api_Backend {X : Nat → Prop} {t0 t1 : Value} {R : Value → WP} {w : World} (h : sh_slices_IndexFunc_api_Backend_api_Backend X t0 t1 R w) : Fn PR X 86 #[t0, t1] w R := fn_of_vc (args := [t0, t1]) mixed Tryz.func86 (by rw [sh_slices_IndexFunc_api_Backend_api_Backend_eq]; exact h)
def sh_cmp_Compare_int (X : Nat → Prop) (t0 t1 : Value) (R : Value → WP) : WP :=
  cal PR X 141 [t0] fun t8 =>
  cal PR X 141 [t1] fun t10 =>
  jn (n := 1) (fun t4 =>
  jn (n := 1) (fun t4_1 =>
  jn (n := 1) (fun t4_2 =>
  jn (n := 1) (fun t4_3 =>
  R (.int .i64 0)) fun J1 =>
  pur PR (binOp .gtr 3 t0 t1) fun t19 =>
  cnd t19 (
  R (.int .i64 1)) (
  J1 t4_2)) fun J2 =>
  pur PR (binOp .lss 3 t0 t1) fun t16 =>
  cnd t16 (
  R (.int .i64 (-1))) (
  J2 t4_1)) fun J3 =>
  cnd t10 (
  R (.int .i64 1)) (
  J3 t4)) fun J4 =>
  cnd t8 (
  jn (n := 1) (fun t4_4 =>
  R (.int .i64 (-1))) fun J5 =>
  cnd t10 (
  R (.int .i64 0)) (
  J5 (.int .i64 0))) (
  J4 (.int .i64 0))
theorem sh_cmp_Compare_int_eq (X : Nat → Prop) (t0 t1 : Value) (R : Value → WP) : vcFun PR X Tryz.f96 [t0, t1] R = sh_cmp_Compare_int X t0 t1 R := by kernel_rfl
theorem ent_cmp_Compare_int : Enters PR 96 := enters_of Tryz.func96 (by kernel_rfl) rfl
theorem mk_cmp_Compare_int {X : Nat → Prop} {t0 t1 : Value} {R : Value → WP} {w : World} (h : sh_cmp_Compare_int X t0 t1 R w) : Fn PR X 96 #[t0, t1] w R := fn_of_vc (args := [t0, t1]) mixed Tryz.func96 (by rw [sh_cmp_Compare_int_eq]; exact h)
theorem c_cmp_Compare_int {X : Nat → Prop} {t0 t1 : Value} {K : Value → WP} {w : World} (h : Fn PR X 96 #[t0, t1] w K) : cal PR X 96 [t0, t1] K w := Or.inl ⟨ent_cmp_Compare_int, h⟩
def sh_slices_ContainsFunc_2_int_2_int (X : Nat → Prop) (t0 t1 : Value) (R : Value → WP) : WP :=
  cal PR X 169 [t0, t1] fun t7 =>
  pur PR (binOp .geq 3 t7 (.int .i64 0)) fun t8 =>
  R t8
theorem sh_slices_ContainsFunc_2_int_2_int_eq (X : Nat → Prop) (t0 t1 : Value) (R : Value → WP) : vcFun PR X Tryz.f129 [t0, t1] R = sh_slices_ContainsFunc_2_int_2_int X t0 t1 R := by kernel_rfl
theorem ent_slices_ContainsFunc_2_int_2_int : Enters PR 129 := enters_of Tryz.func129 (by kernel_rfl) rfl
theorem mk_slices_ContainsFunc_2_int_2_int {X : Nat → Prop} {t0 t1 : Value} {R : Value → WP} {w : World} (h : sh_slices_ContainsFunc_2_int_2_int X t0 t1 R w) : Fn PR X 129 #[t0, t1] w R := fn_of_vc (args := [t0, t1]) mixed Tryz.func129 (by rw [sh_slices_ContainsFunc_2_int_2_int_eq]; exact h)
def sh_slices_SortedFunc_points_place (X : Nat → Prop) (t0 t1 : Value) (R : Value → WP) : WP :=
  cal PR X 172 [t0] fun t7 =>
  cal PR X 173 [t7, t1] fun t10 =>
  R t7
theorem sh_slices_SortedFunc_points_place_eq (X : Nat → Prop) (t0 t1 : Value) (R : Value → WP) : vcFun PR X Tryz.f135 [t0, t1] R = sh_slices_SortedFunc_points_place X t0 t1 R := by kernel_rfl
theorem ent_slices_SortedFunc_points_place : Enters PR 135 := enters_of Tryz.func135 (by kernel_rfl) rfl
theorem mk_slices_SortedFunc_points_place {X : Nat → Prop} {t0 t1 : Value} {R : Value → WP} {w : World} (h : sh_slices_SortedFunc_points_place X t0 t1 R w) : Fn PR X 135 #[t0, t1] w R := fn_of_vc (args := [t0, t1]) mixed Tryz.func135 (by rw [sh_slices_SortedFunc_points_place_eq]; exact h)
def sh_cmp_isNaN_int (X : Nat → Prop) (t0 : Value) (R : Value → WP) : WP :=
  pur PR (binOp .neq 3 t0 t0) fun t5 =>
  R t5
theorem sh_cmp_isNaN_int_eq (X : Nat → Prop) (t0 : Value) (R : Value → WP) : vcFun PR X Tryz.f141 [t0] R = sh_cmp_isNaN_int X t0 R := by kernel_rfl
theorem ent_cmp_isNaN_int : Enters PR 141 := enters_of Tryz.func141 (by kernel_rfl) rfl
theorem mk_cmp_isNaN_int {X : Nat → Prop} {t0 : Value} {R : Value → WP} {w : World} (h : sh_cmp_isNaN_int X t0 R w) : Fn PR X 141 #[t0] w R := fn_of_vc (args := [t0]) mixed Tryz.func141 (by rw [sh_cmp_isNaN_int_eq]; exact h)
theorem c_cmp_isNaN_int {X : Nat → Prop} {t0 : Value} {K : Value → WP} {w : World} (h : Fn PR X 141 #[t0] w K) : cal PR X 141 [t0] K w := Or.inl ⟨ent_cmp_isNaN_int, h⟩
def sh_strings_Builder_WriteString (X : Nat → Prop) (t0 t1 : Value) (R : Value → WP) : WP :=
  cal PR X 183 [t0] fun t7 =>
  pur PR (nilc t0) fun t10 =>
  pur PR (Instr.fieldAt 220 t10 1) fun t11 =>
  rds PR (Instr.loadAt 218 t11) fun t12 =>
  lou PR X (builtinS .append #[218, 9] 218 [t12, t1]) fun t14 =>
  pur PR (nilc t0) fun t15 =>
  pur PR (Instr.fieldAt 220 t15 1) fun t16 =>
  sto PR X (Instr.storeAt 218 t16 t14) <|
  pur PR (builtinS .len #[9] 0 [t1]) fun t18 =>
  R (.tuple #[t18, .nilIface])
theorem sh_strings_Builder_WriteString_eq (X : Nat → Prop) (t0 t1 : Value) (R : Value → WP) : vcFun PR X Tryz.f148 [t0, t1] R = sh_strings_Builder_WriteString X t0 t1 R := by kernel_rfl
theorem ent_strings_Builder_WriteString : Enters PR 148 := enters_of Tryz.func148 (by kernel_rfl) rfl
theorem mk_strings_Builder_WriteString {X : Nat → Prop} {t0 t1 : Value} {R : Value → WP} {w : World} (h : sh_strings_Builder_WriteString X t0 t1 R w) : Fn PR X 148 #[t0, t1] w R := fn_of_vc (args := [t0, t1]) mixed Tryz.func148 (by rw [sh_strings_Builder_WriteString_eq]; exact h)
def sh_strings_Builder_String (X : Nat → Prop) (t0 : Value) (R : Value → WP) : WP :=
  drw <|
  pur PR (nilc t0) fun t4 =>
  pur PR (Instr.fieldAt 220 t4 1) fun t5 =>
  rds PR (Instr.loadAt 218 t5) fun t6 =>
  pur PR (nilc t0) fun t9 =>
  pur PR (Instr.fieldAt 220 t9 1) fun t10 =>
  rds PR (Instr.loadAt 218 t10) fun t11 =>
  pur PR (builtinS .len #[218] 0 [t11]) fun t12 =>
  lou PR X (builtinS .unsafeSliceData #[218] 266 [t6]) fun t7 =>
  watch PR [(none, (Instr.loadAt 218 t10), t11)] <|
  lou PR X (builtinS .unsafeString #[266, 3] 9 [t7, t12]) fun t13 =>
  R t13
theorem sh_strings_Builder_String_eq (X : Nat → Prop) (t0 : Value) (R : Value → WP) : vcFun PR X Tryz.f149 [t0] R = sh_strings_Builder_String X t0 R := by kernel_rfl
theorem ent_strings_Builder_String : Enters PR 149 := enters_of Tryz.func149 (by kernel_rfl) rfl
theorem mk_strings_Builder_String {X : Nat → Prop} {t0 : Value} {R : Value → WP} {w : World} (h : sh_strings_Builder_String X t0 R w) : Fn PR X 149 #[t0] w R := fn_of_vc (args := [t0]) mixed Tryz.func149 (by rw [sh_strings_Builder_String_eq]; exact h)
def sh_slices_IndexFunc_2_int_2_int (X : Nat → Prop) (t0 t1 : Value) (R : Value → WP) : WP :=
  jn (n := 2) (fun t4 t8 =>
  R (.int .i64 (-1))) fun J1 =>
  pur PR (builtinS .len #[185] 0 [t0]) fun t7 =>
  lp (n := 2) (fun L2 t4_1 t8_1 =>
  pur PR (binOp .lss 3 t8_1 t7) fun t9 =>
  jn (n := 0) (
  jn (n := 1) (fun t4_2 =>
  pur PR (binOp .add 3 t8_1 (.int .i64 1)) fun t18 =>
  L2 t4_2 t18) fun J3 =>
  pur PR (Instr.indexAt 185 t0 t8_1) fun t14 =>
  rds PR (Instr.loadAt 140 t14) fun t15 =>
  cav PR X t1 [t15] fun t16 =>
  cnd t16 (
  R t8_1) (
  J3 t4_1)) fun J4 =>
  cnd t9 (
  J4) (
  J1 t4_1 t8_1)) (.int .i64 0) (.int .i64 0)
theorem sh_slices_IndexFunc_2_int_2_int_eq (X : Nat → Prop) (t0 t1 : Value) (R : Value → WP) : vcFun PR X Tryz.f169 [t0, t1] R = sh_slices_IndexFunc_2_int_2_int X t0 t1 R := by kernel_rfl
theorem ent_slices_IndexFunc_2_int_2_int : Enters PR 169 := enters_of Tryz.func169 (by kernel_rfl) rfl
theorem mk_slices_IndexFunc_2_int_2_int {X : Nat → Prop} {t0 t1 : Value} {R : Value → WP} {w : World} (h : sh_slices_IndexFunc_2_int_2_int X t0 t1 R w) : Fn PR X 169 #[t0, t1] w R := fn_of_vc (args := [t0, t1]) mixed Tryz.func169 (by rw [sh_slices_IndexFunc_2_int_2_int_eq]; exact h)
def sh_sort_Search (X : Nat → Prop) (t0 t1 : Value) (R : Value → WP) : WP :=
  jn (n := 2) (fun t5 t6 =>
  R t5) fun J1 =>
  lp (n := 2) (fun L2 t5_1 t6_1 =>
  jn (n := 0) (
  pur PR (binOp .add 3 t5_1 t6_1) fun t14 =>
  pur PR (convert 3 133 t14) fun t15 =>
  pur PR (binOp .shr 133 t15 (.int .u64 1)) fun t16 =>
  pur PR (convert 133 3 t16) fun t17 =>
  cav PR X t1 [t17] fun t20 =>
  pur PR (Op.unary .not t20) fun t21 =>
  cnd t21 (
  pur PR (binOp .add 3 t17 (.int .i64 1)) fun t23 =>
  L2 t23 t6_1) (
  L2 t5_1 t17)) fun J3 =>
  pur PR (binOp .lss 3 t5_1 t6_1) fun t11 =>
  cnd t11 (
  J3) (
  J1 t5_1 t6_1)) (.int .i64 0) t0
theorem sh_sort_Search_eq (X : Nat → Prop) (t0 t1 : Value) (R : Value → WP) : vcFun PR X Tryz.f170 [t0, t1] R = sh_sort_Search X t0 t1 R := by kernel_rfl
theorem ent_sort_Search : Enters PR 170 := enters_of Tryz.func170 (by kernel_rfl) rfl
theorem mk_sort_Search {X : Nat → Prop} {t0 t1 : Value} {R : Value → WP} {w : World} (h : sh_sort_Search X t0 t1 R w) : Fn PR X 170 #[t0, t1] w R := fn_of_vc (args := [t0, t1]) mixed Tryz.func170 (by rw [sh_sort_Search_eq]; exact h)
def sh_slices_Collect_points_place (X : Nat → Prop) (t0 : Value) (R : Value → WP) : WP :=
  cal PR X 197 [(.slice none 0 0), t0] fun t4 =>
  R t4
theorem sh_slices_Collect_points_place_eq (X : Nat → Prop) (t0 : Value) (R : Value → WP) : vcFun PR X Tryz.f172 [t0] R = sh_slices_Collect_points_place X t0 R := by kernel_rfl
theorem ent_slices_Collect_points_place : Enters PR 172 := enters_of Tryz.func172 (by kernel_rfl) rfl
theorem mk_slices_Collect_points_place {X : Nat → Prop} {t0 : Value} {R : Value → WP} {w : World} (h : sh_slices_Collect_points_place X t0 R w) : Fn PR X 172 #[t0] w R := fn_of_vc (args := [t0]) mixed Tryz.func172 (by rw [sh_slices_Collect_points_place_eq]; exact h)
theorem ent_slices_SortFunc_points_place_points_place : Enters PR 173 := enters_of Tryz.func173 (by kernel_rfl) rfl
def sh_cmp_Or_int (X : Nat → Prop) (t0 : Value) (R : Value → WP) : WP :=
  jn (n := 2) (fun t2 t8 =>
  R (.int .i64 0)) fun J1 =>
  pur PR (builtinS .len #[34] 0 [t0]) fun t7 =>
  lp (n := 2) (fun L2 t2_1 t8_1 =>
  pur PR (binOp .lss 3 t8_1 t7) fun t9 =>
  jn (n := 0) (
  jn (n := 1) (fun t2_2 =>
  pur PR (binOp .add 3 t8_1 (.int .i64 1)) fun t16 =>
  L2 t2_2 t16) fun J3 =>
  pur PR (Instr.indexAt 34 t0 t8_1) fun t10 =>
  rds PR (Instr.loadAt 3 t10) fun t11 =>
  pur PR (binOp .neq 3 t11 (.int .i64 0)) fun t14 =>
  cnd t14 (
  R t11) (
  J3 t2_1)) fun J4 =>
  cnd t9 (
  J4) (
  J1 t2_1 t8_1)) (.int .i64 0) (.int .i64 0)
theorem sh_cmp_Or_int_eq (X : Nat → Prop) (t0 : Value) (R : Value → WP) : vcFun PR X Tryz.f176 [t0] R = sh_cmp_Or_int X t0 R := by kernel_rfl
theorem ent_cmp_Or_int : Enters PR 176 := enters_of Tryz.func176 (by kernel_rfl) rfl
theorem mk_cmp_Or_int {X : Nat → Prop} {t0 : Value} {R : Value → WP} {w : World} (h : sh_cmp_Or_int X t0 R w) : Fn PR X 176 #[t0] w R := fn_of_vc (args := [t0]) mixed Tryz.func176 (by rw [sh_cmp_Or_int_eq]; exact h)
theorem c_cmp_Or_int {X : Nat → Prop} {t0 : Value} {K : Value → WP} {w : World} (h : Fn PR X 176 #[t0] w K) : cal PR X 176 [t0] K w := Or.inl ⟨ent_cmp_Or_int, h⟩
def sh_cmp_Compare_uint64 (X : Nat → Prop) (t0 t1 : Value) (R : Value → WP) : WP :=
  cal PR X 200 [t0] fun t8 =>
  cal PR X 200 [t1] fun t10 =>
  jn (n := 1) (fun t4 =>
  jn (n := 1) (fun t4_1 =>
  jn (n := 1) (fun t4_2 =>
  jn (n := 1) (fun t4_3 =>
  R (.int .i64 0)) fun J1 =>
  pur PR (binOp .gtr 68 t0 t1) fun t19 =>
  cnd t19 (
  R (.int .i64 1)) (
  J1 t4_2)) fun J2 =>
  pur PR (binOp .lss 68 t0 t1) fun t16 =>
  cnd t16 (
  R (.int .i64 (-1))) (
  J2 t4_1)) fun J3 =>
  cnd t10 (
  R (.int .i64 1)) (
  J3 t4)) fun J4 =>
  cnd t8 (
  jn (n := 1) (fun t4_4 =>
  R (.int .i64 (-1))) fun J5 =>
  cnd t10 (
  R (.int .i64 0)) (
  J5 (.int .i64 0))) (
  J4 (.int .i64 0))
theorem sh_cmp_Compare_uint64_eq (X : Nat → Prop) (t0 t1 : Value) (R : Value → WP) : vcFun PR X Tryz.f177 [t0, t1] R = sh_cmp_Compare_uint64 X t0 t1 R := by kernel_rfl
theorem ent_cmp_Compare_uint64 : Enters PR 177 := enters_of Tryz.func177 (by kernel_rfl) rfl
theorem mk_cmp_Compare_uint64 {X : Nat → Prop} {t0 t1 : Value} {R : Value → WP} {w : World} (h : sh_cmp_Compare_uint64 X t0 t1 R w) : Fn PR X 177 #[t0, t1] w R := fn_of_vc (args := [t0, t1]) mixed Tryz.func177 (by rw [sh_cmp_Compare_uint64_eq]; exact h)
theorem c_cmp_Compare_uint64 {X : Nat → Prop} {t0 t1 : Value} {K : Value → WP} {w : World} (h : Fn PR X 177 #[t0, t1] w K) : cal PR X 177 [t0, t1] K w := Or.inl ⟨ent_cmp_Compare_uint64, h⟩
def sh_strings_Builder_copyCheck (X : Nat → Prop) (t0 : Value) (R : Value → WP) : WP :=
  pur PR (nilc t0) fun t3 =>
  pur PR (Instr.fieldAt 220 t3 0) fun t4 =>
  rds PR (Instr.loadAt 217 t4) fun t5 =>
  rds PR (eqS .eql 217 (.tmp 5) (.const (.pointer none)) t5 (.pointer none)) fun t6 =>
  cnd t6 (
  rds PR (convert 217 291 t0) fun t9 =>
  cal PR X 202 [t9] fun t10 =>
  rds PR (convert 291 217 t10) fun t11 =>
  pur PR (nilc t0) fun t12 =>
  pur PR (Instr.fieldAt 220 t12 0) fun t13 =>
  sto PR X (Instr.storeAt 217 t13 t11) <|
  R (.tuple #[])) (
  pur PR (nilc t0) fun t15 =>
  pur PR (Instr.fieldAt 220 t15 0) fun t16 =>
  rds PR (Instr.loadAt 217 t16) fun t17 =>
  rds PR (eqS .neq 217 (.tmp 17) (.tmp 18) t17 t0) fun t19 =>
  cnd t19 (
  nowp) (
  R (.tuple #[])))
theorem sh_strings_Builder_copyCheck_eq (X : Nat → Prop) (t0 : Value) (R : Value → WP) : vcFun PR X Tryz.f183 [t0] R = sh_strings_Builder_copyCheck X t0 R := by kernel_rfl
theorem ent_strings_Builder_copyCheck : Enters PR 183 := enters_of Tryz.func183 (by kernel_rfl) rfl
theorem mk_strings_Builder_copyCheck {X : Nat → Prop} {t0 : Value} {R : Value → WP} {w : World} (h : sh_strings_Builder_copyCheck X t0 R w) : Fn PR X 183 #[t0] w R := fn_of_vc (args := [t0]) mixed Tryz.func183 (by rw [sh_strings_Builder_copyCheck_eq]; exact h)
def sh_slices_AppendSeq_points_place_points_place (X : Nat → Prop) (t0 t1 : Value) (R : Value → WP) : WP :=
  lou PR X (Instr.box 190 t0) fun t2 =>
  jn (n := 0) (
  rds PR (Instr.loadAt 190 t2) fun t12 =>
  unw (R t12)) fun J1 =>
  rng (N := 1) PR X (fun t7 K2 =>
  lou PR (fun _ => False) (Instr.alloc 193 true (.tuple #[])) fun t5 =>
  sto PR (fun _ => False) (Instr.storeAt 193 t5 t7) <|
  bgn <|
  rds PR (Instr.loadAt 190 t2) fun t8 =>
  rds PR (Instr.loadAt 193 t5) fun t9 =>
  lou PR (fun _ => False) (Instr.buildSlice 190 1 #[(0, t9)]) fun t10 =>
  lou PR (fun _ => False) (builtinS .append #[190, 190] 190 [t8, t10]) fun t11 =>
  sto PR (fun _ => False) (Instr.storeAt 190 t2 t11) <|
  K2 none) t1 (fun j => match j with | none => (J1) | some (.exit i) => (match Nat.beq i 0 with | true => (J1) | false => (nowp)) | some .ret => (unw (R (.slice none 0 0))) | some _ => nowp)
theorem sh_slices_AppendSeq_points_place_points_place_eq (X : Nat → Prop) (t0 t1 : Value) (R : Value → WP) : vcFun PR X Tryz.f197 [t0, t1] R = sh_slices_AppendSeq_points_place_points_place X t0 t1 R := by kernel_rfl
theorem ent_slices_AppendSeq_points_place_points_place : Enters PR 197 := enters_of Tryz.func197 (by kernel_rfl) rfl
theorem mk_slices_AppendSeq_points_place_points_place {X : Nat → Prop} {t0 t1 : Value} {R : Value → WP} {w : World} (h : sh_slices_AppendSeq_points_place_points_place X t0 t1 R w) : Fn PR X 197 #[t0, t1] w R := fn_of_vc (args := [t0, t1]) mixed Tryz.func197 (by rw [sh_slices_AppendSeq_points_place_points_place_eq]; exact h)
def sh_cmp_isNaN_uint64 (X : Nat → Prop) (t0 : Value) (R : Value → WP) : WP :=
  pur PR (binOp .neq 68 t0 t0) fun t5 =>
  R t5
theorem sh_cmp_isNaN_uint64_eq (X : Nat → Prop) (t0 : Value) (R : Value → WP) : vcFun PR X Tryz.f200 [t0] R = sh_cmp_isNaN_uint64 X t0 R := by kernel_rfl
theorem ent_cmp_isNaN_uint64 : Enters PR 200 := enters_of Tryz.func200 (by kernel_rfl) rfl
theorem mk_cmp_isNaN_uint64 {X : Nat → Prop} {t0 : Value} {R : Value → WP} {w : World} (h : sh_cmp_isNaN_uint64 X t0 R w) : Fn PR X 200 #[t0] w R := fn_of_vc (args := [t0]) mixed Tryz.func200 (by rw [sh_cmp_isNaN_uint64_eq]; exact h)
theorem c_cmp_isNaN_uint64 {X : Nat → Prop} {t0 : Value} {K : Value → WP} {w : World} (h : Fn PR X 200 #[t0] w K) : cal PR X 200 [t0] K w := Or.inl ⟨ent_cmp_isNaN_uint64, h⟩
theorem ent_strings_Repeat : Enters PR 255 := enters_of Tryz.func255 (by kernel_rfl) rfl
end Go.Proofs.YtggakcpabomliaaGreat
namespace Go.Proofs.YtggakcpabomliaaGreat
open Go
def sh_octet_Put (X : Nat → Prop) (t0 t1 : Value) (R : Value → WP) : WP :=
  lou PR X (Instr.box 68 t0) fun t2 =>
  jn (n := 1) (fun t4 =>
  lou PR X (Instr.makeSlice 218 t1 t1) fun t15 =>
  lou PR X (Instr.alloc 218 true (.tuple #[])) fun t5 =>
  sto PR X (Instr.storeAt 218 t5 t15) <|
  jn (n := 0) (
  rds PR (Instr.loadAt 218 t5) fun t27 =>
  rds PR (convert 218 9 t27) fun t28 =>
  unw (R t28)) fun J1 =>
  cal PR X 184 [t1] fun t17 =>
  rng (N := 2) PR X (fun t18 t19 K2 =>
  bgn <|
  rds PR (Instr.loadAt 218 t5) fun t20 =>
  rds PR (Instr.loadAt 68 t2) fun t22 =>
  pur PR (binOp .shr 68 t22 t19) fun t24 =>
  pur PR (convert 68 5 t24) fun t25 =>
  pur PR (Instr.indexAt 218 t20 t18) fun t26 =>
  sto PR (fun _ => False) (Instr.storeAt 5 t26 t25) <|
  K2 none) t17 (fun j => match j with | none => (J1) | some (.exit i) => (match Nat.beq i 0 with | true => (J1) | false => (nowp)) | some .ret => (unw (R t4)) | some _ => nowp)) fun J3 =>
  pur PR (binOp .lss 3 t1 (.int .i64 1)) fun t9 =>
  gj t9 false (fun J => J t1) fun t11 =>
  gj t9 false (fun J => pur PR (binOp .gtr 3 t11 (.int .i64 8)) J) fun t12 =>
  pur PR (do pure (if ← asBool t9 then (.bool true) else t12)) fun t13 =>
  cnd t13 (
  unw (R (.string (ByteArray.mk #[])))) (
  J3 (.string (ByteArray.mk #[])))
theorem sh_octet_Put_eq (X : Nat → Prop) (t0 t1 : Value) (R : Value → WP) : vcFun PR X Tryz.f151 [t0, t1] R = sh_octet_Put X t0 t1 R := by kernel_rfl
theorem ent_octet_Put : Enters PR 151 := enters_of Tryz.func151 (by kernel_rfl) rfl
theorem mk_octet_Put {X : Nat → Prop} {t0 t1 : Value} {R : Value → WP} {w : World} (h : sh_octet_Put X t0 t1 R w) : Fn PR X 151 #[t0, t1] w R := fn_of_vc (args := [t0, t1]) mixed Tryz.func151 (by rw [sh_octet_Put_eq]; exact h)
def sh_octet_lanes (X : Nat → Prop) (t0 : Value) (R : Value → WP) : WP :=
  lou PR X (Instr.box 3 t0) fun t1 =>
  pur PR (Instr.makeFunc (.func 203) #[] #[t1]) fun t3 =>
  R t3
theorem sh_octet_lanes_eq (X : Nat → Prop) (t0 : Value) (R : Value → WP) : vcFun PR X Tryz.f184 [t0] R = sh_octet_lanes X t0 R := by kernel_rfl
theorem ent_octet_lanes : Enters PR 184 := enters_of Tryz.func184 (by kernel_rfl) rfl
theorem mk_octet_lanes {X : Nat → Prop} {t0 : Value} {R : Value → WP} {w : World} (h : sh_octet_lanes X t0 R w) : Fn PR X 184 #[t0] w R := fn_of_vc (args := [t0]) mixed Tryz.func184 (by rw [sh_octet_lanes_eq]; exact h)
def sh_octet_Get (X : Nat → Prop) (t0 t1 t2 : Value) (R : Value → WP) : WP :=
  lou PR X (Instr.box 9 t0) fun t3 =>
  lou PR X (Instr.box 3 t1) fun t4 =>
  jn (n := 2) (fun t6 t7 =>
  lou PR X (Instr.alloc 68 true (.tuple #[])) fun t8 =>
  jn (n := 0) (
  rds PR (Instr.loadAt 68 t8) fun t43 =>
  unw (R (.tuple #[t43, (.bool true)]))) fun J1 =>
  cal PR X 184 [t2] fun t30 =>
  rng (N := 2) PR X (fun t31 t32 K2 =>
  bgn <|
  drw <|
  rds PR (Instr.loadAt 68 t8) fun t33 =>
  rds PR (Instr.loadAt 9 t3) fun t34 =>
  rds PR (Instr.loadAt 3 t4) fun t35 =>
  pur PR (binOp .add 3 t35 t31) fun t37 =>
  pur PR (Instr.index 9 t34 t37) fun t38 =>
  pur PR (convert 5 68 t38) fun t39 =>
  pur PR (binOp .shl 68 t39 t32) fun t41 =>
  pur PR (binOp .or 68 t33 t41) fun t42 =>
  sto PR (fun _ => False) (Instr.storeAt 68 t8 t42) <|
  K2 none) t30 (fun j => match j with | none => (J1) | some (.exit i) => (match Nat.beq i 0 with | true => (J1) | false => (nowp)) | some .ret => (unw (R (.tuple #[t6, t7]))) | some _ => nowp)) fun J3 =>
  pur PR (binOp .lss 3 t2 (.int .i64 1)) fun t12 =>
  gj t12 false (fun J => J t2) fun t14 =>
  gj t12 false (fun J => pur PR (binOp .gtr 3 t14 (.int .i64 8)) J) fun t15 =>
  pur PR (do pure (if ← asBool t12 then (.bool true) else t15)) fun t16 =>
  gj t16 false (fun J => rds PR (Instr.loadAt 3 t4) J) fun t18 =>
  gj t16 false (fun J => pur PR (binOp .lss 3 t18 (.int .i64 0)) J) fun t19 =>
  pur PR (do pure (if ← asBool t16 then (.bool true) else t19)) fun t20 =>
  gj t20 false (fun J => rds PR (Instr.loadAt 3 t4) J) fun t22 =>
  gj t20 false (fun J => rds PR (Instr.loadAt 9 t3) J) fun t23 =>
  gj t20 false (fun J => pur PR (builtinS .len #[9] 0 [t23]) J) fun t24 =>
  gj t20 false (fun J => J t2) fun t25 =>
  gj t20 false (fun J => pur PR (binOp .sub 3 t24 t25) J) fun t26 =>
  gj t20 false (fun J => pur PR (binOp .gtr 3 t22 t26) J) fun t27 =>
  pur PR (do pure (if ← asBool t20 then (.bool true) else t27)) fun t28 =>
  cnd t28 (
  unw (R (.tuple #[(.int .u64 0), (.bool false)]))) (
  J3 (.int .u64 0) (.bool false))
theorem sh_octet_Get_eq (X : Nat → Prop) (t0 t1 t2 : Value) (R : Value → WP) : vcFun PR X Tryz.f192 [t0, t1, t2] R = sh_octet_Get X t0 t1 t2 R := by kernel_rfl
theorem ent_octet_Get : Enters PR 192 := enters_of Tryz.func192 (by kernel_rfl) rfl
theorem mk_octet_Get {X : Nat → Prop} {t0 t1 t2 : Value} {R : Value → WP} {w : World} (h : sh_octet_Get X t0 t1 t2 R w) : Fn PR X 192 #[t0, t1, t2] w R := fn_of_vc (args := [t0, t1, t2]) mixed Tryz.func192 (by rw [sh_octet_Get_eq]; exact h)
def sh_octet_lanes_c1 (X : Nat → Prop) (t0 t1 : Value) (R : Value → WP) : WP :=
  rds PR (Instr.loadAt 3 t1) fun t4 =>
  lp (n := 1) (fun L1 t5 =>
  pur PR (binOp .lss 3 t5 t4) fun t6 =>
  jn (n := 0) (
  jn (n := 0) (
  pur PR (binOp .add 3 t5 (.int .i64 1)) fun t18 =>
  L1 t18) fun J2 =>
  rds PR (Instr.loadAt 3 t1) fun t10 =>
  pur PR (binOp .sub 3 t10 (.int .i64 1)) fun t11 =>
  pur PR (binOp .sub 3 t11 t5) fun t13 =>
  pur PR (binOp .mul 3 (.int .i64 8) t13) fun t14 =>
  pur PR (convert 3 133 t14) fun t15 =>
  cav PR X t0 [t5, t15] fun t16 =>
  pur PR (Op.unary .not t16) fun t17 =>
  cnd t17 (
  R (.tuple #[])) (
  J2)) fun J3 =>
  cnd t6 (
  J3) (
  R (.tuple #[]))) (.int .i64 0)
theorem sh_octet_lanes_c1_eq (X : Nat → Prop) (t0 t1 : Value) (R : Value → WP) : vcFun PR X Tryz.f203 [t0, t1] R = sh_octet_lanes_c1 X t0 t1 R := by kernel_rfl
theorem ent_octet_lanes_c1 : Enters PR 203 := enters_of Tryz.func203 (by kernel_rfl) rfl
theorem mk_octet_lanes_c1 {X : Nat → Prop} {t0 t1 : Value} {R : Value → WP} {w : World} (h : sh_octet_lanes_c1 X t0 t1 R w) : Fn PR X 203 #[t0, t1] w R := fn_of_vc (args := [t0, t1]) mixed Tryz.func203 (by rw [sh_octet_lanes_c1_eq]; exact h)
theorem ce_octet_lanes_c1 {X : Nat → Prop} {t0 t1 : Value} {K : Value → WP} {w : World} (h : Fn PR X 203 #[t0, t1] w K) : calE PR X 203 [t0, t1] K w := ⟨ent_octet_lanes_c1, h⟩
end Go.Proofs.YtggakcpabomliaaGreat
namespace Go.Proofs.YtggakcpabomliaaGreat
open Go
theorem ty101 : TI PR 101 Tryz.t100.desc 7 72 (.agg #[(.int .i64 0), (.string (ByteArray.mk #[])), (.string (ByteArray.mk #[])), (.int .i64 0), (.int .i64 0), (.int .i64 0), (.int .i64 0)]) := ⟨Tryz.underlying101, Tryz.t101, by kernel_rfl, rfl, rfl, rfl⟩
@[simp] theorem i_al_101 {X : Nat → Prop} (K : Value → WP) (w : World) : lou PR X (Instr.alloc 101 true (.tuple #[])) K w = K (.pointer (some ⟨sz w, 0, none⟩)) (w.alloc (.cells #[(.int .i64 0), (.string (ByteArray.mk #[])), (.string (ByteArray.mk #[])), (.int .i64 0), (.int .i64 0), (.int .i64 0), (.int .i64 0)] 101)) := l_alloc ty101
theorem ty103 : TI PR 103 Tryz.t102.desc 2 16 (.agg #[(.int .i64 0), (.int .i64 0)]) := ⟨Tryz.underlying103, Tryz.t103, by kernel_rfl, rfl, rfl, rfl⟩
@[simp] theorem i_al_103 {X : Nat → Prop} (K : Value → WP) (w : World) : lou PR X (Instr.alloc 103 true (.tuple #[])) K w = K (.pointer (some ⟨sz w, 0, none⟩)) (w.alloc (.cells #[(.int .i64 0), (.int .i64 0)] 103)) := l_alloc ty103
theorem ty117 : TI PR 117 Tryz.t117.desc 4 32 (.agg #[.nilFunc, .nilFunc, .nilFunc, .nilFunc]) := ⟨Tryz.underlying117, Tryz.t117, by kernel_rfl, rfl, rfl, rfl⟩
@[simp] theorem i_al_117 {X : Nat → Prop} (K : Value → WP) (w : World) : lou PR X (Instr.alloc 117 true (.tuple #[])) K w = K (.pointer (some ⟨sz w, 0, none⟩)) (w.alloc (.cells #[.nilFunc, .nilFunc, .nilFunc, .nilFunc] 117)) := l_alloc ty117
theorem ty119 : TI PR 119 Tryz.t118.desc 4 40 (.agg #[(.string (ByteArray.mk #[])), (.int .i64 0), (.bool false), (.int .i64 0)]) := ⟨Tryz.underlying119, Tryz.t119, by kernel_rfl, rfl, rfl, rfl⟩
theorem ty136 : TI PR 136 Tryz.t50.desc 1 24 (.slice none 0 0) := ⟨Tryz.underlying136, Tryz.t136, by kernel_rfl, rfl, rfl, rfl⟩
@[simp] theorem i_al_136 {X : Nat → Prop} (K : Value → WP) (w : World) : lou PR X (Instr.alloc 136 true (.tuple #[])) K w = K (.pointer (some ⟨sz w, 0, none⟩)) (w.alloc (.cells #[(.slice none 0 0)] 136)) := l_alloc ty136
theorem ty152 : TI PR 152 Tryz.t152.desc 1 8 .nilFunc := ⟨Tryz.underlying152, Tryz.t152, by kernel_rfl, rfl, rfl, rfl⟩
@[simp] theorem i_al_152 {X : Nat → Prop} (K : Value → WP) (w : World) : lou PR X (Instr.alloc 152 true (.tuple #[])) K w = K (.pointer (some ⟨sz w, 0, none⟩)) (w.alloc (.cells #[.nilFunc] 152)) := l_alloc ty152
theorem ty161 : TI PR 161 Tryz.t160.desc 3 24 (.agg #[(.int .i64 0), (.int .i64 0), (.int .i64 0)]) := ⟨Tryz.underlying161, Tryz.t161, by kernel_rfl, rfl, rfl, rfl⟩
@[simp] theorem i_al_161 {X : Nat → Prop} (K : Value → WP) (w : World) : lou PR X (Instr.alloc 161 true (.tuple #[])) K w = K (.pointer (some ⟨sz w, 0, none⟩)) (w.alloc (.cells #[(.int .i64 0), (.int .i64 0), (.int .i64 0)] 161)) := l_alloc ty161
theorem ty164 : TI PR 164 Tryz.t163.desc 3 40 (.agg #[(.string (ByteArray.mk #[])), (.string (ByteArray.mk #[])), (.int .i64 0)]) := ⟨Tryz.underlying164, Tryz.t164, by kernel_rfl, rfl, rfl, rfl⟩
@[simp] theorem i_al_164 {X : Nat → Prop} (K : Value → WP) (w : World) : lou PR X (Instr.alloc 164 true (.tuple #[])) K w = K (.pointer (some ⟨sz w, 0, none⟩)) (w.alloc (.cells #[(.string (ByteArray.mk #[])), (.string (ByteArray.mk #[])), (.int .i64 0)] 164)) := l_alloc ty164
theorem ty166 : TI PR 166 Tryz.t163.desc 3 40 (.agg #[(.string (ByteArray.mk #[])), (.string (ByteArray.mk #[])), (.int .i64 0)]) := ⟨Tryz.underlying166, Tryz.t166, by kernel_rfl, rfl, rfl, rfl⟩
@[simp] theorem i_al_166 {X : Nat → Prop} (K : Value → WP) (w : World) : lou PR X (Instr.alloc 166 true (.tuple #[])) K w = K (.pointer (some ⟨sz w, 0, none⟩)) (w.alloc (.cells #[(.string (ByteArray.mk #[])), (.string (ByteArray.mk #[])), (.int .i64 0)] 166)) := l_alloc ty166
theorem ty178 : TI PR 178 Tryz.t178.desc 1 8 .nilFunc := ⟨Tryz.underlying178, Tryz.t178, by kernel_rfl, rfl, rfl, rfl⟩
@[simp] theorem i_al_178 {X : Nat → Prop} (K : Value → WP) (w : World) : lou PR X (Instr.alloc 178 true (.tuple #[])) K w = K (.pointer (some ⟨sz w, 0, none⟩)) (w.alloc (.cells #[.nilFunc] 178)) := l_alloc ty178
theorem ty193 : TI PR 193 Tryz.t192.desc 2 16 (.agg #[(.int .u64 0), (.int .i64 0)]) := ⟨Tryz.underlying193, Tryz.t193, by kernel_rfl, rfl, rfl, rfl⟩
@[simp] theorem i_al_193 {X : Nat → Prop} (K : Value → WP) (w : World) : lou PR X (Instr.alloc 193 true (.tuple #[])) K w = K (.pointer (some ⟨sz w, 0, none⟩)) (w.alloc (.cells #[(.int .u64 0), (.int .i64 0)] 193)) := l_alloc ty193
theorem ty200 : TI PR 200 Tryz.t200.desc 1 8 .nilFunc := ⟨Tryz.underlying200, Tryz.t200, by kernel_rfl, rfl, rfl, rfl⟩
@[simp] theorem i_al_200 {X : Nat → Prop} (K : Value → WP) (w : World) : lou PR X (Instr.alloc 200 true (.tuple #[])) K w = K (.pointer (some ⟨sz w, 0, none⟩)) (w.alloc (.cells #[.nilFunc] 200)) := l_alloc ty200
theorem ty202 : TI PR 202 Tryz.t68.desc 1 8 (.int .u64 0) := ⟨Tryz.underlying202, Tryz.t202, by kernel_rfl, rfl, rfl, rfl⟩
@[simp] theorem i_al_202 {X : Nat → Prop} (K : Value → WP) (w : World) : lou PR X (Instr.alloc 202 true (.tuple #[])) K w = K (.pointer (some ⟨sz w, 0, none⟩)) (w.alloc (.cells #[(.int .u64 0)] 202)) := l_alloc ty202
theorem ty208 : TI PR 208 Tryz.t208.desc 1 8 .nilFunc := ⟨Tryz.underlying208, Tryz.t208, by kernel_rfl, rfl, rfl, rfl⟩
theorem ty218 : TI PR 218 Tryz.t218.desc 1 24 (.slice none 0 0) := ⟨Tryz.underlying218, Tryz.t218, by kernel_rfl, rfl, rfl, rfl⟩
@[simp] theorem i_al_218 {X : Nat → Prop} (K : Value → WP) (w : World) : lou PR X (Instr.alloc 218 true (.tuple #[])) K w = K (.pointer (some ⟨sz w, 0, none⟩)) (w.alloc (.cells #[(.slice none 0 0)] 218)) := l_alloc ty218
theorem ty220 : TI PR 220 Tryz.t219.desc 2 32 (.agg #[(.pointer none), (.slice none 0 0)]) := ⟨Tryz.underlying220, Tryz.t220, by kernel_rfl, rfl, rfl, rfl⟩
theorem ty222 : TI PR 222 Tryz.t221.desc 2 32 (.agg #[(.pointer none), (.slice none 0 0)]) := ⟨Tryz.underlying222, Tryz.t222, by kernel_rfl, rfl, rfl, rfl⟩
@[simp] theorem i_al_222 {X : Nat → Prop} (K : Value → WP) (w : World) : lou PR X (Instr.alloc 222 true (.tuple #[])) K w = K (.pointer (some ⟨sz w, 0, none⟩)) (w.alloc (.cells #[(.pointer none), (.slice none 0 0)] 222)) := l_alloc ty222
theorem ty23 : TI PR 23 Tryz.t22.desc 5 40 (.agg #[(.int .i64 0), (.int .i64 0), (.int .i64 0), (.int .i64 0), (.int .i64 0)]) := ⟨Tryz.underlying23, Tryz.t23, by kernel_rfl, rfl, rfl, rfl⟩
@[simp] theorem i_al_23 {X : Nat → Prop} (K : Value → WP) (w : World) : lou PR X (Instr.alloc 23 true (.tuple #[])) K w = K (.pointer (some ⟨sz w, 0, none⟩)) (w.alloc (.cells #[(.int .i64 0), (.int .i64 0), (.int .i64 0), (.int .i64 0), (.int .i64 0)] 23)) := l_alloc ty23
theorem ty237 : TI PR 237 Tryz.t237.desc 38 38 (.agg #[(.int .u8 0), (.int .u8 0), (.int .u8 0), (.int .u8 0), (.int .u8 0), (.int .u8 0), (.int .u8 0), (.int .u8 0), (.int .u8 0), (.int .u8 0), (.int .u8 0), (.int .u8 0), (.int .u8 0), (.int .u8 0), (.int .u8 0), (.int .u8 0), (.int .u8 0), (.int .u8 0), (.int .u8 0), (.int .u8 0), (.int .u8 0), (.int .u8 0), (.int .u8 0), (.int .u8 0), (.int .u8 0), (.int .u8 0), (.int .u8 0), (.int .u8 0), (.int .u8 0), (.int .u8 0), (.int .u8 0), (.int .u8 0), (.int .u8 0), (.int .u8 0), (.int .u8 0), (.int .u8 0), (.int .u8 0), (.int .u8 0)]) := ⟨Tryz.underlying237, Tryz.t237, by kernel_rfl, rfl, rfl, rfl⟩
@[simp] theorem i_al_237 {X : Nat → Prop} (K : Value → WP) (w : World) : lou PR X (Instr.alloc 237 true (.tuple #[])) K w = K (.pointer (some ⟨sz w, 0, none⟩)) (w.alloc (.cells #[(.int .u8 0), (.int .u8 0), (.int .u8 0), (.int .u8 0), (.int .u8 0), (.int .u8 0), (.int .u8 0), (.int .u8 0), (.int .u8 0), (.int .u8 0), (.int .u8 0), (.int .u8 0), (.int .u8 0), (.int .u8 0), (.int .u8 0), (.int .u8 0), (.int .u8 0), (.int .u8 0), (.int .u8 0), (.int .u8 0), (.int .u8 0), (.int .u8 0), (.int .u8 0), (.int .u8 0), (.int .u8 0), (.int .u8 0), (.int .u8 0), (.int .u8 0), (.int .u8 0), (.int .u8 0), (.int .u8 0), (.int .u8 0), (.int .u8 0), (.int .u8 0), (.int .u8 0), (.int .u8 0), (.int .u8 0), (.int .u8 0)] 237)) := l_alloc ty237
theorem ty240 : TI PR 240 Tryz.t239.desc 5 64 (.agg #[(.string (ByteArray.mk #[])), (.string (ByteArray.mk #[])), (.string (ByteArray.mk #[])), (.int .i64 0), (.int .i64 0)]) := ⟨Tryz.underlying240, Tryz.t240, by kernel_rfl, rfl, rfl, rfl⟩
theorem ty242 : TI PR 242 Tryz.t160.desc 3 24 (.agg #[(.int .i64 0), (.int .i64 0), (.int .i64 0)]) := ⟨Tryz.underlying242, Tryz.t242, by kernel_rfl, rfl, rfl, rfl⟩
theorem ty28 : TI PR 28 Tryz.t3.desc 1 8 (.int .i64 0) := ⟨Tryz.underlying28, Tryz.t28, by kernel_rfl, rfl, rfl, rfl⟩
@[simp] theorem i_al_28 {X : Nat → Prop} (K : Value → WP) (w : World) : lou PR X (Instr.alloc 28 true (.tuple #[])) K w = K (.pointer (some ⟨sz w, 0, none⟩)) (w.alloc (.cells #[(.int .i64 0)] 28)) := l_alloc ty28
theorem ty280 : TI PR 280 Tryz.t163.desc 3 40 (.agg #[(.string (ByteArray.mk #[])), (.string (ByteArray.mk #[])), (.int .i64 0)]) := ⟨Tryz.underlying280, Tryz.t280, by kernel_rfl, rfl, rfl, rfl⟩
theorem ty283 : TI PR 283 Tryz.t163.desc 3 40 (.agg #[(.string (ByteArray.mk #[])), (.string (ByteArray.mk #[])), (.int .i64 0)]) := ⟨Tryz.underlying283, Tryz.t283, by kernel_rfl, rfl, rfl, rfl⟩
theorem ty3 : TI PR 3 Tryz.t3.desc 1 8 (.int .i64 0) := ⟨Tryz.underlying3, Tryz.t3, by kernel_rfl, rfl, rfl, rfl⟩
@[simp] theorem i_al_3 {X : Nat → Prop} (K : Value → WP) (w : World) : lou PR X (Instr.alloc 3 true (.tuple #[])) K w = K (.pointer (some ⟨sz w, 0, none⟩)) (w.alloc (.cells #[(.int .i64 0)] 3)) := l_alloc ty3
theorem ty300 : TI PR 300 Tryz.t299.desc 2 16 (.agg #[.nilFunc, (.int .i64 0)]) := ⟨Tryz.underlying300, Tryz.t300, by kernel_rfl, rfl, rfl, rfl⟩
@[simp] theorem i_al_300 {X : Nat → Prop} (K : Value → WP) (w : World) : lou PR X (Instr.alloc 300 true (.tuple #[])) K w = K (.pointer (some ⟨sz w, 0, none⟩)) (w.alloc (.cells #[.nilFunc, (.int .i64 0)] 300)) := l_alloc ty300
theorem ty315 : TI PR 315 Tryz.t68.desc 1 8 (.int .u64 0) := ⟨Tryz.underlying315, Tryz.t315, by kernel_rfl, rfl, rfl, rfl⟩
theorem ty36 : TI PR 36 Tryz.t35.desc 8 112 (.agg #[(.int .i64 0), (.int .i64 0), (.int .i64 0), (.int .i64 0), (.int .i64 0), (.slice none 0 0), (.slice none 0 0), (.slice none 0 0)]) := ⟨Tryz.underlying36, Tryz.t36, by kernel_rfl, rfl, rfl, rfl⟩
theorem ty39 : TI PR 39 Tryz.t38.desc 4 32 (.agg #[(.int .i64 0), (.int .i64 0), (.bool false), (.int .i64 0)]) := ⟨Tryz.underlying39, Tryz.t39, by kernel_rfl, rfl, rfl, rfl⟩
@[simp] theorem i_al_39 {X : Nat → Prop} (K : Value → WP) (w : World) : lou PR X (Instr.alloc 39 true (.tuple #[])) K w = K (.pointer (some ⟨sz w, 0, none⟩)) (w.alloc (.cells #[(.int .i64 0), (.int .i64 0), (.bool false), (.int .i64 0)] 39)) := l_alloc ty39
theorem ty4 : TI PR 4 Tryz.t4.desc 1 1 (.bool false) := ⟨Tryz.underlying4, Tryz.t4, by kernel_rfl, rfl, rfl, rfl⟩
theorem ty50 : TI PR 50 Tryz.t50.desc 1 24 (.slice none 0 0) := ⟨Tryz.underlying50, Tryz.t50, by kernel_rfl, rfl, rfl, rfl⟩
@[simp] theorem i_al_50 {X : Nat → Prop} (K : Value → WP) (w : World) : lou PR X (Instr.alloc 50 true (.tuple #[])) K w = K (.pointer (some ⟨sz w, 0, none⟩)) (w.alloc (.cells #[(.slice none 0 0)] 50)) := l_alloc ty50
theorem ty57 : TI PR 57 Tryz.t57.desc 1 24 (.slice none 0 0) := ⟨Tryz.underlying57, Tryz.t57, by kernel_rfl, rfl, rfl, rfl⟩
theorem ty68 : TI PR 68 Tryz.t68.desc 1 8 (.int .u64 0) := ⟨Tryz.underlying68, Tryz.t68, by kernel_rfl, rfl, rfl, rfl⟩
@[simp] theorem i_al_68 {X : Nat → Prop} (K : Value → WP) (w : World) : lou PR X (Instr.alloc 68 true (.tuple #[])) K w = K (.pointer (some ⟨sz w, 0, none⟩)) (w.alloc (.cells #[(.int .u64 0)] 68)) := l_alloc ty68
theorem ty71 : TI PR 71 Tryz.t70.desc 4 40 (.agg #[(.int .i64 0), (.string (ByteArray.mk #[])), (.int .i64 0), (.int .i64 0)]) := ⟨Tryz.underlying71, Tryz.t71, by kernel_rfl, rfl, rfl, rfl⟩
@[simp] theorem i_al_71 {X : Nat → Prop} (K : Value → WP) (w : World) : lou PR X (Instr.alloc 71 true (.tuple #[])) K w = K (.pointer (some ⟨sz w, 0, none⟩)) (w.alloc (.cells #[(.int .i64 0), (.string (ByteArray.mk #[])), (.int .i64 0), (.int .i64 0)] 71)) := l_alloc ty71
theorem ty93 : TI PR 93 Tryz.t92.desc 10 80 (.agg #[(.int .i64 0), (.int .i64 0), (.int .i64 0), (.int .i64 0), (.int .i64 0), (.int .i64 0), (.int .i64 0), (.int .i64 0), (.bool false), (.int .i64 0)]) := ⟨Tryz.underlying93, Tryz.t93, by kernel_rfl, rfl, rfl, rfl⟩
theorem ty94 : TI PR 94 Tryz.t92.desc 10 80 (.agg #[(.int .i64 0), (.int .i64 0), (.int .i64 0), (.int .i64 0), (.int .i64 0), (.int .i64 0), (.int .i64 0), (.int .i64 0), (.bool false), (.int .i64 0)]) := ⟨Tryz.underlying94, Tryz.t94, by kernel_rfl, rfl, rfl, rfl⟩
theorem ty99 : TI PR 99 Tryz.t98.desc 6 64 (.agg #[(.int .i64 0), (.string (ByteArray.mk #[])), (.string (ByteArray.mk #[])), (.int .i64 0), (.int .i64 0), (.int .i64 0)]) := ⟨Tryz.underlying99, Tryz.t99, by kernel_rfl, rfl, rfl, rfl⟩
@[simp] theorem i_al_99 {X : Nat → Prop} (K : Value → WP) (w : World) : lou PR X (Instr.alloc 99 true (.tuple #[])) K w = K (.pointer (some ⟨sz w, 0, none⟩)) (w.alloc (.cells #[(.int .i64 0), (.string (ByteArray.mk #[])), (.string (ByteArray.mk #[])), (.int .i64 0), (.int .i64 0), (.int .i64 0)] 99)) := l_alloc ty99
theorem ty104 : TI PR 104 Tryz.t104.desc 1 24 (.slice none 0 0) := ⟨Tryz.underlying104, Tryz.t104, by kernel_rfl, rfl, rfl, rfl⟩
theorem ty42 : TI PR 42 Tryz.t41.desc 4 56 (.agg #[(.int .i64 0), (.string (ByteArray.mk #[])), (.slice none 0 0), (.int .i64 0)]) := ⟨Tryz.underlying42, Tryz.t42, by kernel_rfl, rfl, rfl, rfl⟩
theorem ty107 : TI PR 107 Tryz.t107.desc 1 24 (.slice none 0 0) := ⟨Tryz.underlying107, Tryz.t107, by kernel_rfl, rfl, rfl, rfl⟩
theorem ty113 : TI PR 113 Tryz.t112.desc 2 32 (.agg #[(.slice none 0 0), (.int .i64 0)]) := ⟨Tryz.underlying113, Tryz.t113, by kernel_rfl, rfl, rfl, rfl⟩
theorem ty146 : TI PR 146 Tryz.t146.desc 1 24 (.slice none 0 0) := ⟨Tryz.underlying146, Tryz.t146, by kernel_rfl, rfl, rfl, rfl⟩
theorem ty199 : TI PR 199 Tryz.t192.desc 2 16 (.agg #[(.int .u64 0), (.int .i64 0)]) := ⟨Tryz.underlying199, Tryz.t199, by kernel_rfl, rfl, rfl, rfl⟩
theorem ap_146_146 {X : Nat → Prop} {K : Value → WP} {w : World} {ty : TypeId} {v x : Value} {n m : Nat} {xs news : List Value} (hv : Own w 199 2 v n xs) (hx : Rd1 w x m news) (hl : news.length = m * 2) (hp : news.all plain = true) (h63 : n + m ≤ maxLen) (hby : (n + m) * 16 ≤ 140737488355328) (hK : ∀ v' w', Own w' 199 2 v' (n + m) (xs ++ news) → But (ownB v) w w' → (∀ g ∈ ownB v', g ∈ ownB v ∨ sz w ≤ g) → K v' w') : lou PR X (builtinS .append #[146, 146] ty [v, x]) K w := l_append ty146 ty199 rfl (by omega) hv hx hl hp h63 hby hK
theorem ty190 : TI PR 190 Tryz.t190.desc 1 24 (.slice none 0 0) := ⟨Tryz.underlying190, Tryz.t190, by kernel_rfl, rfl, rfl, rfl⟩
theorem ap_190_190 {X : Nat → Prop} {K : Value → WP} {w : World} {ty : TypeId} {v x : Value} {n m : Nat} {xs news : List Value} (hv : Own w 193 2 v n xs) (hx : Rd1 w x m news) (hl : news.length = m * 2) (hp : news.all plain = true) (h63 : n + m ≤ maxLen) (hby : (n + m) * 16 ≤ 140737488355328) (hK : ∀ v' w', Own w' 193 2 v' (n + m) (xs ++ news) → But (ownB v) w w' → (∀ g ∈ ownB v', g ∈ ownB v ∨ sz w ≤ g) → K v' w') : lou PR X (builtinS .append #[190, 190] ty [v, x]) K w := l_append ty190 ty193 rfl (by omega) hv hx hl hp h63 hby hK
theorem ty32 : TI PR 32 Tryz.t32.desc 1 24 (.slice none 0 0) := ⟨Tryz.underlying32, Tryz.t32, by kernel_rfl, rfl, rfl, rfl⟩
theorem ap_32_32 {X : Nat → Prop} {K : Value → WP} {w : World} {ty : TypeId} {v x : Value} {n m : Nat} {xs news : List Value} (hv : Own w 103 2 v n xs) (hx : Rd1 w x m news) (hl : news.length = m * 2) (hp : news.all plain = true) (h63 : n + m ≤ maxLen) (hby : (n + m) * 16 ≤ 140737488355328) (hK : ∀ v' w', Own w' 103 2 v' (n + m) (xs ++ news) → But (ownB v) w w' → (∀ g ∈ ownB v', g ∈ ownB v ∨ sz w ≤ g) → K v' w') : lou PR X (builtinS .append #[32, 32] ty [v, x]) K w := l_append ty32 ty103 rfl (by omega) hv hx hl hp h63 hby hK
theorem ty33 : TI PR 33 Tryz.t33.desc 1 24 (.slice none 0 0) := ⟨Tryz.underlying33, Tryz.t33, by kernel_rfl, rfl, rfl, rfl⟩
theorem ty34 : TI PR 34 Tryz.t34.desc 1 24 (.slice none 0 0) := ⟨Tryz.underlying34, Tryz.t34, by kernel_rfl, rfl, rfl, rfl⟩
theorem ap_50_50 {X : Nat → Prop} {K : Value → WP} {w : World} {ty : TypeId} {v x : Value} {n m : Nat} {xs news : List Value} (hv : Own w 71 4 v n xs) (hx : Rd1 w x m news) (hl : news.length = m * 4) (hp : news.all plain = true) (h63 : n + m ≤ maxLen) (hby : (n + m) * 40 ≤ 140737488355328) (hK : ∀ v' w', Own w' 71 4 v' (n + m) (xs ++ news) → But (ownB v) w w' → (∀ g ∈ ownB v', g ∈ ownB v ∨ sz w ≤ g) → K v' w') : lou PR X (builtinS .append #[50, 50] ty [v, x]) K w := l_append ty50 ty71 rfl (by omega) hv hx hl hp h63 hby hK
theorem ty9 : TI PR 9 Tryz.t9.desc 1 16 (.string (ByteArray.mk #[])) := ⟨Tryz.underlying9, Tryz.t9, by kernel_rfl, rfl, rfl, rfl⟩
theorem ap_57_57 {X : Nat → Prop} {K : Value → WP} {w : World} {ty : TypeId} {v x : Value} {n m : Nat} {xs news : List Value} (hv : Own w 9 1 v n xs) (hx : Rd1 w x m news) (hl : news.length = m * 1) (hp : news.all plain = true) (h63 : n + m ≤ maxLen) (hby : (n + m) * 16 ≤ 140737488355328) (hK : ∀ v' w', Own w' 9 1 v' (n + m) (xs ++ news) → But (ownB v) w w' → (∀ g ∈ ownB v', g ∈ ownB v ∨ sz w ≤ g) → K v' w') : lou PR X (builtinS .append #[57, 57] ty [v, x]) K w := l_append ty57 ty9 rfl (by omega) hv hx hl hp h63 hby hK
theorem ty83 : TI PR 83 Tryz.t83.desc 1 24 (.slice none 0 0) := ⟨Tryz.underlying83, Tryz.t83, by kernel_rfl, rfl, rfl, rfl⟩
@[simp] theorem i_bd_101_  (K : Value → WP) : pur PR (Instr.build 101 #[]) K = K (.agg #[(.int .i64 0), (.string (ByteArray.mk #[])), (.string (ByteArray.mk #[])), (.int .i64 0), (.int .i64 0), (.int .i64 0), (.int .i64 0)]) := p_build (pl := #[(0, 6), (6, 1)]) ty101 (fun w => by kernel_rfl) rfl
@[simp] theorem i_bd_101_0_1 {v0 v1 : Value} (h0 : v0.cells.size = 6) (h1 : v1.cells.size = 1) (K : Value → WP) : pur PR (Instr.build 101 #[(0, v0), (1, v1)]) K = K (.agg (spl (spl #[(.int .i64 0), (.string (ByteArray.mk #[])), (.string (ByteArray.mk #[])), (.int .i64 0), (.int .i64 0), (.int .i64 0), (.int .i64 0)] 0 v0.cells.toList) 6 v1.cells.toList)) := p_build (pl := #[(0, 6), (6, 1)]) ty101 (fun w => by kernel_rfl) (by rw [fill_cons rfl h0 (by simp [spl_size]), fill_cons rfl h1 (by simp [spl_size])]; rfl)
@[simp] theorem i_bd_101_0 {v0 : Value} (h0 : v0.cells.size = 6) (K : Value → WP) : pur PR (Instr.build 101 #[(0, v0)]) K = K (.agg (spl #[(.int .i64 0), (.string (ByteArray.mk #[])), (.string (ByteArray.mk #[])), (.int .i64 0), (.int .i64 0), (.int .i64 0), (.int .i64 0)] 0 v0.cells.toList)) := p_build (pl := #[(0, 6), (6, 1)]) ty101 (fun w => by kernel_rfl) (by rw [fill_cons rfl h0 (by simp [spl_size])]; rfl)
@[simp] theorem i_bd_103_0_1 {v0 v1 : Value} (h0 : v0.cells.size = 1) (h1 : v1.cells.size = 1) (K : Value → WP) : pur PR (Instr.build 103 #[(0, v0), (1, v1)]) K = K (.agg (spl (spl #[(.int .i64 0), (.int .i64 0)] 0 v0.cells.toList) 1 v1.cells.toList)) := p_build (pl := #[(0, 1), (1, 1)]) ty103 (fun w => by kernel_rfl) (by rw [fill_cons rfl h0 (by simp [spl_size]), fill_cons rfl h1 (by simp [spl_size])]; rfl)
theorem ty109 : TI PR 109 Tryz.t108.desc 7 88 (.agg #[(.int .i64 0), (.int .i64 0), (.int .i64 0), (.int .i64 0), (.int .i64 0), (.slice none 0 0), (.slice none 0 0)]) := ⟨Tryz.underlying109, Tryz.t109, by kernel_rfl, rfl, rfl, rfl⟩
@[simp] theorem i_bd_109_0_2 {v0 v1 : Value} (h0 : v0.cells.size = 5) (h1 : v1.cells.size = 1) (K : Value → WP) : pur PR (Instr.build 109 #[(0, v0), (2, v1)]) K = K (.agg (spl (spl #[(.int .i64 0), (.int .i64 0), (.int .i64 0), (.int .i64 0), (.int .i64 0), (.slice none 0 0), (.slice none 0 0)] 0 v0.cells.toList) 6 v1.cells.toList)) := p_build (pl := #[(0, 5), (5, 1), (6, 1)]) ty109 (fun w => by kernel_rfl) (by rw [fill_cons rfl h0 (by simp [spl_size]), fill_cons rfl h1 (by simp [spl_size])]; rfl)
theorem ty140 : TI PR 140 Tryz.t140.desc 2 16 (.agg #[(.int .i64 0), (.int .i64 0)]) := ⟨Tryz.underlying140, Tryz.t140, by kernel_rfl, rfl, rfl, rfl⟩
@[simp] theorem i_bd_161_  (K : Value → WP) : pur PR (Instr.build 161 #[]) K = K (.agg #[(.int .i64 0), (.int .i64 0), (.int .i64 0)]) := p_build (pl := #[(0, 1), (1, 1), (2, 1)]) ty161 (fun w => by kernel_rfl) rfl
@[simp] theorem i_bd_161_0_1 {v0 v1 : Value} (h0 : v0.cells.size = 1) (h1 : v1.cells.size = 1) (K : Value → WP) : pur PR (Instr.build 161 #[(0, v0), (1, v1)]) K = K (.agg (spl (spl #[(.int .i64 0), (.int .i64 0), (.int .i64 0)] 0 v0.cells.toList) 1 v1.cells.toList)) := p_build (pl := #[(0, 1), (1, 1), (2, 1)]) ty161 (fun w => by kernel_rfl) (by rw [fill_cons rfl h0 (by simp [spl_size]), fill_cons rfl h1 (by simp [spl_size])]; rfl)
@[simp] theorem i_bd_161_0_1_2 {v0 v1 v2 : Value} (h0 : v0.cells.size = 1) (h1 : v1.cells.size = 1) (h2 : v2.cells.size = 1) (K : Value → WP) : pur PR (Instr.build 161 #[(0, v0), (1, v1), (2, v2)]) K = K (.agg (spl (spl (spl #[(.int .i64 0), (.int .i64 0), (.int .i64 0)] 0 v0.cells.toList) 1 v1.cells.toList) 2 v2.cells.toList)) := p_build (pl := #[(0, 1), (1, 1), (2, 1)]) ty161 (fun w => by kernel_rfl) (by rw [fill_cons rfl h0 (by simp [spl_size]), fill_cons rfl h1 (by simp [spl_size]), fill_cons rfl h2 (by simp [spl_size])]; rfl)
@[simp] theorem i_bd_164_  (K : Value → WP) : pur PR (Instr.build 164 #[]) K = K (.agg #[(.string (ByteArray.mk #[])), (.string (ByteArray.mk #[])), (.int .i64 0)]) := p_build (pl := #[(0, 1), (1, 1), (2, 1)]) ty164 (fun w => by kernel_rfl) rfl
@[simp] theorem i_bd_164_0_1_2 {v0 v1 v2 : Value} (h0 : v0.cells.size = 1) (h1 : v1.cells.size = 1) (h2 : v2.cells.size = 1) (K : Value → WP) : pur PR (Instr.build 164 #[(0, v0), (1, v1), (2, v2)]) K = K (.agg (spl (spl (spl #[(.string (ByteArray.mk #[])), (.string (ByteArray.mk #[])), (.int .i64 0)] 0 v0.cells.toList) 1 v1.cells.toList) 2 v2.cells.toList)) := p_build (pl := #[(0, 1), (1, 1), (2, 1)]) ty164 (fun w => by kernel_rfl) (by rw [fill_cons rfl h0 (by simp [spl_size]), fill_cons rfl h1 (by simp [spl_size]), fill_cons rfl h2 (by simp [spl_size])]; rfl)
@[simp] theorem i_bd_166_  (K : Value → WP) : pur PR (Instr.build 166 #[]) K = K (.agg #[(.string (ByteArray.mk #[])), (.string (ByteArray.mk #[])), (.int .i64 0)]) := p_build (pl := #[(0, 1), (1, 1), (2, 1)]) ty166 (fun w => by kernel_rfl) rfl
@[simp] theorem i_bd_166_0_1_2 {v0 v1 v2 : Value} (h0 : v0.cells.size = 1) (h1 : v1.cells.size = 1) (h2 : v2.cells.size = 1) (K : Value → WP) : pur PR (Instr.build 166 #[(0, v0), (1, v1), (2, v2)]) K = K (.agg (spl (spl (spl #[(.string (ByteArray.mk #[])), (.string (ByteArray.mk #[])), (.int .i64 0)] 0 v0.cells.toList) 1 v1.cells.toList) 2 v2.cells.toList)) := p_build (pl := #[(0, 1), (1, 1), (2, 1)]) ty166 (fun w => by kernel_rfl) (by rw [fill_cons rfl h0 (by simp [spl_size]), fill_cons rfl h1 (by simp [spl_size]), fill_cons rfl h2 (by simp [spl_size])]; rfl)
@[simp] theorem i_bd_193_0_1 {v0 v1 : Value} (h0 : v0.cells.size = 1) (h1 : v1.cells.size = 1) (K : Value → WP) : pur PR (Instr.build 193 #[(0, v0), (1, v1)]) K = K (.agg (spl (spl #[(.int .u64 0), (.int .i64 0)] 0 v0.cells.toList) 1 v1.cells.toList)) := p_build (pl := #[(0, 1), (1, 1)]) ty193 (fun w => by kernel_rfl) (by rw [fill_cons rfl h0 (by simp [spl_size]), fill_cons rfl h1 (by simp [spl_size])]; rfl)
@[simp] theorem i_bd_199_0_1 {v0 v1 : Value} (h0 : v0.cells.size = 1) (h1 : v1.cells.size = 1) (K : Value → WP) : pur PR (Instr.build 199 #[(0, v0), (1, v1)]) K = K (.agg (spl (spl #[(.int .u64 0), (.int .i64 0)] 0 v0.cells.toList) 1 v1.cells.toList)) := p_build (pl := #[(0, 1), (1, 1)]) ty199 (fun w => by kernel_rfl) (by rw [fill_cons rfl h0 (by simp [spl_size]), fill_cons rfl h1 (by simp [spl_size])]; rfl)
@[simp] theorem i_bd_23_  (K : Value → WP) : pur PR (Instr.build 23 #[]) K = K (.agg #[(.int .i64 0), (.int .i64 0), (.int .i64 0), (.int .i64 0), (.int .i64 0)]) := p_build (pl := #[(0, 1), (1, 1), (2, 1), (3, 1), (4, 1)]) ty23 (fun w => by kernel_rfl) rfl
@[simp] theorem i_bd_23_0_1_2_3_4 {v0 v1 v2 v3 v4 : Value} (h0 : v0.cells.size = 1) (h1 : v1.cells.size = 1) (h2 : v2.cells.size = 1) (h3 : v3.cells.size = 1) (h4 : v4.cells.size = 1) (K : Value → WP) : pur PR (Instr.build 23 #[(0, v0), (1, v1), (2, v2), (3, v3), (4, v4)]) K = K (.agg (spl (spl (spl (spl (spl #[(.int .i64 0), (.int .i64 0), (.int .i64 0), (.int .i64 0), (.int .i64 0)] 0 v0.cells.toList) 1 v1.cells.toList) 2 v2.cells.toList) 3 v3.cells.toList) 4 v4.cells.toList)) := p_build (pl := #[(0, 1), (1, 1), (2, 1), (3, 1), (4, 1)]) ty23 (fun w => by kernel_rfl) (by rw [fill_cons rfl h0 (by simp [spl_size]), fill_cons rfl h1 (by simp [spl_size]), fill_cons rfl h2 (by simp [spl_size]), fill_cons rfl h3 (by simp [spl_size]), fill_cons rfl h4 (by simp [spl_size])]; rfl)
theorem ty263 : TI PR 263 Tryz.t262.desc 0 0 (.agg #[]) := ⟨Tryz.underlying263, Tryz.t263, by kernel_rfl, rfl, rfl, rfl⟩
@[simp] theorem i_bd_263_  (K : Value → WP) : pur PR (Instr.build 263 #[]) K = K (.agg #[]) := p_build (pl := #[]) ty263 (fun w => by kernel_rfl) rfl
theorem ty264 : TI PR 264 Tryz.t262.desc 0 0 (.agg #[]) := ⟨Tryz.underlying264, Tryz.t264, by kernel_rfl, rfl, rfl, rfl⟩
@[simp] theorem i_bd_264_  (K : Value → WP) : pur PR (Instr.build 264 #[]) K = K (.agg #[]) := p_build (pl := #[]) ty264 (fun w => by kernel_rfl) rfl
@[simp] theorem i_bd_300_0_1 {v0 v1 : Value} (h0 : v0.cells.size = 1) (h1 : v1.cells.size = 1) (K : Value → WP) : pur PR (Instr.build 300 #[(0, v0), (1, v1)]) K = K (.agg (spl (spl #[.nilFunc, (.int .i64 0)] 0 v0.cells.toList) 1 v1.cells.toList)) := p_build (pl := #[(0, 1), (1, 1)]) ty300 (fun w => by kernel_rfl) (by rw [fill_cons rfl h0 (by simp [spl_size]), fill_cons rfl h1 (by simp [spl_size])]; rfl)
@[simp] theorem i_bd_39_  (K : Value → WP) : pur PR (Instr.build 39 #[]) K = K (.agg #[(.int .i64 0), (.int .i64 0), (.bool false), (.int .i64 0)]) := p_build (pl := #[(0, 1), (1, 1), (2, 1), (3, 1)]) ty39 (fun w => by kernel_rfl) rfl
@[simp] theorem i_bd_39_0 {v0 : Value} (h0 : v0.cells.size = 1) (K : Value → WP) : pur PR (Instr.build 39 #[(0, v0)]) K = K (.agg (spl #[(.int .i64 0), (.int .i64 0), (.bool false), (.int .i64 0)] 0 v0.cells.toList)) := p_build (pl := #[(0, 1), (1, 1), (2, 1), (3, 1)]) ty39 (fun w => by kernel_rfl) (by rw [fill_cons rfl h0 (by simp [spl_size])]; rfl)
@[simp] theorem i_bd_39_1_2 {v0 v1 : Value} (h0 : v0.cells.size = 1) (h1 : v1.cells.size = 1) (K : Value → WP) : pur PR (Instr.build 39 #[(1, v0), (2, v1)]) K = K (.agg (spl (spl #[(.int .i64 0), (.int .i64 0), (.bool false), (.int .i64 0)] 1 v0.cells.toList) 2 v1.cells.toList)) := p_build (pl := #[(0, 1), (1, 1), (2, 1), (3, 1)]) ty39 (fun w => by kernel_rfl) (by rw [fill_cons rfl h0 (by simp [spl_size]), fill_cons rfl h1 (by simp [spl_size])]; rfl)
@[simp] theorem i_bd_39_1 {v0 : Value} (h0 : v0.cells.size = 1) (K : Value → WP) : pur PR (Instr.build 39 #[(1, v0)]) K = K (.agg (spl #[(.int .i64 0), (.int .i64 0), (.bool false), (.int .i64 0)] 1 v0.cells.toList)) := p_build (pl := #[(0, 1), (1, 1), (2, 1), (3, 1)]) ty39 (fun w => by kernel_rfl) (by rw [fill_cons rfl h0 (by simp [spl_size])]; rfl)
@[simp] theorem i_bd_39_3 {v0 : Value} (h0 : v0.cells.size = 1) (K : Value → WP) : pur PR (Instr.build 39 #[(3, v0)]) K = K (.agg (spl #[(.int .i64 0), (.int .i64 0), (.bool false), (.int .i64 0)] 3 v0.cells.toList)) := p_build (pl := #[(0, 1), (1, 1), (2, 1), (3, 1)]) ty39 (fun w => by kernel_rfl) (by rw [fill_cons rfl h0 (by simp [spl_size])]; rfl)
@[simp] theorem i_bd_42_  (K : Value → WP) : pur PR (Instr.build 42 #[]) K = K (.agg #[(.int .i64 0), (.string (ByteArray.mk #[])), (.slice none 0 0), (.int .i64 0)]) := p_build (pl := #[(0, 1), (1, 1), (2, 1), (3, 1)]) ty42 (fun w => by kernel_rfl) rfl
@[simp] theorem i_bd_42_0_2 {v0 v1 : Value} (h0 : v0.cells.size = 1) (h1 : v1.cells.size = 1) (K : Value → WP) : pur PR (Instr.build 42 #[(0, v0), (2, v1)]) K = K (.agg (spl (spl #[(.int .i64 0), (.string (ByteArray.mk #[])), (.slice none 0 0), (.int .i64 0)] 0 v0.cells.toList) 2 v1.cells.toList)) := p_build (pl := #[(0, 1), (1, 1), (2, 1), (3, 1)]) ty42 (fun w => by kernel_rfl) (by rw [fill_cons rfl h0 (by simp [spl_size]), fill_cons rfl h1 (by simp [spl_size])]; rfl)
@[simp] theorem i_bd_42_0 {v0 : Value} (h0 : v0.cells.size = 1) (K : Value → WP) : pur PR (Instr.build 42 #[(0, v0)]) K = K (.agg (spl #[(.int .i64 0), (.string (ByteArray.mk #[])), (.slice none 0 0), (.int .i64 0)] 0 v0.cells.toList)) := p_build (pl := #[(0, 1), (1, 1), (2, 1), (3, 1)]) ty42 (fun w => by kernel_rfl) (by rw [fill_cons rfl h0 (by simp [spl_size])]; rfl)
@[simp] theorem i_bd_42_1 {v0 : Value} (h0 : v0.cells.size = 1) (K : Value → WP) : pur PR (Instr.build 42 #[(1, v0)]) K = K (.agg (spl #[(.int .i64 0), (.string (ByteArray.mk #[])), (.slice none 0 0), (.int .i64 0)] 1 v0.cells.toList)) := p_build (pl := #[(0, 1), (1, 1), (2, 1), (3, 1)]) ty42 (fun w => by kernel_rfl) (by rw [fill_cons rfl h0 (by simp [spl_size])]; rfl)
@[simp] theorem i_bd_71_0_1_2_3 {v0 v1 v2 v3 : Value} (h0 : v0.cells.size = 1) (h1 : v1.cells.size = 1) (h2 : v2.cells.size = 1) (h3 : v3.cells.size = 1) (K : Value → WP) : pur PR (Instr.build 71 #[(0, v0), (1, v1), (2, v2), (3, v3)]) K = K (.agg (spl (spl (spl (spl #[(.int .i64 0), (.string (ByteArray.mk #[])), (.int .i64 0), (.int .i64 0)] 0 v0.cells.toList) 1 v1.cells.toList) 2 v2.cells.toList) 3 v3.cells.toList)) := p_build (pl := #[(0, 1), (1, 1), (2, 1), (3, 1)]) ty71 (fun w => by kernel_rfl) (by rw [fill_cons rfl h0 (by simp [spl_size]), fill_cons rfl h1 (by simp [spl_size]), fill_cons rfl h2 (by simp [spl_size]), fill_cons rfl h3 (by simp [spl_size])]; rfl)
@[simp] theorem i_bd_71_0 {v0 : Value} (h0 : v0.cells.size = 1) (K : Value → WP) : pur PR (Instr.build 71 #[(0, v0)]) K = K (.agg (spl #[(.int .i64 0), (.string (ByteArray.mk #[])), (.int .i64 0), (.int .i64 0)] 0 v0.cells.toList)) := p_build (pl := #[(0, 1), (1, 1), (2, 1), (3, 1)]) ty71 (fun w => by kernel_rfl) (by rw [fill_cons rfl h0 (by simp [spl_size])]; rfl)
@[simp] theorem i_bd_99_  (K : Value → WP) : pur PR (Instr.build 99 #[]) K = K (.agg #[(.int .i64 0), (.string (ByteArray.mk #[])), (.string (ByteArray.mk #[])), (.int .i64 0), (.int .i64 0), (.int .i64 0)]) := p_build (pl := #[(0, 1), (1, 1), (2, 1), (3, 1), (4, 1), (5, 1)]) ty99 (fun w => by kernel_rfl) rfl
@[simp] theorem i_bd_99_0_1_2_3_4_5 {v0 v1 v2 v3 v4 v5 : Value} (h0 : v0.cells.size = 1) (h1 : v1.cells.size = 1) (h2 : v2.cells.size = 1) (h3 : v3.cells.size = 1) (h4 : v4.cells.size = 1) (h5 : v5.cells.size = 1) (K : Value → WP) : pur PR (Instr.build 99 #[(0, v0), (1, v1), (2, v2), (3, v3), (4, v4), (5, v5)]) K = K (.agg (spl (spl (spl (spl (spl (spl #[(.int .i64 0), (.string (ByteArray.mk #[])), (.string (ByteArray.mk #[])), (.int .i64 0), (.int .i64 0), (.int .i64 0)] 0 v0.cells.toList) 1 v1.cells.toList) 2 v2.cells.toList) 3 v3.cells.toList) 4 v4.cells.toList) 5 v5.cells.toList)) := p_build (pl := #[(0, 1), (1, 1), (2, 1), (3, 1), (4, 1), (5, 1)]) ty99 (fun w => by kernel_rfl) (by rw [fill_cons rfl h0 (by simp [spl_size]), fill_cons rfl h1 (by simp [spl_size]), fill_cons rfl h2 (by simp [spl_size]), fill_cons rfl h3 (by simp [spl_size]), fill_cons rfl h4 (by simp [spl_size]), fill_cons rfl h5 (by simp [spl_size])]; rfl)
@[simp] theorem i_bd_99_0_1_2_5 {v0 v1 v2 v3 : Value} (h0 : v0.cells.size = 1) (h1 : v1.cells.size = 1) (h2 : v2.cells.size = 1) (h3 : v3.cells.size = 1) (K : Value → WP) : pur PR (Instr.build 99 #[(0, v0), (1, v1), (2, v2), (5, v3)]) K = K (.agg (spl (spl (spl (spl #[(.int .i64 0), (.string (ByteArray.mk #[])), (.string (ByteArray.mk #[])), (.int .i64 0), (.int .i64 0), (.int .i64 0)] 0 v0.cells.toList) 1 v1.cells.toList) 2 v2.cells.toList) 5 v3.cells.toList)) := p_build (pl := #[(0, 1), (1, 1), (2, 1), (3, 1), (4, 1), (5, 1)]) ty99 (fun w => by kernel_rfl) (by rw [fill_cons rfl h0 (by simp [spl_size]), fill_cons rfl h1 (by simp [spl_size]), fill_cons rfl h2 (by simp [spl_size]), fill_cons rfl h3 (by simp [spl_size])]; rfl)
theorem i_z_146_1 : (Array.range 2).map ((#[(.int .u64 0), (.int .i64 0)] : Array Value)[· % 2]!) = #[(.int .u64 0), (.int .i64 0)] := by kernel_rfl
@[simp] theorem i_bs_146_1_0 {X : Nat → Prop} {v0 : Value} (h0 : v0.cells.size = 2) (K : Value → WP) (w : World) : lou PR X (Instr.buildSlice 146 1 #[(0, v0)]) K w = K (.slice (some ⟨sz w, 0, none⟩) 1 1) (w.alloc (.cells (spl #[(.int .u64 0), (.int .i64 0)] 0 v0.cells.toList) 199)) := l_buildSlice ty146 ty199 (by decide) (by decide) ((congrArg (fun c => Instr.fill _ c _) i_z_146_1).trans (by rw [fill_cons rfl h0 (by simp [spl_size])]; rfl))
theorem ty185 : TI PR 185 Tryz.t185.desc 1 24 (.slice none 0 0) := ⟨Tryz.underlying185, Tryz.t185, by kernel_rfl, rfl, rfl, rfl⟩
theorem i_z_185_2 : (Array.range 4).map ((#[(.int .i64 0), (.int .i64 0)] : Array Value)[· % 2]!) = #[(.int .i64 0), (.int .i64 0), (.int .i64 0), (.int .i64 0)] := by kernel_rfl
@[simp] theorem i_bs_185_2_0_1 {X : Nat → Prop} {v0 v1 : Value} (h0 : v0.cells.size = 2) (h1 : v1.cells.size = 2) (K : Value → WP) (w : World) : lou PR X (Instr.buildSlice 185 2 #[(0, v0), (1, v1)]) K w = K (.slice (some ⟨sz w, 0, none⟩) 2 2) (w.alloc (.cells (spl (spl #[(.int .i64 0), (.int .i64 0), (.int .i64 0), (.int .i64 0)] 0 v0.cells.toList) 2 v1.cells.toList) 140)) := l_buildSlice ty185 ty140 (by decide) (by decide) ((congrArg (fun c => Instr.fill _ c _) i_z_185_2).trans (by rw [fill_cons rfl h0 (by simp [spl_size]), fill_cons rfl h1 (by simp [spl_size])]; rfl))
theorem i_z_190_1 : (Array.range 2).map ((#[(.int .u64 0), (.int .i64 0)] : Array Value)[· % 2]!) = #[(.int .u64 0), (.int .i64 0)] := by kernel_rfl
@[simp] theorem i_bs_190_1_0 {X : Nat → Prop} {v0 : Value} (h0 : v0.cells.size = 2) (K : Value → WP) (w : World) : lou PR X (Instr.buildSlice 190 1 #[(0, v0)]) K w = K (.slice (some ⟨sz w, 0, none⟩) 1 1) (w.alloc (.cells (spl #[(.int .u64 0), (.int .i64 0)] 0 v0.cells.toList) 193)) := l_buildSlice ty190 ty193 (by decide) (by decide) ((congrArg (fun c => Instr.fill _ c _) i_z_190_1).trans (by rw [fill_cons rfl h0 (by simp [spl_size])]; rfl))
theorem ty5 : TI PR 5 Tryz.t5.desc 1 1 (.int .u8 0) := ⟨Tryz.underlying5, Tryz.t5, by kernel_rfl, rfl, rfl, rfl⟩
theorem i_z_218_1 : (Array.range 1).map ((#[(.int .u8 0)] : Array Value)[· % 1]!) = #[(.int .u8 0)] := by kernel_rfl
@[simp] theorem i_bs_218_1_0 {X : Nat → Prop} {v0 : Value} (h0 : v0.cells.size = 1) (K : Value → WP) (w : World) : lou PR X (Instr.buildSlice 218 1 #[(0, v0)]) K w = K (.slice (some ⟨sz w, 0, none⟩) 1 1) (w.alloc (.cells (spl #[(.int .u8 0)] 0 v0.cells.toList) 5)) := l_buildSlice ty218 ty5 (by decide) (by decide) ((congrArg (fun c => Instr.fill _ c _) i_z_218_1).trans (by rw [fill_cons rfl h0 (by simp [spl_size])]; rfl))
theorem ty24 : TI PR 24 Tryz.t24.desc 1 24 (.slice none 0 0) := ⟨Tryz.underlying24, Tryz.t24, by kernel_rfl, rfl, rfl, rfl⟩
theorem ty44 : TI PR 44 Tryz.t43.desc 5 64 (.agg #[(.int .i64 0), (.string (ByteArray.mk #[])), (.slice none 0 0), (.int .i64 0), (.int .i64 0)]) := ⟨Tryz.underlying44, Tryz.t44, by kernel_rfl, rfl, rfl, rfl⟩
theorem ty314 : TI PR 314 Tryz.t314.desc 1 24 (.slice none 0 0) := ⟨Tryz.underlying314, Tryz.t314, by kernel_rfl, rfl, rfl, rfl⟩
theorem i_z_314_5 : (Array.range 10).map ((#[.nilFunc, (.int .i64 0)] : Array Value)[· % 2]!) = #[.nilFunc, (.int .i64 0), .nilFunc, (.int .i64 0), .nilFunc, (.int .i64 0), .nilFunc, (.int .i64 0), .nilFunc, (.int .i64 0)] := by kernel_rfl
@[simp] theorem i_bs_314_5_0_1_2_3_4 {X : Nat → Prop} {v0 v1 v2 v3 v4 : Value} (h0 : v0.cells.size = 2) (h1 : v1.cells.size = 2) (h2 : v2.cells.size = 2) (h3 : v3.cells.size = 2) (h4 : v4.cells.size = 2) (K : Value → WP) (w : World) : lou PR X (Instr.buildSlice 314 5 #[(0, v0), (1, v1), (2, v2), (3, v3), (4, v4)]) K w = K (.slice (some ⟨sz w, 0, none⟩) 5 5) (w.alloc (.cells (spl (spl (spl (spl (spl #[.nilFunc, (.int .i64 0), .nilFunc, (.int .i64 0), .nilFunc, (.int .i64 0), .nilFunc, (.int .i64 0), .nilFunc, (.int .i64 0)] 0 v0.cells.toList) 2 v1.cells.toList) 4 v2.cells.toList) 6 v3.cells.toList) 8 v4.cells.toList) 300)) := l_buildSlice ty314 ty300 (by decide) (by decide) ((congrArg (fun c => Instr.fill _ c _) i_z_314_5).trans (by rw [fill_cons rfl h0 (by simp [spl_size]), fill_cons rfl h1 (by simp [spl_size]), fill_cons rfl h2 (by simp [spl_size]), fill_cons rfl h3 (by simp [spl_size]), fill_cons rfl h4 (by simp [spl_size])]; rfl))
@[simp] theorem i_be_32 {X : Nat → Prop} (K : Value → WP) (w : World) : lou PR X (Instr.buildSlice 32 0 #[]) K w = K (.slice (some ⟨sz w, 0, none⟩) 0 0) (w.alloc (.cells #[] 103)) := l_empty ty32 ty103
theorem i_z_32_1 : (Array.range 2).map ((#[(.int .i64 0), (.int .i64 0)] : Array Value)[· % 2]!) = #[(.int .i64 0), (.int .i64 0)] := by kernel_rfl
@[simp] theorem i_bs_32_1_0 {X : Nat → Prop} {v0 : Value} (h0 : v0.cells.size = 2) (K : Value → WP) (w : World) : lou PR X (Instr.buildSlice 32 1 #[(0, v0)]) K w = K (.slice (some ⟨sz w, 0, none⟩) 1 1) (w.alloc (.cells (spl #[(.int .i64 0), (.int .i64 0)] 0 v0.cells.toList) 103)) := l_buildSlice ty32 ty103 (by decide) (by decide) ((congrArg (fun c => Instr.fill _ c _) i_z_32_1).trans (by rw [fill_cons rfl h0 (by simp [spl_size])]; rfl))
theorem i_z_34_2 : (Array.range 2).map ((#[(.int .i64 0)] : Array Value)[· % 1]!) = #[(.int .i64 0), (.int .i64 0)] := by kernel_rfl
@[simp] theorem i_bs_34_2_0_1 {X : Nat → Prop} {v0 v1 : Value} (h0 : v0.cells.size = 1) (h1 : v1.cells.size = 1) (K : Value → WP) (w : World) : lou PR X (Instr.buildSlice 34 2 #[(0, v0), (1, v1)]) K w = K (.slice (some ⟨sz w, 0, none⟩) 2 2) (w.alloc (.cells (spl (spl #[(.int .i64 0), (.int .i64 0)] 0 v0.cells.toList) 1 v1.cells.toList) 3)) := l_buildSlice ty34 ty3 (by decide) (by decide) ((congrArg (fun c => Instr.fill _ c _) i_z_34_2).trans (by rw [fill_cons rfl h0 (by simp [spl_size]), fill_cons rfl h1 (by simp [spl_size])]; rfl))
theorem i_z_34_6 : (Array.range 6).map ((#[(.int .i64 0)] : Array Value)[· % 1]!) = #[(.int .i64 0), (.int .i64 0), (.int .i64 0), (.int .i64 0), (.int .i64 0), (.int .i64 0)] := by kernel_rfl
@[simp] theorem i_bs_34_6_0_1_2_3_4_5 {X : Nat → Prop} {v0 v1 v2 v3 v4 v5 : Value} (h0 : v0.cells.size = 1) (h1 : v1.cells.size = 1) (h2 : v2.cells.size = 1) (h3 : v3.cells.size = 1) (h4 : v4.cells.size = 1) (h5 : v5.cells.size = 1) (K : Value → WP) (w : World) : lou PR X (Instr.buildSlice 34 6 #[(0, v0), (1, v1), (2, v2), (3, v3), (4, v4), (5, v5)]) K w = K (.slice (some ⟨sz w, 0, none⟩) 6 6) (w.alloc (.cells (spl (spl (spl (spl (spl (spl #[(.int .i64 0), (.int .i64 0), (.int .i64 0), (.int .i64 0), (.int .i64 0), (.int .i64 0)] 0 v0.cells.toList) 1 v1.cells.toList) 2 v2.cells.toList) 3 v3.cells.toList) 4 v4.cells.toList) 5 v5.cells.toList) 3)) := l_buildSlice ty34 ty3 (by decide) (by decide) ((congrArg (fun c => Instr.fill _ c _) i_z_34_6).trans (by rw [fill_cons rfl h0 (by simp [spl_size]), fill_cons rfl h1 (by simp [spl_size]), fill_cons rfl h2 (by simp [spl_size]), fill_cons rfl h3 (by simp [spl_size]), fill_cons rfl h4 (by simp [spl_size]), fill_cons rfl h5 (by simp [spl_size])]; rfl))
@[simp] theorem i_be_50 {X : Nat → Prop} (K : Value → WP) (w : World) : lou PR X (Instr.buildSlice 50 0 #[]) K w = K (.slice (some ⟨sz w, 0, none⟩) 0 0) (w.alloc (.cells #[] 71)) := l_empty ty50 ty71
theorem i_z_50_1 : (Array.range 4).map ((#[(.int .i64 0), (.string (ByteArray.mk #[])), (.int .i64 0), (.int .i64 0)] : Array Value)[· % 4]!) = #[(.int .i64 0), (.string (ByteArray.mk #[])), (.int .i64 0), (.int .i64 0)] := by kernel_rfl
@[simp] theorem i_bs_50_1_0 {X : Nat → Prop} {v0 : Value} (h0 : v0.cells.size = 4) (K : Value → WP) (w : World) : lou PR X (Instr.buildSlice 50 1 #[(0, v0)]) K w = K (.slice (some ⟨sz w, 0, none⟩) 1 1) (w.alloc (.cells (spl #[(.int .i64 0), (.string (ByteArray.mk #[])), (.int .i64 0), (.int .i64 0)] 0 v0.cells.toList) 71)) := l_buildSlice ty50 ty71 (by decide) (by decide) ((congrArg (fun c => Instr.fill _ c _) i_z_50_1).trans (by rw [fill_cons rfl h0 (by simp [spl_size])]; rfl))
theorem i_z_57_1 : (Array.range 1).map ((#[(.string (ByteArray.mk #[]))] : Array Value)[· % 1]!) = #[(.string (ByteArray.mk #[]))] := by kernel_rfl
@[simp] theorem i_bs_57_1_0 {X : Nat → Prop} {v0 : Value} (h0 : v0.cells.size = 1) (K : Value → WP) (w : World) : lou PR X (Instr.buildSlice 57 1 #[(0, v0)]) K w = K (.slice (some ⟨sz w, 0, none⟩) 1 1) (w.alloc (.cells (spl #[(.string (ByteArray.mk #[]))] 0 v0.cells.toList) 9)) := l_buildSlice ty57 ty9 (by decide) (by decide) ((congrArg (fun c => Instr.fill _ c _) i_z_57_1).trans (by rw [fill_cons rfl h0 (by simp [spl_size])]; rfl))
theorem i_z_57_3 : (Array.range 3).map ((#[(.string (ByteArray.mk #[]))] : Array Value)[· % 1]!) = #[(.string (ByteArray.mk #[])), (.string (ByteArray.mk #[])), (.string (ByteArray.mk #[]))] := by kernel_rfl
@[simp] theorem i_bs_57_3_0_1_2 {X : Nat → Prop} {v0 v1 v2 : Value} (h0 : v0.cells.size = 1) (h1 : v1.cells.size = 1) (h2 : v2.cells.size = 1) (K : Value → WP) (w : World) : lou PR X (Instr.buildSlice 57 3 #[(0, v0), (1, v1), (2, v2)]) K w = K (.slice (some ⟨sz w, 0, none⟩) 3 3) (w.alloc (.cells (spl (spl (spl #[(.string (ByteArray.mk #[])), (.string (ByteArray.mk #[])), (.string (ByteArray.mk #[]))] 0 v0.cells.toList) 1 v1.cells.toList) 2 v2.cells.toList) 9)) := l_buildSlice ty57 ty9 (by decide) (by decide) ((congrArg (fun c => Instr.fill _ c _) i_z_57_3).trans (by rw [fill_cons rfl h0 (by simp [spl_size]), fill_cons rfl h1 (by simp [spl_size]), fill_cons rfl h2 (by simp [spl_size])]; rfl))
theorem ty76 : TI PR 76 Tryz.t76.desc 1 24 (.slice none 0 0) := ⟨Tryz.underlying76, Tryz.t76, by kernel_rfl, rfl, rfl, rfl⟩
theorem ty133 : TI PR 133 Tryz.t133.desc 1 8 (.int .u64 0) := ⟨Tryz.underlying133, Tryz.t133, by kernel_rfl, rfl, rfl, rfl⟩
@[simp] theorem i_cv_133_3 {k : IntKind} (a : Int) (K : Value → WP) : pur PR (convert 133 3 (.int k a)) K = K (.int .i64 (IntKind.i64.wrap a)) := p_conv ty3 ty133
theorem ty313 : TI PR 313 Tryz.t313.desc 1 4 (.int .u32 0) := ⟨Tryz.underlying313, Tryz.t313, by kernel_rfl, rfl, rfl, rfl⟩
theorem i_b2s_218_9 {K : Value → WP} {w : World} {b o cap : Nat} {ns : List Int} (hr : Row w b o (ns.map (Value.int .u8))) : rds PR (convert 218 9 (.slice (some ⟨b, o, none⟩) ns.length cap)) K w = K (.string (bytesOf ns)) w := r_b2s ty218 ty5 ty9 hr
@[simp] theorem i_cv_3_133 {k : IntKind} (a : Int) (K : Value → WP) : pur PR (convert 3 133 (.int k a)) K = K (.int .u64 (IntKind.u64.wrap a)) := p_conv ty133 ty3
@[simp] theorem i_cv_3_68 {k : IntKind} (a : Int) (K : Value → WP) : pur PR (convert 3 68 (.int k a)) K = K (.int .u64 (IntKind.u64.wrap a)) := p_conv ty68 ty3
@[simp] theorem i_cv_5_202 {k : IntKind} (a : Int) (K : Value → WP) : pur PR (convert 5 202 (.int k a)) K = K (.int .u64 (IntKind.u64.wrap a)) := p_conv ty202 ty5
@[simp] theorem i_cv_5_3 {k : IntKind} (a : Int) (K : Value → WP) : pur PR (convert 5 3 (.int k a)) K = K (.int .i64 (IntKind.i64.wrap a)) := p_conv ty3 ty5
@[simp] theorem i_cv_5_68 {k : IntKind} (a : Int) (K : Value → WP) : pur PR (convert 5 68 (.int k a)) K = K (.int .u64 (IntKind.u64.wrap a)) := p_conv ty68 ty5
@[simp] theorem i_cv_68_3 {k : IntKind} (a : Int) (K : Value → WP) : pur PR (convert 68 3 (.int k a)) K = K (.int .i64 (IntKind.i64.wrap a)) := p_conv ty3 ty68
@[simp] theorem i_cv_68_5 {k : IntKind} (a : Int) (K : Value → WP) : pur PR (convert 68 5 (.int k a)) K = K (.int .u8 (IntKind.u8.wrap a)) := p_conv ty5 ty68
theorem ty217 : TI PR 217 Tryz.t217.desc 1 8 (.pointer none) := ⟨Tryz.underlying217, Tryz.t217, by kernel_rfl, rfl, rfl, rfl⟩
@[simp] theorem i_eqln_217 (a : Option Addr) (x y : Operand) (K : Value → WP) (w : World) : rds PR (eqS .eql 217 x y (.pointer a) (.pointer none)) K w = K (.bool a.isNone) w := p_eqNil ty217
theorem ty27 : TI PR 27 Tryz.t27.desc 1 8 (.pointer none) := ⟨Tryz.underlying27, Tryz.t27, by kernel_rfl, rfl, rfl, rfl⟩
@[simp] theorem i_eqln_27 (a : Option Addr) (x y : Operand) (K : Value → WP) (w : World) : rds PR (eqS .eql 27 x y (.pointer a) (.pointer none)) K w = K (.bool a.isNone) w := p_eqNil ty27
@[simp] theorem i_eql_39 (a0 b0 : Int) (a1 b1 : Int) (a2 b2 : Bool) (a3 b3 : Int) (x y : Operand) (K : Value → WP) (w : World) : rds PR (eqS .eql 39 x y (.agg #[.int .i64 a0, .int .i64 a1, .bool a2, .int .i64 a3]) (.agg #[.int .i64 b0, .int .i64 b1, .bool b2, .int .i64 b3])) K w = K (.bool (decide (a0 = b0) && (decide (a1 = b1) && ((a2 == b2) && (decide (a3 = b3) && true))))) w := p_eqS (by kernel_rfl) (eqV_struct (e := 9999) ty39 (by kernel_rfl) (eqF_cons rfl ty28 rfl rfl rfl (eqV_int (e := 9998) ty28) (eqF_cons rfl ty3 rfl rfl rfl (eqV_int (e := 9998) ty3) (eqF_cons rfl ty4 rfl rfl rfl (eqV_bool (e := 9998) ty4) (eqF_cons rfl ty3 rfl rfl rfl (eqV_int (e := 9998) ty3) (eqF_nil))))))
@[simp] theorem i_neqn_217 (a : Option Addr) (x y : Operand) (K : Value → WP) (w : World) : rds PR (eqS .neq 217 x y (.pointer a) (.pointer none)) K w = K (.bool (!a.isNone)) w := p_neNil ty217
@[simp] theorem i_neq_71 (a0 b0 : Int) (a1 b1 : ByteArray) (a2 b2 : Int) (a3 b3 : Int) (x y : Operand) (K : Value → WP) (w : World) : rds PR (eqS .neq 71 x y (.agg #[.int .i64 a0, .string a1, .int .i64 a2, .int .i64 a3]) (.agg #[.int .i64 b0, .string b1, .int .i64 b2, .int .i64 b3])) K w = K (.bool !(decide (a0 = b0) && ((a1 == b1) && (decide (a2 = b2) && (decide (a3 = b3) && true))))) w := p_neS (by kernel_rfl) (eqV_struct (e := 9999) ty71 (by kernel_rfl) (eqF_cons rfl ty3 rfl rfl rfl (eqV_int (e := 9998) ty3) (eqF_cons rfl ty9 rfl rfl rfl (eqV_string (e := 9998) ty9) (eqF_cons rfl ty3 rfl rfl rfl (eqV_int (e := 9998) ty3) (eqF_cons rfl ty3 rfl rfl rfl (eqV_int (e := 9998) ty3) (eqF_nil))))))
theorem i_fd_39_0 {cs : Array Value} {v : Value} (h : cs[0]? = some v) (K : Value → WP) : pur PR (Instr.field 39 (.agg cs) 0) K = K v := p_field1 (i := 0) ty39 rfl ty28 rfl h
theorem i_fd_39_3 {cs : Array Value} {v : Value} (h : cs[3]? = some v) (K : Value → WP) : pur PR (Instr.field 39 (.agg cs) 3) K = K v := p_field1 (i := 3) ty39 rfl ty3 rfl h
@[simp] theorem i_fa_101_0 (b o : Nat) (K : Value → WP) : pur PR (Instr.fieldAt 101 (.pointer (some ⟨b, o, none⟩)) 0) K = K (.pointer (some ⟨b, o, none⟩)) := p_fieldAt (i := 0) ty101 rfl ⟨_, _, _, _, ty99⟩ b o
@[simp] theorem i_fa_101_1 (b o : Nat) (K : Value → WP) : pur PR (Instr.fieldAt 101 (.pointer (some ⟨b, o, none⟩)) 1) K = K (.pointer (some ⟨b, o + 6, none⟩)) := p_fieldAt (i := 1) ty101 rfl ⟨_, _, _, _, ty3⟩ b o
@[simp] theorem i_fa_103_0 (b o : Nat) (K : Value → WP) : pur PR (Instr.fieldAt 103 (.pointer (some ⟨b, o, none⟩)) 0) K = K (.pointer (some ⟨b, o, none⟩)) := p_fieldAt (i := 0) ty103 rfl ⟨_, _, _, _, ty3⟩ b o
@[simp] theorem i_fa_103_1 (b o : Nat) (K : Value → WP) : pur PR (Instr.fieldAt 103 (.pointer (some ⟨b, o, none⟩)) 1) K = K (.pointer (some ⟨b, o + 1, none⟩)) := p_fieldAt (i := 1) ty103 rfl ⟨_, _, _, _, ty3⟩ b o
@[simp] theorem i_fa_109_0 (b o : Nat) (K : Value → WP) : pur PR (Instr.fieldAt 109 (.pointer (some ⟨b, o, none⟩)) 0) K = K (.pointer (some ⟨b, o, none⟩)) := p_fieldAt (i := 0) ty109 rfl ⟨_, _, _, _, ty23⟩ b o
@[simp] theorem i_fa_109_1 (b o : Nat) (K : Value → WP) : pur PR (Instr.fieldAt 109 (.pointer (some ⟨b, o, none⟩)) 1) K = K (.pointer (some ⟨b, o + 5, none⟩)) := p_fieldAt (i := 1) ty109 rfl ⟨_, _, _, _, ty32⟩ b o
@[simp] theorem i_fa_109_2 (b o : Nat) (K : Value → WP) : pur PR (Instr.fieldAt 109 (.pointer (some ⟨b, o, none⟩)) 2) K = K (.pointer (some ⟨b, o + 6, none⟩)) := p_fieldAt (i := 2) ty109 rfl ⟨_, _, _, _, ty107⟩ b o
theorem ty111 : TI PR 111 Tryz.t110.desc 1 24 (.agg #[(.slice none 0 0)]) := ⟨Tryz.underlying111, Tryz.t111, by kernel_rfl, rfl, rfl, rfl⟩
@[simp] theorem i_fa_111_0 (b o : Nat) (K : Value → WP) : pur PR (Instr.fieldAt 111 (.pointer (some ⟨b, o, none⟩)) 0) K = K (.pointer (some ⟨b, o, none⟩)) := p_fieldAt (i := 0) ty111 rfl ⟨_, _, _, _, ty50⟩ b o
@[simp] theorem i_fa_113_0 (b o : Nat) (K : Value → WP) : pur PR (Instr.fieldAt 113 (.pointer (some ⟨b, o, none⟩)) 0) K = K (.pointer (some ⟨b, o, none⟩)) := p_fieldAt (i := 0) ty113 rfl ⟨_, _, _, _, ty111⟩ b o
@[simp] theorem i_fa_113_1 (b o : Nat) (K : Value → WP) : pur PR (Instr.fieldAt 113 (.pointer (some ⟨b, o, none⟩)) 1) K = K (.pointer (some ⟨b, o + 1, none⟩)) := p_fieldAt (i := 1) ty113 rfl ⟨_, _, _, _, ty3⟩ b o
@[simp] theorem i_fa_161_0 (b o : Nat) (K : Value → WP) : pur PR (Instr.fieldAt 161 (.pointer (some ⟨b, o, none⟩)) 0) K = K (.pointer (some ⟨b, o, none⟩)) := p_fieldAt (i := 0) ty161 rfl ⟨_, _, _, _, ty3⟩ b o
@[simp] theorem i_fa_161_1 (b o : Nat) (K : Value → WP) : pur PR (Instr.fieldAt 161 (.pointer (some ⟨b, o, none⟩)) 1) K = K (.pointer (some ⟨b, o + 1, none⟩)) := p_fieldAt (i := 1) ty161 rfl ⟨_, _, _, _, ty3⟩ b o
@[simp] theorem i_fa_161_2 (b o : Nat) (K : Value → WP) : pur PR (Instr.fieldAt 161 (.pointer (some ⟨b, o, none⟩)) 2) K = K (.pointer (some ⟨b, o + 2, none⟩)) := p_fieldAt (i := 2) ty161 rfl ⟨_, _, _, _, ty3⟩ b o
@[simp] theorem i_fa_164_0 (b o : Nat) (K : Value → WP) : pur PR (Instr.fieldAt 164 (.pointer (some ⟨b, o, none⟩)) 0) K = K (.pointer (some ⟨b, o, none⟩)) := p_fieldAt (i := 0) ty164 rfl ⟨_, _, _, _, ty9⟩ b o
@[simp] theorem i_fa_164_1 (b o : Nat) (K : Value → WP) : pur PR (Instr.fieldAt 164 (.pointer (some ⟨b, o, none⟩)) 1) K = K (.pointer (some ⟨b, o + 1, none⟩)) := p_fieldAt (i := 1) ty164 rfl ⟨_, _, _, _, ty9⟩ b o
@[simp] theorem i_fa_164_2 (b o : Nat) (K : Value → WP) : pur PR (Instr.fieldAt 164 (.pointer (some ⟨b, o, none⟩)) 2) K = K (.pointer (some ⟨b, o + 2, none⟩)) := p_fieldAt (i := 2) ty164 rfl ⟨_, _, _, _, ty3⟩ b o
@[simp] theorem i_fa_166_0 (b o : Nat) (K : Value → WP) : pur PR (Instr.fieldAt 166 (.pointer (some ⟨b, o, none⟩)) 0) K = K (.pointer (some ⟨b, o, none⟩)) := p_fieldAt (i := 0) ty166 rfl ⟨_, _, _, _, ty9⟩ b o
@[simp] theorem i_fa_166_1 (b o : Nat) (K : Value → WP) : pur PR (Instr.fieldAt 166 (.pointer (some ⟨b, o, none⟩)) 1) K = K (.pointer (some ⟨b, o + 1, none⟩)) := p_fieldAt (i := 1) ty166 rfl ⟨_, _, _, _, ty9⟩ b o
@[simp] theorem i_fa_166_2 (b o : Nat) (K : Value → WP) : pur PR (Instr.fieldAt 166 (.pointer (some ⟨b, o, none⟩)) 2) K = K (.pointer (some ⟨b, o + 2, none⟩)) := p_fieldAt (i := 2) ty166 rfl ⟨_, _, _, _, ty3⟩ b o
@[simp] theorem i_fa_193_0 (b o : Nat) (K : Value → WP) : pur PR (Instr.fieldAt 193 (.pointer (some ⟨b, o, none⟩)) 0) K = K (.pointer (some ⟨b, o, none⟩)) := p_fieldAt (i := 0) ty193 rfl ⟨_, _, _, _, ty68⟩ b o
@[simp] theorem i_fa_193_1 (b o : Nat) (K : Value → WP) : pur PR (Instr.fieldAt 193 (.pointer (some ⟨b, o, none⟩)) 1) K = K (.pointer (some ⟨b, o + 1, none⟩)) := p_fieldAt (i := 1) ty193 rfl ⟨_, _, _, _, ty3⟩ b o
@[simp] theorem i_fa_199_0 (b o : Nat) (K : Value → WP) : pur PR (Instr.fieldAt 199 (.pointer (some ⟨b, o, none⟩)) 0) K = K (.pointer (some ⟨b, o, none⟩)) := p_fieldAt (i := 0) ty199 rfl ⟨_, _, _, _, ty68⟩ b o
@[simp] theorem i_fa_199_1 (b o : Nat) (K : Value → WP) : pur PR (Instr.fieldAt 199 (.pointer (some ⟨b, o, none⟩)) 1) K = K (.pointer (some ⟨b, o + 1, none⟩)) := p_fieldAt (i := 1) ty199 rfl ⟨_, _, _, _, ty3⟩ b o
@[simp] theorem i_fa_220_0 (b o : Nat) (K : Value → WP) : pur PR (Instr.fieldAt 220 (.pointer (some ⟨b, o, none⟩)) 0) K = K (.pointer (some ⟨b, o, none⟩)) := p_fieldAt (i := 0) ty220 rfl ⟨_, _, _, _, ty217⟩ b o
@[simp] theorem i_fa_220_1 (b o : Nat) (K : Value → WP) : pur PR (Instr.fieldAt 220 (.pointer (some ⟨b, o, none⟩)) 1) K = K (.pointer (some ⟨b, o + 1, none⟩)) := p_fieldAt (i := 1) ty220 rfl ⟨_, _, _, _, ty218⟩ b o
@[simp] theorem i_fa_222_0 (b o : Nat) (K : Value → WP) : pur PR (Instr.fieldAt 222 (.pointer (some ⟨b, o, none⟩)) 0) K = K (.pointer (some ⟨b, o, none⟩)) := p_fieldAt (i := 0) ty222 rfl ⟨_, _, _, _, ty220⟩ b o
@[simp] theorem i_fa_23_0 (b o : Nat) (K : Value → WP) : pur PR (Instr.fieldAt 23 (.pointer (some ⟨b, o, none⟩)) 0) K = K (.pointer (some ⟨b, o, none⟩)) := p_fieldAt (i := 0) ty23 rfl ⟨_, _, _, _, ty3⟩ b o
@[simp] theorem i_fa_23_1 (b o : Nat) (K : Value → WP) : pur PR (Instr.fieldAt 23 (.pointer (some ⟨b, o, none⟩)) 1) K = K (.pointer (some ⟨b, o + 1, none⟩)) := p_fieldAt (i := 1) ty23 rfl ⟨_, _, _, _, ty3⟩ b o
@[simp] theorem i_fa_23_2 (b o : Nat) (K : Value → WP) : pur PR (Instr.fieldAt 23 (.pointer (some ⟨b, o, none⟩)) 2) K = K (.pointer (some ⟨b, o + 2, none⟩)) := p_fieldAt (i := 2) ty23 rfl ⟨_, _, _, _, ty3⟩ b o
@[simp] theorem i_fa_23_3 (b o : Nat) (K : Value → WP) : pur PR (Instr.fieldAt 23 (.pointer (some ⟨b, o, none⟩)) 3) K = K (.pointer (some ⟨b, o + 3, none⟩)) := p_fieldAt (i := 3) ty23 rfl ⟨_, _, _, _, ty3⟩ b o
@[simp] theorem i_fa_23_4 (b o : Nat) (K : Value → WP) : pur PR (Instr.fieldAt 23 (.pointer (some ⟨b, o, none⟩)) 4) K = K (.pointer (some ⟨b, o + 4, none⟩)) := p_fieldAt (i := 4) ty23 rfl ⟨_, _, _, _, ty3⟩ b o
theorem ty25 : TI PR 25 Tryz.t25.desc 1 8 .nilFunc := ⟨Tryz.underlying25, Tryz.t25, by kernel_rfl, rfl, rfl, rfl⟩
@[simp] theorem i_fa_300_0 (b o : Nat) (K : Value → WP) : pur PR (Instr.fieldAt 300 (.pointer (some ⟨b, o, none⟩)) 0) K = K (.pointer (some ⟨b, o, none⟩)) := p_fieldAt (i := 0) ty300 rfl ⟨_, _, _, _, ty25⟩ b o
@[simp] theorem i_fa_300_1 (b o : Nat) (K : Value → WP) : pur PR (Instr.fieldAt 300 (.pointer (some ⟨b, o, none⟩)) 1) K = K (.pointer (some ⟨b, o + 1, none⟩)) := p_fieldAt (i := 1) ty300 rfl ⟨_, _, _, _, ty28⟩ b o
@[simp] theorem i_fa_39_3 (b o : Nat) (K : Value → WP) : pur PR (Instr.fieldAt 39 (.pointer (some ⟨b, o, none⟩)) 3) K = K (.pointer (some ⟨b, o + 3, none⟩)) := p_fieldAt (i := 3) ty39 rfl ⟨_, _, _, _, ty3⟩ b o
@[simp] theorem i_fa_42_0 (b o : Nat) (K : Value → WP) : pur PR (Instr.fieldAt 42 (.pointer (some ⟨b, o, none⟩)) 0) K = K (.pointer (some ⟨b, o, none⟩)) := p_fieldAt (i := 0) ty42 rfl ⟨_, _, _, _, ty3⟩ b o
@[simp] theorem i_fa_42_1 (b o : Nat) (K : Value → WP) : pur PR (Instr.fieldAt 42 (.pointer (some ⟨b, o, none⟩)) 1) K = K (.pointer (some ⟨b, o + 1, none⟩)) := p_fieldAt (i := 1) ty42 rfl ⟨_, _, _, _, ty9⟩ b o
@[simp] theorem i_fa_42_2 (b o : Nat) (K : Value → WP) : pur PR (Instr.fieldAt 42 (.pointer (some ⟨b, o, none⟩)) 2) K = K (.pointer (some ⟨b, o + 2, none⟩)) := p_fieldAt (i := 2) ty42 rfl ⟨_, _, _, _, ty32⟩ b o
@[simp] theorem i_fa_42_3 (b o : Nat) (K : Value → WP) : pur PR (Instr.fieldAt 42 (.pointer (some ⟨b, o, none⟩)) 3) K = K (.pointer (some ⟨b, o + 3, none⟩)) := p_fieldAt (i := 3) ty42 rfl ⟨_, _, _, _, ty3⟩ b o
@[simp] theorem i_fa_71_0 (b o : Nat) (K : Value → WP) : pur PR (Instr.fieldAt 71 (.pointer (some ⟨b, o, none⟩)) 0) K = K (.pointer (some ⟨b, o, none⟩)) := p_fieldAt (i := 0) ty71 rfl ⟨_, _, _, _, ty3⟩ b o
@[simp] theorem i_fa_71_1 (b o : Nat) (K : Value → WP) : pur PR (Instr.fieldAt 71 (.pointer (some ⟨b, o, none⟩)) 1) K = K (.pointer (some ⟨b, o + 1, none⟩)) := p_fieldAt (i := 1) ty71 rfl ⟨_, _, _, _, ty9⟩ b o
@[simp] theorem i_fa_71_2 (b o : Nat) (K : Value → WP) : pur PR (Instr.fieldAt 71 (.pointer (some ⟨b, o, none⟩)) 2) K = K (.pointer (some ⟨b, o + 2, none⟩)) := p_fieldAt (i := 2) ty71 rfl ⟨_, _, _, _, ty3⟩ b o
@[simp] theorem i_fa_71_3 (b o : Nat) (K : Value → WP) : pur PR (Instr.fieldAt 71 (.pointer (some ⟨b, o, none⟩)) 3) K = K (.pointer (some ⟨b, o + 3, none⟩)) := p_fieldAt (i := 3) ty71 rfl ⟨_, _, _, _, ty3⟩ b o
theorem ty79 : TI PR 79 Tryz.t78.desc 7 88 (.agg #[(.int .i64 0), (.int .i64 0), (.int .i64 0), (.int .i64 0), (.int .i64 0), (.slice none 0 0), (.slice none 0 0)]) := ⟨Tryz.underlying79, Tryz.t79, by kernel_rfl, rfl, rfl, rfl⟩
theorem ty77 : TI PR 77 Tryz.t77.desc 1 24 (.slice none 0 0) := ⟨Tryz.underlying77, Tryz.t77, by kernel_rfl, rfl, rfl, rfl⟩
@[simp] theorem i_fa_99_0 (b o : Nat) (K : Value → WP) : pur PR (Instr.fieldAt 99 (.pointer (some ⟨b, o, none⟩)) 0) K = K (.pointer (some ⟨b, o, none⟩)) := p_fieldAt (i := 0) ty99 rfl ⟨_, _, _, _, ty3⟩ b o
@[simp] theorem i_fa_99_1 (b o : Nat) (K : Value → WP) : pur PR (Instr.fieldAt 99 (.pointer (some ⟨b, o, none⟩)) 1) K = K (.pointer (some ⟨b, o + 1, none⟩)) := p_fieldAt (i := 1) ty99 rfl ⟨_, _, _, _, ty9⟩ b o
@[simp] theorem i_fa_99_2 (b o : Nat) (K : Value → WP) : pur PR (Instr.fieldAt 99 (.pointer (some ⟨b, o, none⟩)) 2) K = K (.pointer (some ⟨b, o + 2, none⟩)) := p_fieldAt (i := 2) ty99 rfl ⟨_, _, _, _, ty9⟩ b o
@[simp] theorem i_fa_99_3 (b o : Nat) (K : Value → WP) : pur PR (Instr.fieldAt 99 (.pointer (some ⟨b, o, none⟩)) 3) K = K (.pointer (some ⟨b, o + 3, none⟩)) := p_fieldAt (i := 3) ty99 rfl ⟨_, _, _, _, ty3⟩ b o
@[simp] theorem i_fa_99_4 (b o : Nat) (K : Value → WP) : pur PR (Instr.fieldAt 99 (.pointer (some ⟨b, o, none⟩)) 4) K = K (.pointer (some ⟨b, o + 4, none⟩)) := p_fieldAt (i := 4) ty99 rfl ⟨_, _, _, _, ty3⟩ b o
@[simp] theorem i_fa_99_5 (b o : Nat) (K : Value → WP) : pur PR (Instr.fieldAt 99 (.pointer (some ⟨b, o, none⟩)) 5) K = K (.pointer (some ⟨b, o + 5, none⟩)) := p_fieldAt (i := 5) ty99 rfl ⟨_, _, _, _, ty3⟩ b o
theorem i_fin_3 (a : Addr) (K : Value → WP) (w : World) : rds PR (finS [.c 3 (.pointer (some a))]) K w = rdc (w.cell? a) K (rds PR (finS [.c 3 (.pointer (some a))]) K) w := p_fin1 ty3 rfl a
theorem i_fin_39 (b o : Nat) (K : Value → WP) (w : World) : rds PR (finS [.c 39 (.pointer (some ⟨b, o, none⟩))]) K w = rdl (rowN w b o 4) K (rds PR (finS [.c 39 (.pointer (some ⟨b, o, none⟩))]) K) w := p_finN ty39 rfl b o
theorem i_fin_99 (b o : Nat) (K : Value → WP) (w : World) : rds PR (finS [.c 99 (.pointer (some ⟨b, o, none⟩))]) K w = rdl (rowN w b o 6) K (rds PR (finS [.c 99 (.pointer (some ⟨b, o, none⟩))]) K) w := p_finN ty99 rfl b o
theorem i_is_9 {k1 : IntKind} {i : Int} {s : ByteArray} {b : UInt8} (h0 : 0 ≤ i) (h1 : s[i.toNat]? = some b) (K : Value → WP) : pur PR (Instr.index 9 (.string s) (.int k1 i)) K = K (.int .u8 b.toNat) := p_indexS ty9 h0 h1
@[simp] theorem i_ix_107 {k : IntKind} {i : Int} {len cap : Nat} (h0 : 0 ≤ i) (h1 : i < len) (b o : Nat) (K : Value → WP) : pur PR (Instr.indexAt 107 (.slice (some ⟨b, o, none⟩) len cap) (.int k i)) K = K (.pointer (some ⟨b, o + i.toNat * 2, none⟩)) := (p_indexAt (K := K) ty107 ty113 h0 h1 b o)
theorem ty116 : TI PR 116 Tryz.t116.desc 1 8 .nilFunc := ⟨Tryz.underlying116, Tryz.t116, by kernel_rfl, rfl, rfl, rfl⟩
@[simp] theorem i_ix_117 {k : IntKind} {i : Int} (h0 : 0 ≤ i) (h1 : i < (4 : Nat)) (b o : Nat) (K : Value → WP) : pur PR (Instr.indexAt 117 (.pointer (some ⟨b, o, none⟩)) (.int k i)) K = K (.pointer (some ⟨b, o + i.toNat, none⟩)) := (by simpa using p_indexAtA (K := K) ty117 ty116 h0 h1 b o)
@[simp] theorem i_ix_136 {k : IntKind} {i : Int} {len cap : Nat} (h0 : 0 ≤ i) (h1 : i < len) (b o : Nat) (K : Value → WP) : pur PR (Instr.indexAt 136 (.slice (some ⟨b, o, none⟩) len cap) (.int k i)) K = K (.pointer (some ⟨b, o + i.toNat * 4, none⟩)) := (p_indexAt (K := K) ty136 ty71 h0 h1 b o)
@[simp] theorem i_ix_140 {k : IntKind} {i : Int} (h0 : 0 ≤ i) (h1 : i < (2 : Nat)) (b o : Nat) (K : Value → WP) : pur PR (Instr.indexAt 140 (.pointer (some ⟨b, o, none⟩)) (.int k i)) K = K (.pointer (some ⟨b, o + i.toNat, none⟩)) := (by simpa using p_indexAtA (K := K) ty140 ty3 h0 h1 b o)
@[simp] theorem i_ix_146 {k : IntKind} {i : Int} {len cap : Nat} (h0 : 0 ≤ i) (h1 : i < len) (b o : Nat) (K : Value → WP) : pur PR (Instr.indexAt 146 (.slice (some ⟨b, o, none⟩) len cap) (.int k i)) K = K (.pointer (some ⟨b, o + i.toNat * 2, none⟩)) := (p_indexAt (K := K) ty146 ty199 h0 h1 b o)
@[simp] theorem i_ix_185 {k : IntKind} {i : Int} {len cap : Nat} (h0 : 0 ≤ i) (h1 : i < len) (b o : Nat) (K : Value → WP) : pur PR (Instr.indexAt 185 (.slice (some ⟨b, o, none⟩) len cap) (.int k i)) K = K (.pointer (some ⟨b, o + i.toNat * 2, none⟩)) := (p_indexAt (K := K) ty185 ty140 h0 h1 b o)
theorem ty188 : TI PR 188 Tryz.t146.desc 1 24 (.slice none 0 0) := ⟨Tryz.underlying188, Tryz.t188, by kernel_rfl, rfl, rfl, rfl⟩
@[simp] theorem i_ix_188 {k : IntKind} {i : Int} {len cap : Nat} (h0 : 0 ≤ i) (h1 : i < len) (b o : Nat) (K : Value → WP) : pur PR (Instr.indexAt 188 (.slice (some ⟨b, o, none⟩) len cap) (.int k i)) K = K (.pointer (some ⟨b, o + i.toNat * 2, none⟩)) := (p_indexAt (K := K) ty188 ty199 h0 h1 b o)
@[simp] theorem i_ix_190 {k : IntKind} {i : Int} {len cap : Nat} (h0 : 0 ≤ i) (h1 : i < len) (b o : Nat) (K : Value → WP) : pur PR (Instr.indexAt 190 (.slice (some ⟨b, o, none⟩) len cap) (.int k i)) K = K (.pointer (some ⟨b, o + i.toNat * 2, none⟩)) := (p_indexAt (K := K) ty190 ty193 h0 h1 b o)
@[simp] theorem i_ix_218 {k : IntKind} {i : Int} {len cap : Nat} (h0 : 0 ≤ i) (h1 : i < len) (b o : Nat) (K : Value → WP) : pur PR (Instr.indexAt 218 (.slice (some ⟨b, o, none⟩) len cap) (.int k i)) K = K (.pointer (some ⟨b, o + i.toNat, none⟩)) := (by simpa using p_indexAt (K := K) ty218 ty5 h0 h1 b o)
@[simp] theorem i_ix_314 {k : IntKind} {i : Int} {len cap : Nat} (h0 : 0 ≤ i) (h1 : i < len) (b o : Nat) (K : Value → WP) : pur PR (Instr.indexAt 314 (.slice (some ⟨b, o, none⟩) len cap) (.int k i)) K = K (.pointer (some ⟨b, o + i.toNat * 2, none⟩)) := (p_indexAt (K := K) ty314 ty300 h0 h1 b o)
@[simp] theorem i_ix_32 {k : IntKind} {i : Int} {len cap : Nat} (h0 : 0 ≤ i) (h1 : i < len) (b o : Nat) (K : Value → WP) : pur PR (Instr.indexAt 32 (.slice (some ⟨b, o, none⟩) len cap) (.int k i)) K = K (.pointer (some ⟨b, o + i.toNat * 2, none⟩)) := (p_indexAt (K := K) ty32 ty103 h0 h1 b o)
@[simp] theorem i_ix_34 {k : IntKind} {i : Int} {len cap : Nat} (h0 : 0 ≤ i) (h1 : i < len) (b o : Nat) (K : Value → WP) : pur PR (Instr.indexAt 34 (.slice (some ⟨b, o, none⟩) len cap) (.int k i)) K = K (.pointer (some ⟨b, o + i.toNat, none⟩)) := (by simpa using p_indexAt (K := K) ty34 ty3 h0 h1 b o)
@[simp] theorem i_ix_50 {k : IntKind} {i : Int} {len cap : Nat} (h0 : 0 ≤ i) (h1 : i < len) (b o : Nat) (K : Value → WP) : pur PR (Instr.indexAt 50 (.slice (some ⟨b, o, none⟩) len cap) (.int k i)) K = K (.pointer (some ⟨b, o + i.toNat * 4, none⟩)) := (p_indexAt (K := K) ty50 ty71 h0 h1 b o)
@[simp] theorem i_ix_57 {k : IntKind} {i : Int} {len cap : Nat} (h0 : 0 ≤ i) (h1 : i < len) (b o : Nat) (K : Value → WP) : pur PR (Instr.indexAt 57 (.slice (some ⟨b, o, none⟩) len cap) (.int k i)) K = K (.pointer (some ⟨b, o + i.toNat, none⟩)) := (by simpa using p_indexAt (K := K) ty57 ty9 h0 h1 b o)
theorem ty80 : TI PR 80 Tryz.t80.desc 1 24 (.slice none 0 0) := ⟨Tryz.underlying80, Tryz.t80, by kernel_rfl, rfl, rfl, rfl⟩
@[simp] theorem i_len_107 (a : Option Addr) (n c : Nat) (K : Value → WP) : pur PR (builtinS .len #[107] 0 [.slice a n c]) K = K (.int .i64 n) := p_len ty107 a n c
@[simp] theorem i_len_136 (a : Option Addr) (n c : Nat) (K : Value → WP) : pur PR (builtinS .len #[136] 0 [.slice a n c]) K = K (.int .i64 n) := p_len ty136 a n c
@[simp] theorem i_len_146 (a : Option Addr) (n c : Nat) (K : Value → WP) : pur PR (builtinS .len #[146] 0 [.slice a n c]) K = K (.int .i64 n) := p_len ty146 a n c
@[simp] theorem i_len_185 (a : Option Addr) (n c : Nat) (K : Value → WP) : pur PR (builtinS .len #[185] 0 [.slice a n c]) K = K (.int .i64 n) := p_len ty185 a n c
@[simp] theorem i_len_188 (a : Option Addr) (n c : Nat) (K : Value → WP) : pur PR (builtinS .len #[188] 0 [.slice a n c]) K = K (.int .i64 n) := p_len ty188 a n c
@[simp] theorem i_len_190 (a : Option Addr) (n c : Nat) (K : Value → WP) : pur PR (builtinS .len #[190] 0 [.slice a n c]) K = K (.int .i64 n) := p_len ty190 a n c
@[simp] theorem i_len_218 (a : Option Addr) (n c : Nat) (K : Value → WP) : pur PR (builtinS .len #[218] 0 [.slice a n c]) K = K (.int .i64 n) := p_len ty218 a n c
@[simp] theorem i_len_314 (a : Option Addr) (n c : Nat) (K : Value → WP) : pur PR (builtinS .len #[314] 0 [.slice a n c]) K = K (.int .i64 n) := p_len ty314 a n c
@[simp] theorem i_len_32 (a : Option Addr) (n c : Nat) (K : Value → WP) : pur PR (builtinS .len #[32] 0 [.slice a n c]) K = K (.int .i64 n) := p_len ty32 a n c
@[simp] theorem i_len_34 (a : Option Addr) (n c : Nat) (K : Value → WP) : pur PR (builtinS .len #[34] 0 [.slice a n c]) K = K (.int .i64 n) := p_len ty34 a n c
@[simp] theorem i_len_50 (a : Option Addr) (n c : Nat) (K : Value → WP) : pur PR (builtinS .len #[50] 0 [.slice a n c]) K = K (.int .i64 n) := p_len ty50 a n c
@[simp] theorem i_len_57 (a : Option Addr) (n c : Nat) (K : Value → WP) : pur PR (builtinS .len #[57] 0 [.slice a n c]) K = K (.int .i64 n) := p_len ty57 a n c
@[simp] theorem i_len_9 (s : ByteArray) (K : Value → WP) : pur PR (builtinS .len #[9] 0 [.string s]) K = K (.int .i64 s.size) := p_lenS ty9 s
@[simp] theorem i_ld_101 (b o : Nat) (K : Value → WP) (w : World) : rds PR (Instr.loadAt 101 (.pointer (some ⟨b, o, none⟩))) K w = rdl (rowN w b o 7) K (far PR 101 ⟨b, o, none⟩ K) w := p_ldN ty101 rfl b o
@[simp] theorem i_run_ld_101 {w : World} {b o : Nat} {l : List Value} (hl : rowN w b o 7 = some l) : (Instr.loadAt 101 (.pointer (some ⟨b, o, none⟩))).run PR w = .ok (.agg l.toArray) w := run_loadN ty101 rfl (rowN_len hl).1 (rowN_len hl).2
@[simp] theorem i_ld_103 (b o : Nat) (K : Value → WP) (w : World) : rds PR (Instr.loadAt 103 (.pointer (some ⟨b, o, none⟩))) K w = rdl (rowN w b o 2) K (far PR 103 ⟨b, o, none⟩ K) w := p_ldN ty103 rfl b o
@[simp] theorem i_run_ld_103 {w : World} {b o : Nat} {l : List Value} (hl : rowN w b o 2 = some l) : (Instr.loadAt 103 (.pointer (some ⟨b, o, none⟩))).run PR w = .ok (.agg l.toArray) w := run_loadN ty103 rfl (rowN_len hl).1 (rowN_len hl).2
@[simp] theorem i_ld_107 (a : Addr) (K : Value → WP) (w : World) : rds PR (Instr.loadAt 107 (.pointer (some a))) K w = rdc (w.cell? a) K (far PR 107 a K) w := p_ld ty107 rfl a
@[simp] theorem i_run_ld_107 {w : World} {a : Addr} {v : Value} (hc : w.cell? a = some v) : (Instr.loadAt 107 (.pointer (some a))).run PR w = .ok v w := run_load1 ty107 rfl hc
@[simp] theorem i_ld_116 (a : Addr) (K : Value → WP) (w : World) : rds PR (Instr.loadAt 116 (.pointer (some a))) K w = rdc (w.cell? a) K (far PR 116 a K) w := p_ld ty116 rfl a
@[simp] theorem i_run_ld_116 {w : World} {a : Addr} {v : Value} (hc : w.cell? a = some v) : (Instr.loadAt 116 (.pointer (some a))).run PR w = .ok v w := run_load1 ty116 rfl hc
@[simp] theorem i_ld_136 (a : Addr) (K : Value → WP) (w : World) : rds PR (Instr.loadAt 136 (.pointer (some a))) K w = rdc (w.cell? a) K (far PR 136 a K) w := p_ld ty136 rfl a
@[simp] theorem i_run_ld_136 {w : World} {a : Addr} {v : Value} (hc : w.cell? a = some v) : (Instr.loadAt 136 (.pointer (some a))).run PR w = .ok v w := run_load1 ty136 rfl hc
@[simp] theorem i_ld_140 (b o : Nat) (K : Value → WP) (w : World) : rds PR (Instr.loadAt 140 (.pointer (some ⟨b, o, none⟩))) K w = rdl (rowN w b o 2) K (far PR 140 ⟨b, o, none⟩ K) w := p_ldN ty140 rfl b o
@[simp] theorem i_run_ld_140 {w : World} {b o : Nat} {l : List Value} (hl : rowN w b o 2 = some l) : (Instr.loadAt 140 (.pointer (some ⟨b, o, none⟩))).run PR w = .ok (.agg l.toArray) w := run_loadN ty140 rfl (rowN_len hl).1 (rowN_len hl).2
@[simp] theorem i_ld_152 (a : Addr) (K : Value → WP) (w : World) : rds PR (Instr.loadAt 152 (.pointer (some a))) K w = rdc (w.cell? a) K (far PR 152 a K) w := p_ld ty152 rfl a
@[simp] theorem i_run_ld_152 {w : World} {a : Addr} {v : Value} (hc : w.cell? a = some v) : (Instr.loadAt 152 (.pointer (some a))).run PR w = .ok v w := run_load1 ty152 rfl hc
@[simp] theorem i_ld_161 (b o : Nat) (K : Value → WP) (w : World) : rds PR (Instr.loadAt 161 (.pointer (some ⟨b, o, none⟩))) K w = rdl (rowN w b o 3) K (far PR 161 ⟨b, o, none⟩ K) w := p_ldN ty161 rfl b o
@[simp] theorem i_run_ld_161 {w : World} {b o : Nat} {l : List Value} (hl : rowN w b o 3 = some l) : (Instr.loadAt 161 (.pointer (some ⟨b, o, none⟩))).run PR w = .ok (.agg l.toArray) w := run_loadN ty161 rfl (rowN_len hl).1 (rowN_len hl).2
@[simp] theorem i_ld_164 (b o : Nat) (K : Value → WP) (w : World) : rds PR (Instr.loadAt 164 (.pointer (some ⟨b, o, none⟩))) K w = rdl (rowN w b o 3) K (far PR 164 ⟨b, o, none⟩ K) w := p_ldN ty164 rfl b o
@[simp] theorem i_run_ld_164 {w : World} {b o : Nat} {l : List Value} (hl : rowN w b o 3 = some l) : (Instr.loadAt 164 (.pointer (some ⟨b, o, none⟩))).run PR w = .ok (.agg l.toArray) w := run_loadN ty164 rfl (rowN_len hl).1 (rowN_len hl).2
@[simp] theorem i_ld_166 (b o : Nat) (K : Value → WP) (w : World) : rds PR (Instr.loadAt 166 (.pointer (some ⟨b, o, none⟩))) K w = rdl (rowN w b o 3) K (far PR 166 ⟨b, o, none⟩ K) w := p_ldN ty166 rfl b o
@[simp] theorem i_run_ld_166 {w : World} {b o : Nat} {l : List Value} (hl : rowN w b o 3 = some l) : (Instr.loadAt 166 (.pointer (some ⟨b, o, none⟩))).run PR w = .ok (.agg l.toArray) w := run_loadN ty166 rfl (rowN_len hl).1 (rowN_len hl).2
@[simp] theorem i_ld_178 (a : Addr) (K : Value → WP) (w : World) : rds PR (Instr.loadAt 178 (.pointer (some a))) K w = rdc (w.cell? a) K (far PR 178 a K) w := p_ld ty178 rfl a
@[simp] theorem i_run_ld_178 {w : World} {a : Addr} {v : Value} (hc : w.cell? a = some v) : (Instr.loadAt 178 (.pointer (some a))).run PR w = .ok v w := run_load1 ty178 rfl hc
@[simp] theorem i_ld_188 (a : Addr) (K : Value → WP) (w : World) : rds PR (Instr.loadAt 188 (.pointer (some a))) K w = rdc (w.cell? a) K (far PR 188 a K) w := p_ld ty188 rfl a
@[simp] theorem i_run_ld_188 {w : World} {a : Addr} {v : Value} (hc : w.cell? a = some v) : (Instr.loadAt 188 (.pointer (some a))).run PR w = .ok v w := run_load1 ty188 rfl hc
@[simp] theorem i_ld_190 (a : Addr) (K : Value → WP) (w : World) : rds PR (Instr.loadAt 190 (.pointer (some a))) K w = rdc (w.cell? a) K (far PR 190 a K) w := p_ld ty190 rfl a
@[simp] theorem i_run_ld_190 {w : World} {a : Addr} {v : Value} (hc : w.cell? a = some v) : (Instr.loadAt 190 (.pointer (some a))).run PR w = .ok v w := run_load1 ty190 rfl hc
@[simp] theorem i_ld_193 (b o : Nat) (K : Value → WP) (w : World) : rds PR (Instr.loadAt 193 (.pointer (some ⟨b, o, none⟩))) K w = rdl (rowN w b o 2) K (far PR 193 ⟨b, o, none⟩ K) w := p_ldN ty193 rfl b o
@[simp] theorem i_run_ld_193 {w : World} {b o : Nat} {l : List Value} (hl : rowN w b o 2 = some l) : (Instr.loadAt 193 (.pointer (some ⟨b, o, none⟩))).run PR w = .ok (.agg l.toArray) w := run_loadN ty193 rfl (rowN_len hl).1 (rowN_len hl).2
@[simp] theorem i_ld_199 (b o : Nat) (K : Value → WP) (w : World) : rds PR (Instr.loadAt 199 (.pointer (some ⟨b, o, none⟩))) K w = rdl (rowN w b o 2) K (far PR 199 ⟨b, o, none⟩ K) w := p_ldN ty199 rfl b o
@[simp] theorem i_run_ld_199 {w : World} {b o : Nat} {l : List Value} (hl : rowN w b o 2 = some l) : (Instr.loadAt 199 (.pointer (some ⟨b, o, none⟩))).run PR w = .ok (.agg l.toArray) w := run_loadN ty199 rfl (rowN_len hl).1 (rowN_len hl).2
@[simp] theorem i_ld_200 (a : Addr) (K : Value → WP) (w : World) : rds PR (Instr.loadAt 200 (.pointer (some a))) K w = rdc (w.cell? a) K (far PR 200 a K) w := p_ld ty200 rfl a
@[simp] theorem i_run_ld_200 {w : World} {a : Addr} {v : Value} (hc : w.cell? a = some v) : (Instr.loadAt 200 (.pointer (some a))).run PR w = .ok v w := run_load1 ty200 rfl hc
@[simp] theorem i_ld_202 (a : Addr) (K : Value → WP) (w : World) : rds PR (Instr.loadAt 202 (.pointer (some a))) K w = rdc (w.cell? a) K (far PR 202 a K) w := p_ld ty202 rfl a
@[simp] theorem i_run_ld_202 {w : World} {a : Addr} {v : Value} (hc : w.cell? a = some v) : (Instr.loadAt 202 (.pointer (some a))).run PR w = .ok v w := run_load1 ty202 rfl hc
@[simp] theorem i_ld_217 (a : Addr) (K : Value → WP) (w : World) : rds PR (Instr.loadAt 217 (.pointer (some a))) K w = rdc (w.cell? a) K (far PR 217 a K) w := p_ld ty217 rfl a
@[simp] theorem i_run_ld_217 {w : World} {a : Addr} {v : Value} (hc : w.cell? a = some v) : (Instr.loadAt 217 (.pointer (some a))).run PR w = .ok v w := run_load1 ty217 rfl hc
@[simp] theorem i_ld_218 (a : Addr) (K : Value → WP) (w : World) : rds PR (Instr.loadAt 218 (.pointer (some a))) K w = rdc (w.cell? a) K (far PR 218 a K) w := p_ld ty218 rfl a
@[simp] theorem i_run_ld_218 {w : World} {a : Addr} {v : Value} (hc : w.cell? a = some v) : (Instr.loadAt 218 (.pointer (some a))).run PR w = .ok v w := run_load1 ty218 rfl hc
@[simp] theorem i_ld_23 (b o : Nat) (K : Value → WP) (w : World) : rds PR (Instr.loadAt 23 (.pointer (some ⟨b, o, none⟩))) K w = rdl (rowN w b o 5) K (far PR 23 ⟨b, o, none⟩ K) w := p_ldN ty23 rfl b o
@[simp] theorem i_run_ld_23 {w : World} {b o : Nat} {l : List Value} (hl : rowN w b o 5 = some l) : (Instr.loadAt 23 (.pointer (some ⟨b, o, none⟩))).run PR w = .ok (.agg l.toArray) w := run_loadN ty23 rfl (rowN_len hl).1 (rowN_len hl).2
@[simp] theorem i_ld_25 (a : Addr) (K : Value → WP) (w : World) : rds PR (Instr.loadAt 25 (.pointer (some a))) K w = rdc (w.cell? a) K (far PR 25 a K) w := p_ld ty25 rfl a
@[simp] theorem i_run_ld_25 {w : World} {a : Addr} {v : Value} (hc : w.cell? a = some v) : (Instr.loadAt 25 (.pointer (some a))).run PR w = .ok v w := run_load1 ty25 rfl hc
@[simp] theorem i_ld_28 (a : Addr) (K : Value → WP) (w : World) : rds PR (Instr.loadAt 28 (.pointer (some a))) K w = rdc (w.cell? a) K (far PR 28 a K) w := p_ld ty28 rfl a
@[simp] theorem i_run_ld_28 {w : World} {a : Addr} {v : Value} (hc : w.cell? a = some v) : (Instr.loadAt 28 (.pointer (some a))).run PR w = .ok v w := run_load1 ty28 rfl hc
@[simp] theorem i_ld_3 (a : Addr) (K : Value → WP) (w : World) : rds PR (Instr.loadAt 3 (.pointer (some a))) K w = rdc (w.cell? a) K (far PR 3 a K) w := p_ld ty3 rfl a
@[simp] theorem i_run_ld_3 {w : World} {a : Addr} {v : Value} (hc : w.cell? a = some v) : (Instr.loadAt 3 (.pointer (some a))).run PR w = .ok v w := run_load1 ty3 rfl hc
@[simp] theorem i_ld_300 (b o : Nat) (K : Value → WP) (w : World) : rds PR (Instr.loadAt 300 (.pointer (some ⟨b, o, none⟩))) K w = rdl (rowN w b o 2) K (far PR 300 ⟨b, o, none⟩ K) w := p_ldN ty300 rfl b o
@[simp] theorem i_run_ld_300 {w : World} {b o : Nat} {l : List Value} (hl : rowN w b o 2 = some l) : (Instr.loadAt 300 (.pointer (some ⟨b, o, none⟩))).run PR w = .ok (.agg l.toArray) w := run_loadN ty300 rfl (rowN_len hl).1 (rowN_len hl).2
@[simp] theorem i_ld_32 (a : Addr) (K : Value → WP) (w : World) : rds PR (Instr.loadAt 32 (.pointer (some a))) K w = rdc (w.cell? a) K (far PR 32 a K) w := p_ld ty32 rfl a
@[simp] theorem i_run_ld_32 {w : World} {a : Addr} {v : Value} (hc : w.cell? a = some v) : (Instr.loadAt 32 (.pointer (some a))).run PR w = .ok v w := run_load1 ty32 rfl hc
@[simp] theorem i_ld_39 (b o : Nat) (K : Value → WP) (w : World) : rds PR (Instr.loadAt 39 (.pointer (some ⟨b, o, none⟩))) K w = rdl (rowN w b o 4) K (far PR 39 ⟨b, o, none⟩ K) w := p_ldN ty39 rfl b o
@[simp] theorem i_run_ld_39 {w : World} {b o : Nat} {l : List Value} (hl : rowN w b o 4 = some l) : (Instr.loadAt 39 (.pointer (some ⟨b, o, none⟩))).run PR w = .ok (.agg l.toArray) w := run_loadN ty39 rfl (rowN_len hl).1 (rowN_len hl).2
@[simp] theorem i_ld_42 (b o : Nat) (K : Value → WP) (w : World) : rds PR (Instr.loadAt 42 (.pointer (some ⟨b, o, none⟩))) K w = rdl (rowN w b o 4) K (far PR 42 ⟨b, o, none⟩ K) w := p_ldN ty42 rfl b o
@[simp] theorem i_run_ld_42 {w : World} {b o : Nat} {l : List Value} (hl : rowN w b o 4 = some l) : (Instr.loadAt 42 (.pointer (some ⟨b, o, none⟩))).run PR w = .ok (.agg l.toArray) w := run_loadN ty42 rfl (rowN_len hl).1 (rowN_len hl).2
@[simp] theorem i_ld_50 (a : Addr) (K : Value → WP) (w : World) : rds PR (Instr.loadAt 50 (.pointer (some a))) K w = rdc (w.cell? a) K (far PR 50 a K) w := p_ld ty50 rfl a
@[simp] theorem i_run_ld_50 {w : World} {a : Addr} {v : Value} (hc : w.cell? a = some v) : (Instr.loadAt 50 (.pointer (some a))).run PR w = .ok v w := run_load1 ty50 rfl hc
@[simp] theorem i_ld_68 (a : Addr) (K : Value → WP) (w : World) : rds PR (Instr.loadAt 68 (.pointer (some a))) K w = rdc (w.cell? a) K (far PR 68 a K) w := p_ld ty68 rfl a
@[simp] theorem i_run_ld_68 {w : World} {a : Addr} {v : Value} (hc : w.cell? a = some v) : (Instr.loadAt 68 (.pointer (some a))).run PR w = .ok v w := run_load1 ty68 rfl hc
@[simp] theorem i_ld_71 (b o : Nat) (K : Value → WP) (w : World) : rds PR (Instr.loadAt 71 (.pointer (some ⟨b, o, none⟩))) K w = rdl (rowN w b o 4) K (far PR 71 ⟨b, o, none⟩ K) w := p_ldN ty71 rfl b o
@[simp] theorem i_run_ld_71 {w : World} {b o : Nat} {l : List Value} (hl : rowN w b o 4 = some l) : (Instr.loadAt 71 (.pointer (some ⟨b, o, none⟩))).run PR w = .ok (.agg l.toArray) w := run_loadN ty71 rfl (rowN_len hl).1 (rowN_len hl).2
@[simp] theorem i_ld_9 (a : Addr) (K : Value → WP) (w : World) : rds PR (Instr.loadAt 9 (.pointer (some a))) K w = rdc (w.cell? a) K (far PR 9 a K) w := p_ld ty9 rfl a
@[simp] theorem i_run_ld_9 {w : World} {a : Addr} {v : Value} (hc : w.cell? a = some v) : (Instr.loadAt 9 (.pointer (some a))).run PR w = .ok v w := run_load1 ty9 rfl hc
@[simp] theorem i_ld_99 (b o : Nat) (K : Value → WP) (w : World) : rds PR (Instr.loadAt 99 (.pointer (some ⟨b, o, none⟩))) K w = rdl (rowN w b o 6) K (far PR 99 ⟨b, o, none⟩ K) w := p_ldN ty99 rfl b o
@[simp] theorem i_run_ld_99 {w : World} {b o : Nat} {l : List Value} (hl : rowN w b o 6 = some l) : (Instr.loadAt 99 (.pointer (some ⟨b, o, none⟩))).run PR w = .ok (.agg l.toArray) w := run_loadN ty99 rfl (rowN_len hl).1 (rowN_len hl).2
@[simp] theorem i_mi_263 (v : Value) (K : Value → WP) : pur PR (Instr.makeInterface 263 v) K = K (.iface 263 v) := p_mkIface ty263 (by intro ms h; cases h) v
@[simp] theorem i_mi_264 (v : Value) (K : Value → WP) : pur PR (Instr.makeInterface 264 v) K = K (.iface 264 v) := p_mkIface ty264 (by intro ms h; cases h) v
theorem ms_107 {X : Nat → Prop} {K : Value → WP} {w : World} {k1 k2 : IntKind} {l c : Int} (h0 : 0 ≤ l) (h1 : l ≤ c) (hb : c * 32 ≤ 140737488355328) (hc : c ≤ 9223372036854775807) : lou PR X (Instr.makeSlice 107 (.int k1 l) (.int k2 c)) K w = K (.slice (some ⟨sz w, 0, none⟩) l.toNat c.toNat) (w.alloc (.cells (Builtin.zeroCells ((.agg #[(.slice none 0 0), (.int .i64 0)]) : Value).cells c.toNat) 113)) := l_make ty107 ty113 rfl (by omega) h0 h1 hb hc
theorem ms_218 {X : Nat → Prop} {K : Value → WP} {w : World} {k1 k2 : IntKind} {l c : Int} (h0 : 0 ≤ l) (h1 : l ≤ c) (hb : c * 1 ≤ 140737488355328) (hc : c ≤ 9223372036854775807) : lou PR X (Instr.makeSlice 218 (.int k1 l) (.int k2 c)) K w = K (.slice (some ⟨sz w, 0, none⟩) l.toNat c.toNat) (w.alloc (.cells (Builtin.zeroCells ((.int .u8 0) : Value).cells c.toNat) 5)) := l_make ty218 ty5 rfl (by omega) h0 h1 hb hc
theorem ms_50 {X : Nat → Prop} {K : Value → WP} {w : World} {k1 k2 : IntKind} {l c : Int} (h0 : 0 ≤ l) (h1 : l ≤ c) (hb : c * 40 ≤ 140737488355328) (hc : c ≤ 9223372036854775807) : lou PR X (Instr.makeSlice 50 (.int k1 l) (.int k2 c)) K w = K (.slice (some ⟨sz w, 0, none⟩) l.toNat c.toNat) (w.alloc (.cells (Builtin.zeroCells ((.agg #[(.int .i64 0), (.string (ByteArray.mk #[])), (.int .i64 0), (.int .i64 0)]) : Value).cells c.toNat) 71)) := l_make ty50 ty71 rfl (by omega) h0 h1 hb hc
@[simp] theorem i_slh_146 {k1 : IntKind} {hi : Int} {len cap : Nat} (a : Option Addr) (h0 : 0 ≤ hi) (h1 : hi ≤ cap) (K : Value → WP) : pur PR (Instr.sliceAt 146 (.slice a len cap) none (some (.int k1 hi)) none) K = K (slc a 0 hi.toNat cap 2) := p_sliceH ty146 ty199 a h0 h1
@[simp] theorem i_sll_146 {k1 : IntKind} {lo : Int} {len cap : Nat} (a : Option Addr) (h0 : 0 ≤ lo) (h1 : lo ≤ len) (K : Value → WP) : pur PR (Instr.sliceAt 146 (.slice a len cap) (some (.int k1 lo)) none none) K = K (slc a lo.toNat len cap 2) := p_sliceL ty146 ty199 a h0 h1
@[simp] theorem i_slaa_237 (b o : Nat) (K : Value → WP) : pur PR (Instr.sliceAt 237 (.pointer (some ⟨b, o, none⟩)) none none none) K = K (.slice (some ⟨b, o, none⟩) 38 38) := p_sliceAA ty237 ty5 b o
@[simp] theorem i_ssh_9 {k1 : IntKind} {hi : Int} {s : ByteArray} (h0 : 0 ≤ hi) (h1 : hi ≤ s.size) (K : Value → WP) : pur PR (Instr.sliceAt 9 (.string s) none (some (.int k1 hi)) none) K = K (.string (s.extract 0 hi.toNat)) := p_sliceSH ty9 h0 h1
@[simp] theorem i_ssl_9 {k1 : IntKind} {lo : Int} {s : ByteArray} (h0 : 0 ≤ lo) (h1 : lo ≤ s.size) (K : Value → WP) : pur PR (Instr.sliceAt 9 (.string s) (some (.int k1 lo)) none none) K = K (.string (s.extract lo.toNat s.size)) := p_sliceSL ty9 h0 h1
@[simp] theorem i_ss_9 {k1 k2 : IntKind} {lo hi : Int} {s : ByteArray} (h0 : 0 ≤ lo) (h1 : lo ≤ hi) (h2 : hi ≤ s.size) (K : Value → WP) : pur PR (Instr.sliceAt 9 (.string s) (some (.int k1 lo)) (some (.int k2 hi)) none) K = K (.string (s.extract lo.toNat hi.toNat)) := p_sliceS ty9 h0 h1 h2
@[simp] theorem i_st_101 {X : Nat → Prop} {v : Value} (hv : v.cells.size = 7) (b o : Nat) (K : WP) (w : World) : sto PR X (Instr.storeAt 101 (.pointer (some ⟨b, o, none⟩)) v) K w = stc b o v.cells.toList (bl w b) K (farS PR X 101 b o v K) w := p_st ty101 v hv b o K
@[simp] theorem i_st_103 {X : Nat → Prop} {v : Value} (hv : v.cells.size = 2) (b o : Nat) (K : WP) (w : World) : sto PR X (Instr.storeAt 103 (.pointer (some ⟨b, o, none⟩)) v) K w = stc b o v.cells.toList (bl w b) K (farS PR X 103 b o v K) w := p_st ty103 v hv b o K
@[simp] theorem i_st_117 {X : Nat → Prop} {v : Value} (hv : v.cells.size = 4) (b o : Nat) (K : WP) (w : World) : sto PR X (Instr.storeAt 117 (.pointer (some ⟨b, o, none⟩)) v) K w = stc b o v.cells.toList (bl w b) K (farS PR X 117 b o v K) w := p_st ty117 v hv b o K
@[simp] theorem i_st_136 {X : Nat → Prop} {v : Value} (hv : v.cells.size = 1) (b o : Nat) (K : WP) (w : World) : sto PR X (Instr.storeAt 136 (.pointer (some ⟨b, o, none⟩)) v) K w = stc b o v.cells.toList (bl w b) K (farS PR X 136 b o v K) w := p_st ty136 v hv b o K
@[simp] theorem i_st_152 {X : Nat → Prop} {v : Value} (hv : v.cells.size = 1) (b o : Nat) (K : WP) (w : World) : sto PR X (Instr.storeAt 152 (.pointer (some ⟨b, o, none⟩)) v) K w = stc b o v.cells.toList (bl w b) K (farS PR X 152 b o v K) w := p_st ty152 v hv b o K
@[simp] theorem i_st_161 {X : Nat → Prop} {v : Value} (hv : v.cells.size = 3) (b o : Nat) (K : WP) (w : World) : sto PR X (Instr.storeAt 161 (.pointer (some ⟨b, o, none⟩)) v) K w = stc b o v.cells.toList (bl w b) K (farS PR X 161 b o v K) w := p_st ty161 v hv b o K
@[simp] theorem i_st_164 {X : Nat → Prop} {v : Value} (hv : v.cells.size = 3) (b o : Nat) (K : WP) (w : World) : sto PR X (Instr.storeAt 164 (.pointer (some ⟨b, o, none⟩)) v) K w = stc b o v.cells.toList (bl w b) K (farS PR X 164 b o v K) w := p_st ty164 v hv b o K
@[simp] theorem i_st_166 {X : Nat → Prop} {v : Value} (hv : v.cells.size = 3) (b o : Nat) (K : WP) (w : World) : sto PR X (Instr.storeAt 166 (.pointer (some ⟨b, o, none⟩)) v) K w = stc b o v.cells.toList (bl w b) K (farS PR X 166 b o v K) w := p_st ty166 v hv b o K
@[simp] theorem i_st_178 {X : Nat → Prop} {v : Value} (hv : v.cells.size = 1) (b o : Nat) (K : WP) (w : World) : sto PR X (Instr.storeAt 178 (.pointer (some ⟨b, o, none⟩)) v) K w = stc b o v.cells.toList (bl w b) K (farS PR X 178 b o v K) w := p_st ty178 v hv b o K
@[simp] theorem i_st_190 {X : Nat → Prop} {v : Value} (hv : v.cells.size = 1) (b o : Nat) (K : WP) (w : World) : sto PR X (Instr.storeAt 190 (.pointer (some ⟨b, o, none⟩)) v) K w = stc b o v.cells.toList (bl w b) K (farS PR X 190 b o v K) w := p_st ty190 v hv b o K
@[simp] theorem i_st_193 {X : Nat → Prop} {v : Value} (hv : v.cells.size = 2) (b o : Nat) (K : WP) (w : World) : sto PR X (Instr.storeAt 193 (.pointer (some ⟨b, o, none⟩)) v) K w = stc b o v.cells.toList (bl w b) K (farS PR X 193 b o v K) w := p_st ty193 v hv b o K
@[simp] theorem i_st_200 {X : Nat → Prop} {v : Value} (hv : v.cells.size = 1) (b o : Nat) (K : WP) (w : World) : sto PR X (Instr.storeAt 200 (.pointer (some ⟨b, o, none⟩)) v) K w = stc b o v.cells.toList (bl w b) K (farS PR X 200 b o v K) w := p_st ty200 v hv b o K
@[simp] theorem i_st_202 {X : Nat → Prop} {v : Value} (hv : v.cells.size = 1) (b o : Nat) (K : WP) (w : World) : sto PR X (Instr.storeAt 202 (.pointer (some ⟨b, o, none⟩)) v) K w = stc b o v.cells.toList (bl w b) K (farS PR X 202 b o v K) w := p_st ty202 v hv b o K
@[simp] theorem i_st_217 {X : Nat → Prop} {v : Value} (hv : v.cells.size = 1) (b o : Nat) (K : WP) (w : World) : sto PR X (Instr.storeAt 217 (.pointer (some ⟨b, o, none⟩)) v) K w = stc b o v.cells.toList (bl w b) K (farS PR X 217 b o v K) w := p_st ty217 v hv b o K
@[simp] theorem i_st_218 {X : Nat → Prop} {v : Value} (hv : v.cells.size = 1) (b o : Nat) (K : WP) (w : World) : sto PR X (Instr.storeAt 218 (.pointer (some ⟨b, o, none⟩)) v) K w = stc b o v.cells.toList (bl w b) K (farS PR X 218 b o v K) w := p_st ty218 v hv b o K
@[simp] theorem i_st_23 {X : Nat → Prop} {v : Value} (hv : v.cells.size = 5) (b o : Nat) (K : WP) (w : World) : sto PR X (Instr.storeAt 23 (.pointer (some ⟨b, o, none⟩)) v) K w = stc b o v.cells.toList (bl w b) K (farS PR X 23 b o v K) w := p_st ty23 v hv b o K
@[simp] theorem i_st_28 {X : Nat → Prop} {v : Value} (hv : v.cells.size = 1) (b o : Nat) (K : WP) (w : World) : sto PR X (Instr.storeAt 28 (.pointer (some ⟨b, o, none⟩)) v) K w = stc b o v.cells.toList (bl w b) K (farS PR X 28 b o v K) w := p_st ty28 v hv b o K
@[simp] theorem i_st_3 {X : Nat → Prop} {v : Value} (hv : v.cells.size = 1) (b o : Nat) (K : WP) (w : World) : sto PR X (Instr.storeAt 3 (.pointer (some ⟨b, o, none⟩)) v) K w = stc b o v.cells.toList (bl w b) K (farS PR X 3 b o v K) w := p_st ty3 v hv b o K
@[simp] theorem i_st_300 {X : Nat → Prop} {v : Value} (hv : v.cells.size = 2) (b o : Nat) (K : WP) (w : World) : sto PR X (Instr.storeAt 300 (.pointer (some ⟨b, o, none⟩)) v) K w = stc b o v.cells.toList (bl w b) K (farS PR X 300 b o v K) w := p_st ty300 v hv b o K
@[simp] theorem i_st_32 {X : Nat → Prop} {v : Value} (hv : v.cells.size = 1) (b o : Nat) (K : WP) (w : World) : sto PR X (Instr.storeAt 32 (.pointer (some ⟨b, o, none⟩)) v) K w = stc b o v.cells.toList (bl w b) K (farS PR X 32 b o v K) w := p_st ty32 v hv b o K
@[simp] theorem i_st_39 {X : Nat → Prop} {v : Value} (hv : v.cells.size = 4) (b o : Nat) (K : WP) (w : World) : sto PR X (Instr.storeAt 39 (.pointer (some ⟨b, o, none⟩)) v) K w = stc b o v.cells.toList (bl w b) K (farS PR X 39 b o v K) w := p_st ty39 v hv b o K
@[simp] theorem i_st_5 {X : Nat → Prop} {v : Value} (hv : v.cells.size = 1) (b o : Nat) (K : WP) (w : World) : sto PR X (Instr.storeAt 5 (.pointer (some ⟨b, o, none⟩)) v) K w = stc b o v.cells.toList (bl w b) K (farS PR X 5 b o v K) w := p_st ty5 v hv b o K
@[simp] theorem i_st_50 {X : Nat → Prop} {v : Value} (hv : v.cells.size = 1) (b o : Nat) (K : WP) (w : World) : sto PR X (Instr.storeAt 50 (.pointer (some ⟨b, o, none⟩)) v) K w = stc b o v.cells.toList (bl w b) K (farS PR X 50 b o v K) w := p_st ty50 v hv b o K
@[simp] theorem i_st_68 {X : Nat → Prop} {v : Value} (hv : v.cells.size = 1) (b o : Nat) (K : WP) (w : World) : sto PR X (Instr.storeAt 68 (.pointer (some ⟨b, o, none⟩)) v) K w = stc b o v.cells.toList (bl w b) K (farS PR X 68 b o v K) w := p_st ty68 v hv b o K
@[simp] theorem i_st_71 {X : Nat → Prop} {v : Value} (hv : v.cells.size = 4) (b o : Nat) (K : WP) (w : World) : sto PR X (Instr.storeAt 71 (.pointer (some ⟨b, o, none⟩)) v) K w = stc b o v.cells.toList (bl w b) K (farS PR X 71 b o v K) w := p_st ty71 v hv b o K
@[simp] theorem i_st_9 {X : Nat → Prop} {v : Value} (hv : v.cells.size = 1) (b o : Nat) (K : WP) (w : World) : sto PR X (Instr.storeAt 9 (.pointer (some ⟨b, o, none⟩)) v) K w = stc b o v.cells.toList (bl w b) K (farS PR X 9 b o v K) w := p_st ty9 v hv b o K
@[simp] theorem i_st_99 {X : Nat → Prop} {v : Value} (hv : v.cells.size = 6) (b o : Nat) (K : WP) (w : World) : sto PR X (Instr.storeAt 99 (.pointer (some ⟨b, o, none⟩)) v) K w = stc b o v.cells.toList (bl w b) K (farS PR X 99 b o v K) w := p_st ty99 v hv b o K
theorem ty1 : TI PR 1 Tryz.t1.desc 1 8 .nilFunc := ⟨Tryz.underlying1, Tryz.t1, by kernel_rfl, rfl, rfl, rfl⟩
theorem ty2 : TI PR 2 Tryz.t2.desc 1 8 (.int .i64 0) := ⟨Tryz.underlying2, Tryz.t2, by kernel_rfl, rfl, rfl, rfl⟩
theorem ty6 : TI PR 6 Tryz.t5.desc 1 1 (.int .u8 0) := ⟨Tryz.underlying6, Tryz.t6, by kernel_rfl, rfl, rfl, rfl⟩
theorem ty7 : TI PR 7 Tryz.t7.desc 4 24 (.agg #[(.int .i64 0), (.int .i64 0), (.bool false), (.int .u8 0)]) := ⟨Tryz.underlying7, Tryz.t7, by kernel_rfl, rfl, rfl, rfl⟩
theorem ty8 : TI PR 8 Tryz.t7.desc 4 24 (.agg #[(.int .i64 0), (.int .i64 0), (.bool false), (.int .u8 0)]) := ⟨Tryz.underlying8, Tryz.t8, by kernel_rfl, rfl, rfl, rfl⟩
theorem ty10 : TI PR 10 Tryz.t9.desc 1 16 (.string (ByteArray.mk #[])) := ⟨Tryz.underlying10, Tryz.t10, by kernel_rfl, rfl, rfl, rfl⟩
theorem ty11 : TI PR 11 Tryz.t9.desc 1 16 (.string (ByteArray.mk #[])) := ⟨Tryz.underlying11, Tryz.t11, by kernel_rfl, rfl, rfl, rfl⟩
theorem ty12 : TI PR 12 Tryz.t12.desc 1 8 (.int .u64 0) := ⟨Tryz.underlying12, Tryz.t12, by kernel_rfl, rfl, rfl, rfl⟩
theorem ty13 : TI PR 13 Tryz.t13.desc 2 24 (.agg #[(.string (ByteArray.mk #[])), (.int .u64 0)]) := ⟨Tryz.underlying13, Tryz.t13, by kernel_rfl, rfl, rfl, rfl⟩
theorem ty14 : TI PR 14 Tryz.t13.desc 2 24 (.agg #[(.string (ByteArray.mk #[])), (.int .u64 0)]) := ⟨Tryz.underlying14, Tryz.t14, by kernel_rfl, rfl, rfl, rfl⟩
theorem ty15 : TI PR 15 Tryz.t15.desc 1 8 (.pointer none) := ⟨Tryz.underlying15, Tryz.t15, by kernel_rfl, rfl, rfl, rfl⟩
theorem ty16 : TI PR 16 Tryz.t16.desc 1 8 (.pointer none) := ⟨Tryz.underlying16, Tryz.t16, by kernel_rfl, rfl, rfl, rfl⟩
theorem ty17 : TI PR 17 Tryz.t17.desc 1 8 (.pointer none) := ⟨Tryz.underlying17, Tryz.t17, by kernel_rfl, rfl, rfl, rfl⟩
theorem ty18 : TI PR 18 Tryz.t18.desc 1 8 (.agg #[(.pointer none)]) := ⟨Tryz.underlying18, Tryz.t18, by kernel_rfl, rfl, rfl, rfl⟩
theorem ty19 : TI PR 19 Tryz.t18.desc 1 8 (.agg #[(.pointer none)]) := ⟨Tryz.underlying19, Tryz.t19, by kernel_rfl, rfl, rfl, rfl⟩
theorem ty20 : TI PR 20 Tryz.t20.desc 1 16 .nilIface := ⟨Tryz.underlying20, Tryz.t20, by kernel_rfl, rfl, rfl, rfl⟩
theorem ty21 : TI PR 21 Tryz.t21.desc 1 4 (.int .i32 0) := ⟨Tryz.underlying21, Tryz.t21, by kernel_rfl, rfl, rfl, rfl⟩
theorem ty22 : TI PR 22 Tryz.t22.desc 5 40 (.agg #[(.int .i64 0), (.int .i64 0), (.int .i64 0), (.int .i64 0), (.int .i64 0)]) := ⟨Tryz.underlying22, Tryz.t22, by kernel_rfl, rfl, rfl, rfl⟩
theorem ty26 : TI PR 26 Tryz.t26.desc 1 8 .nilFunc := ⟨Tryz.underlying26, Tryz.t26, by kernel_rfl, rfl, rfl, rfl⟩
theorem ty30 : TI PR 30 Tryz.t30.desc 1 8 .nilFunc := ⟨Tryz.underlying30, Tryz.t30, by kernel_rfl, rfl, rfl, rfl⟩
theorem ty31 : TI PR 31 Tryz.t31.desc 1 8 .nilFunc := ⟨Tryz.underlying31, Tryz.t31, by kernel_rfl, rfl, rfl, rfl⟩
theorem ty35 : TI PR 35 Tryz.t35.desc 8 112 (.agg #[(.int .i64 0), (.int .i64 0), (.int .i64 0), (.int .i64 0), (.int .i64 0), (.slice none 0 0), (.slice none 0 0), (.slice none 0 0)]) := ⟨Tryz.underlying35, Tryz.t35, by kernel_rfl, rfl, rfl, rfl⟩
theorem ty37 : TI PR 37 Tryz.t37.desc 1 8 .nilFunc := ⟨Tryz.underlying37, Tryz.t37, by kernel_rfl, rfl, rfl, rfl⟩
theorem ty38 : TI PR 38 Tryz.t38.desc 4 32 (.agg #[(.int .i64 0), (.int .i64 0), (.bool false), (.int .i64 0)]) := ⟨Tryz.underlying38, Tryz.t38, by kernel_rfl, rfl, rfl, rfl⟩
theorem ty40 : TI PR 40 Tryz.t40.desc 1 8 .nilFunc := ⟨Tryz.underlying40, Tryz.t40, by kernel_rfl, rfl, rfl, rfl⟩
theorem ty41 : TI PR 41 Tryz.t41.desc 4 56 (.agg #[(.int .i64 0), (.string (ByteArray.mk #[])), (.slice none 0 0), (.int .i64 0)]) := ⟨Tryz.underlying41, Tryz.t41, by kernel_rfl, rfl, rfl, rfl⟩
theorem ty43 : TI PR 43 Tryz.t43.desc 5 64 (.agg #[(.int .i64 0), (.string (ByteArray.mk #[])), (.slice none 0 0), (.int .i64 0), (.int .i64 0)]) := ⟨Tryz.underlying43, Tryz.t43, by kernel_rfl, rfl, rfl, rfl⟩
theorem ty46 : TI PR 46 Tryz.t46.desc 1 8 .nilFunc := ⟨Tryz.underlying46, Tryz.t46, by kernel_rfl, rfl, rfl, rfl⟩
theorem ty47 : TI PR 47 Tryz.t47.desc 1 8 .nilFunc := ⟨Tryz.underlying47, Tryz.t47, by kernel_rfl, rfl, rfl, rfl⟩
theorem ty48 : TI PR 48 Tryz.t48.desc 1 8 .nilFunc := ⟨Tryz.underlying48, Tryz.t48, by kernel_rfl, rfl, rfl, rfl⟩
theorem ty49 : TI PR 49 Tryz.t49.desc 1 8 .nilFunc := ⟨Tryz.underlying49, Tryz.t49, by kernel_rfl, rfl, rfl, rfl⟩
theorem ty51 : TI PR 51 Tryz.t51.desc 1 8 .nilFunc := ⟨Tryz.underlying51, Tryz.t51, by kernel_rfl, rfl, rfl, rfl⟩
theorem ty52 : TI PR 52 Tryz.t52.desc 1 8 .nilFunc := ⟨Tryz.underlying52, Tryz.t52, by kernel_rfl, rfl, rfl, rfl⟩
theorem ty54 : TI PR 54 Tryz.t54.desc 1 8 .nilFunc := ⟨Tryz.underlying54, Tryz.t54, by kernel_rfl, rfl, rfl, rfl⟩
theorem ty55 : TI PR 55 Tryz.t55.desc 1 8 .nilFunc := ⟨Tryz.underlying55, Tryz.t55, by kernel_rfl, rfl, rfl, rfl⟩
theorem ty56 : TI PR 56 Tryz.t56.desc 1 8 .nilFunc := ⟨Tryz.underlying56, Tryz.t56, by kernel_rfl, rfl, rfl, rfl⟩
theorem ty58 : TI PR 58 Tryz.t58.desc 1 8 .nilFunc := ⟨Tryz.underlying58, Tryz.t58, by kernel_rfl, rfl, rfl, rfl⟩
theorem ty59 : TI PR 59 Tryz.t59.desc 1 8 .nilFunc := ⟨Tryz.underlying59, Tryz.t59, by kernel_rfl, rfl, rfl, rfl⟩
theorem ty61 : TI PR 61 Tryz.t61.desc 1 8 .nilFunc := ⟨Tryz.underlying61, Tryz.t61, by kernel_rfl, rfl, rfl, rfl⟩
theorem ty62 : TI PR 62 Tryz.t62.desc 1 8 .nilFunc := ⟨Tryz.underlying62, Tryz.t62, by kernel_rfl, rfl, rfl, rfl⟩
theorem ty63 : TI PR 63 Tryz.t63.desc 1 8 .nilFunc := ⟨Tryz.underlying63, Tryz.t63, by kernel_rfl, rfl, rfl, rfl⟩
theorem ty64 : TI PR 64 Tryz.t64.desc 1 8 .nilFunc := ⟨Tryz.underlying64, Tryz.t64, by kernel_rfl, rfl, rfl, rfl⟩
theorem ty65 : TI PR 65 Tryz.t65.desc 1 8 .nilFunc := ⟨Tryz.underlying65, Tryz.t65, by kernel_rfl, rfl, rfl, rfl⟩
theorem ty66 : TI PR 66 Tryz.t66.desc 1 8 .nilFunc := ⟨Tryz.underlying66, Tryz.t66, by kernel_rfl, rfl, rfl, rfl⟩
theorem ty67 : TI PR 67 Tryz.t67.desc 1 8 .nilFunc := ⟨Tryz.underlying67, Tryz.t67, by kernel_rfl, rfl, rfl, rfl⟩
theorem ty69 : TI PR 69 Tryz.t69.desc 1 8 .nilFunc := ⟨Tryz.underlying69, Tryz.t69, by kernel_rfl, rfl, rfl, rfl⟩
theorem ty70 : TI PR 70 Tryz.t70.desc 4 40 (.agg #[(.int .i64 0), (.string (ByteArray.mk #[])), (.int .i64 0), (.int .i64 0)]) := ⟨Tryz.underlying70, Tryz.t70, by kernel_rfl, rfl, rfl, rfl⟩
theorem ty72 : TI PR 72 Tryz.t72.desc 1 8 .nilFunc := ⟨Tryz.underlying72, Tryz.t72, by kernel_rfl, rfl, rfl, rfl⟩
theorem ty73 : TI PR 73 Tryz.t73.desc 1 8 .nilFunc := ⟨Tryz.underlying73, Tryz.t73, by kernel_rfl, rfl, rfl, rfl⟩
theorem ty74 : TI PR 74 Tryz.t74.desc 1 8 .nilFunc := ⟨Tryz.underlying74, Tryz.t74, by kernel_rfl, rfl, rfl, rfl⟩
theorem ty75 : TI PR 75 Tryz.t75.desc 1 8 .nilFunc := ⟨Tryz.underlying75, Tryz.t75, by kernel_rfl, rfl, rfl, rfl⟩
theorem ty78 : TI PR 78 Tryz.t78.desc 7 88 (.agg #[(.int .i64 0), (.int .i64 0), (.int .i64 0), (.int .i64 0), (.int .i64 0), (.slice none 0 0), (.slice none 0 0)]) := ⟨Tryz.underlying78, Tryz.t78, by kernel_rfl, rfl, rfl, rfl⟩
theorem ty81 : TI PR 81 Tryz.t81.desc 1 8 .nilFunc := ⟨Tryz.underlying81, Tryz.t81, by kernel_rfl, rfl, rfl, rfl⟩
theorem ty82 : TI PR 82 Tryz.t82.desc 1 8 .nilFunc := ⟨Tryz.underlying82, Tryz.t82, by kernel_rfl, rfl, rfl, rfl⟩
theorem ty84 : TI PR 84 Tryz.t84.desc 1 8 .nilFunc := ⟨Tryz.underlying84, Tryz.t84, by kernel_rfl, rfl, rfl, rfl⟩
theorem ty85 : TI PR 85 Tryz.t85.desc 1 8 .nilFunc := ⟨Tryz.underlying85, Tryz.t85, by kernel_rfl, rfl, rfl, rfl⟩
theorem ty86 : TI PR 86 Tryz.t86.desc 1 8 .nilFunc := ⟨Tryz.underlying86, Tryz.t86, by kernel_rfl, rfl, rfl, rfl⟩
theorem ty87 : TI PR 87 Tryz.t87.desc 1 8 .nilFunc := ⟨Tryz.underlying87, Tryz.t87, by kernel_rfl, rfl, rfl, rfl⟩
theorem ty88 : TI PR 88 Tryz.t88.desc 1 8 .nilFunc := ⟨Tryz.underlying88, Tryz.t88, by kernel_rfl, rfl, rfl, rfl⟩
theorem ty89 : TI PR 89 Tryz.t89.desc 1 8 .nilFunc := ⟨Tryz.underlying89, Tryz.t89, by kernel_rfl, rfl, rfl, rfl⟩
theorem ty90 : TI PR 90 Tryz.t90.desc 1 8 .nilFunc := ⟨Tryz.underlying90, Tryz.t90, by kernel_rfl, rfl, rfl, rfl⟩
theorem ty91 : TI PR 91 Tryz.t91.desc 1 8 .nilFunc := ⟨Tryz.underlying91, Tryz.t91, by kernel_rfl, rfl, rfl, rfl⟩
theorem ty92 : TI PR 92 Tryz.t92.desc 10 80 (.agg #[(.int .i64 0), (.int .i64 0), (.int .i64 0), (.int .i64 0), (.int .i64 0), (.int .i64 0), (.int .i64 0), (.int .i64 0), (.bool false), (.int .i64 0)]) := ⟨Tryz.underlying92, Tryz.t92, by kernel_rfl, rfl, rfl, rfl⟩
theorem ty95 : TI PR 95 Tryz.t95.desc 1 8 .nilFunc := ⟨Tryz.underlying95, Tryz.t95, by kernel_rfl, rfl, rfl, rfl⟩
theorem ty97 : TI PR 97 Tryz.t97.desc 1 8 .nilFunc := ⟨Tryz.underlying97, Tryz.t97, by kernel_rfl, rfl, rfl, rfl⟩
theorem ty98 : TI PR 98 Tryz.t98.desc 6 64 (.agg #[(.int .i64 0), (.string (ByteArray.mk #[])), (.string (ByteArray.mk #[])), (.int .i64 0), (.int .i64 0), (.int .i64 0)]) := ⟨Tryz.underlying98, Tryz.t98, by kernel_rfl, rfl, rfl, rfl⟩
theorem ty100 : TI PR 100 Tryz.t100.desc 7 72 (.agg #[(.int .i64 0), (.string (ByteArray.mk #[])), (.string (ByteArray.mk #[])), (.int .i64 0), (.int .i64 0), (.int .i64 0), (.int .i64 0)]) := ⟨Tryz.underlying100, Tryz.t100, by kernel_rfl, rfl, rfl, rfl⟩
theorem ty102 : TI PR 102 Tryz.t102.desc 2 16 (.agg #[(.int .i64 0), (.int .i64 0)]) := ⟨Tryz.underlying102, Tryz.t102, by kernel_rfl, rfl, rfl, rfl⟩
theorem ty105 : TI PR 105 Tryz.t105.desc 1 8 .nilFunc := ⟨Tryz.underlying105, Tryz.t105, by kernel_rfl, rfl, rfl, rfl⟩
theorem ty106 : TI PR 106 Tryz.t106.desc 1 8 .nilFunc := ⟨Tryz.underlying106, Tryz.t106, by kernel_rfl, rfl, rfl, rfl⟩
theorem ty108 : TI PR 108 Tryz.t108.desc 7 88 (.agg #[(.int .i64 0), (.int .i64 0), (.int .i64 0), (.int .i64 0), (.int .i64 0), (.slice none 0 0), (.slice none 0 0)]) := ⟨Tryz.underlying108, Tryz.t108, by kernel_rfl, rfl, rfl, rfl⟩
theorem ty110 : TI PR 110 Tryz.t110.desc 1 24 (.agg #[(.slice none 0 0)]) := ⟨Tryz.underlying110, Tryz.t110, by kernel_rfl, rfl, rfl, rfl⟩
theorem ty112 : TI PR 112 Tryz.t112.desc 2 32 (.agg #[(.slice none 0 0), (.int .i64 0)]) := ⟨Tryz.underlying112, Tryz.t112, by kernel_rfl, rfl, rfl, rfl⟩
theorem ty114 : TI PR 114 Tryz.t114.desc 1 8 .nilFunc := ⟨Tryz.underlying114, Tryz.t114, by kernel_rfl, rfl, rfl, rfl⟩
theorem ty115 : TI PR 115 Tryz.t115.desc 1 8 .nilFunc := ⟨Tryz.underlying115, Tryz.t115, by kernel_rfl, rfl, rfl, rfl⟩
theorem ty118 : TI PR 118 Tryz.t118.desc 4 40 (.agg #[(.string (ByteArray.mk #[])), (.int .i64 0), (.bool false), (.int .i64 0)]) := ⟨Tryz.underlying118, Tryz.t118, by kernel_rfl, rfl, rfl, rfl⟩
theorem ty120 : TI PR 120 Tryz.t120.desc 1 8 .nilFunc := ⟨Tryz.underlying120, Tryz.t120, by kernel_rfl, rfl, rfl, rfl⟩
theorem ty121 : TI PR 121 Tryz.t121.desc 1 8 .nilFunc := ⟨Tryz.underlying121, Tryz.t121, by kernel_rfl, rfl, rfl, rfl⟩
theorem ty123 : TI PR 123 Tryz.t123.desc 1 8 .nilFunc := ⟨Tryz.underlying123, Tryz.t123, by kernel_rfl, rfl, rfl, rfl⟩
theorem ty124 : TI PR 124 Tryz.t124.desc 1 8 .nilFunc := ⟨Tryz.underlying124, Tryz.t124, by kernel_rfl, rfl, rfl, rfl⟩
theorem ty125 : TI PR 125 Tryz.t125.desc 1 8 .nilFunc := ⟨Tryz.underlying125, Tryz.t125, by kernel_rfl, rfl, rfl, rfl⟩
theorem ty126 : TI PR 126 Tryz.t126.desc 1 8 .nilFunc := ⟨Tryz.underlying126, Tryz.t126, by kernel_rfl, rfl, rfl, rfl⟩
theorem ty128 : TI PR 128 Tryz.t128.desc 1 8 .nilFunc := ⟨Tryz.underlying128, Tryz.t128, by kernel_rfl, rfl, rfl, rfl⟩
theorem ty130 : TI PR 130 Tryz.t130.desc 1 8 .nilFunc := ⟨Tryz.underlying130, Tryz.t130, by kernel_rfl, rfl, rfl, rfl⟩
theorem ty132 : TI PR 132 Tryz.t132.desc 1 8 .nilFunc := ⟨Tryz.underlying132, Tryz.t132, by kernel_rfl, rfl, rfl, rfl⟩
theorem ty134 : TI PR 134 Tryz.t134.desc 1 8 .nilFunc := ⟨Tryz.underlying134, Tryz.t134, by kernel_rfl, rfl, rfl, rfl⟩
theorem ty135 : TI PR 135 Tryz.t134.desc 1 8 .nilFunc := ⟨Tryz.underlying135, Tryz.t135, by kernel_rfl, rfl, rfl, rfl⟩
theorem ty137 : TI PR 137 Tryz.t137.desc 1 8 .nilFunc := ⟨Tryz.underlying137, Tryz.t137, by kernel_rfl, rfl, rfl, rfl⟩
theorem ty138 : TI PR 138 Tryz.t138.desc 1 8 (.map none) := ⟨Tryz.underlying138, Tryz.t138, by kernel_rfl, rfl, rfl, rfl⟩
theorem ty139 : TI PR 139 Tryz.t139.desc 1 8 .nilFunc := ⟨Tryz.underlying139, Tryz.t139, by kernel_rfl, rfl, rfl, rfl⟩
theorem ty141 : TI PR 141 Tryz.t141.desc 1 8 .nilFunc := ⟨Tryz.underlying141, Tryz.t141, by kernel_rfl, rfl, rfl, rfl⟩
theorem ty142 : TI PR 142 Tryz.t142.desc 1 8 .nilFunc := ⟨Tryz.underlying142, Tryz.t142, by kernel_rfl, rfl, rfl, rfl⟩
theorem ty143 : TI PR 143 Tryz.t143.desc 1 8 .nilFunc := ⟨Tryz.underlying143, Tryz.t143, by kernel_rfl, rfl, rfl, rfl⟩
theorem ty144 : TI PR 144 Tryz.t144.desc 1 8 .nilFunc := ⟨Tryz.underlying144, Tryz.t144, by kernel_rfl, rfl, rfl, rfl⟩
theorem ty145 : TI PR 145 Tryz.t145.desc 1 8 .nilFunc := ⟨Tryz.underlying145, Tryz.t145, by kernel_rfl, rfl, rfl, rfl⟩
theorem ty147 : TI PR 147 Tryz.t147.desc 1 8 .nilFunc := ⟨Tryz.underlying147, Tryz.t147, by kernel_rfl, rfl, rfl, rfl⟩
theorem ty148 : TI PR 148 Tryz.t148.desc 1 8 .nilFunc := ⟨Tryz.underlying148, Tryz.t148, by kernel_rfl, rfl, rfl, rfl⟩
theorem ty149 : TI PR 149 Tryz.t149.desc 1 8 .nilFunc := ⟨Tryz.underlying149, Tryz.t149, by kernel_rfl, rfl, rfl, rfl⟩
theorem ty150 : TI PR 150 Tryz.t150.desc 1 8 .nilFunc := ⟨Tryz.underlying150, Tryz.t150, by kernel_rfl, rfl, rfl, rfl⟩
theorem ty151 : TI PR 151 Tryz.t151.desc 1 8 .nilFunc := ⟨Tryz.underlying151, Tryz.t151, by kernel_rfl, rfl, rfl, rfl⟩
theorem ty153 : TI PR 153 Tryz.t153.desc 1 8 .nilFunc := ⟨Tryz.underlying153, Tryz.t153, by kernel_rfl, rfl, rfl, rfl⟩
theorem ty154 : TI PR 154 Tryz.t154.desc 1 8 .nilFunc := ⟨Tryz.underlying154, Tryz.t154, by kernel_rfl, rfl, rfl, rfl⟩
theorem ty155 : TI PR 155 Tryz.t154.desc 1 8 .nilFunc := ⟨Tryz.underlying155, Tryz.t155, by kernel_rfl, rfl, rfl, rfl⟩
theorem ty156 : TI PR 156 Tryz.t156.desc 1 8 .nilFunc := ⟨Tryz.underlying156, Tryz.t156, by kernel_rfl, rfl, rfl, rfl⟩
theorem ty157 : TI PR 157 Tryz.t157.desc 1 8 .nilFunc := ⟨Tryz.underlying157, Tryz.t157, by kernel_rfl, rfl, rfl, rfl⟩
theorem ty158 : TI PR 158 Tryz.t158.desc 1 8 .nilFunc := ⟨Tryz.underlying158, Tryz.t158, by kernel_rfl, rfl, rfl, rfl⟩
theorem ty159 : TI PR 159 Tryz.t159.desc 1 8 .nilFunc := ⟨Tryz.underlying159, Tryz.t159, by kernel_rfl, rfl, rfl, rfl⟩
theorem ty160 : TI PR 160 Tryz.t160.desc 3 24 (.agg #[(.int .i64 0), (.int .i64 0), (.int .i64 0)]) := ⟨Tryz.underlying160, Tryz.t160, by kernel_rfl, rfl, rfl, rfl⟩
theorem ty162 : TI PR 162 Tryz.t162.desc 1 8 .nilFunc := ⟨Tryz.underlying162, Tryz.t162, by kernel_rfl, rfl, rfl, rfl⟩
theorem ty163 : TI PR 163 Tryz.t163.desc 3 40 (.agg #[(.string (ByteArray.mk #[])), (.string (ByteArray.mk #[])), (.int .i64 0)]) := ⟨Tryz.underlying163, Tryz.t163, by kernel_rfl, rfl, rfl, rfl⟩
theorem ty165 : TI PR 165 Tryz.t165.desc 1 8 .nilFunc := ⟨Tryz.underlying165, Tryz.t165, by kernel_rfl, rfl, rfl, rfl⟩
theorem ty168 : TI PR 168 Tryz.t168.desc 1 8 .nilFunc := ⟨Tryz.underlying168, Tryz.t168, by kernel_rfl, rfl, rfl, rfl⟩
theorem ty170 : TI PR 170 Tryz.t170.desc 1 8 .nilFunc := ⟨Tryz.underlying170, Tryz.t170, by kernel_rfl, rfl, rfl, rfl⟩
theorem ty171 : TI PR 171 Tryz.t171.desc 1 8 (.pointer none) := ⟨Tryz.underlying171, Tryz.t171, by kernel_rfl, rfl, rfl, rfl⟩
theorem ty172 : TI PR 172 Tryz.t172.desc 1 8 .nilFunc := ⟨Tryz.underlying172, Tryz.t172, by kernel_rfl, rfl, rfl, rfl⟩
theorem ty173 : TI PR 173 Tryz.t173.desc 1 8 .nilFunc := ⟨Tryz.underlying173, Tryz.t173, by kernel_rfl, rfl, rfl, rfl⟩
theorem ty174 : TI PR 174 Tryz.t174.desc 1 8 .nilFunc := ⟨Tryz.underlying174, Tryz.t174, by kernel_rfl, rfl, rfl, rfl⟩
theorem ty175 : TI PR 175 Tryz.t175.desc 1 8 .nilFunc := ⟨Tryz.underlying175, Tryz.t175, by kernel_rfl, rfl, rfl, rfl⟩
theorem ty176 : TI PR 176 Tryz.t176.desc 1 8 .nilFunc := ⟨Tryz.underlying176, Tryz.t176, by kernel_rfl, rfl, rfl, rfl⟩
theorem ty177 : TI PR 177 Tryz.t177.desc 1 8 .nilFunc := ⟨Tryz.underlying177, Tryz.t177, by kernel_rfl, rfl, rfl, rfl⟩
theorem ty179 : TI PR 179 Tryz.t179.desc 1 8 .nilFunc := ⟨Tryz.underlying179, Tryz.t179, by kernel_rfl, rfl, rfl, rfl⟩
theorem ty180 : TI PR 180 Tryz.t180.desc 1 8 .nilFunc := ⟨Tryz.underlying180, Tryz.t180, by kernel_rfl, rfl, rfl, rfl⟩
theorem ty181 : TI PR 181 Tryz.t3.desc 1 8 (.int .i64 0) := ⟨Tryz.underlying181, Tryz.t181, by kernel_rfl, rfl, rfl, rfl⟩
theorem ty182 : TI PR 182 Tryz.t182.desc 1 8 .nilFunc := ⟨Tryz.underlying182, Tryz.t182, by kernel_rfl, rfl, rfl, rfl⟩
theorem ty183 : TI PR 183 Tryz.t182.desc 1 8 .nilFunc := ⟨Tryz.underlying183, Tryz.t183, by kernel_rfl, rfl, rfl, rfl⟩
theorem ty184 : TI PR 184 Tryz.t184.desc 1 8 .nilFunc := ⟨Tryz.underlying184, Tryz.t184, by kernel_rfl, rfl, rfl, rfl⟩
theorem ty186 : TI PR 186 Tryz.t186.desc 1 8 .nilFunc := ⟨Tryz.underlying186, Tryz.t186, by kernel_rfl, rfl, rfl, rfl⟩
theorem ty187 : TI PR 187 Tryz.t187.desc 1 8 .nilFunc := ⟨Tryz.underlying187, Tryz.t187, by kernel_rfl, rfl, rfl, rfl⟩
theorem ty189 : TI PR 189 Tryz.t189.desc 1 8 .nilFunc := ⟨Tryz.underlying189, Tryz.t189, by kernel_rfl, rfl, rfl, rfl⟩
theorem ty191 : TI PR 191 Tryz.t191.desc 1 8 .nilFunc := ⟨Tryz.underlying191, Tryz.t191, by kernel_rfl, rfl, rfl, rfl⟩
theorem ty192 : TI PR 192 Tryz.t192.desc 2 16 (.agg #[(.int .u64 0), (.int .i64 0)]) := ⟨Tryz.underlying192, Tryz.t192, by kernel_rfl, rfl, rfl, rfl⟩
theorem ty194 : TI PR 194 Tryz.t194.desc 1 8 .nilFunc := ⟨Tryz.underlying194, Tryz.t194, by kernel_rfl, rfl, rfl, rfl⟩
theorem ty195 : TI PR 195 Tryz.t194.desc 1 8 .nilFunc := ⟨Tryz.underlying195, Tryz.t195, by kernel_rfl, rfl, rfl, rfl⟩
theorem ty196 : TI PR 196 Tryz.t196.desc 1 8 .nilFunc := ⟨Tryz.underlying196, Tryz.t196, by kernel_rfl, rfl, rfl, rfl⟩
theorem ty197 : TI PR 197 Tryz.t197.desc 1 8 .nilFunc := ⟨Tryz.underlying197, Tryz.t197, by kernel_rfl, rfl, rfl, rfl⟩
theorem ty198 : TI PR 198 Tryz.t198.desc 1 8 .nilFunc := ⟨Tryz.underlying198, Tryz.t198, by kernel_rfl, rfl, rfl, rfl⟩
theorem ty201 : TI PR 201 Tryz.t201.desc 1 8 .nilFunc := ⟨Tryz.underlying201, Tryz.t201, by kernel_rfl, rfl, rfl, rfl⟩
theorem ty203 : TI PR 203 Tryz.t203.desc 1 8 .nilFunc := ⟨Tryz.underlying203, Tryz.t203, by kernel_rfl, rfl, rfl, rfl⟩
theorem ty204 : TI PR 204 Tryz.t203.desc 1 8 .nilFunc := ⟨Tryz.underlying204, Tryz.t204, by kernel_rfl, rfl, rfl, rfl⟩
theorem ty205 : TI PR 205 Tryz.t205.desc 1 8 .nilFunc := ⟨Tryz.underlying205, Tryz.t205, by kernel_rfl, rfl, rfl, rfl⟩
theorem ty206 : TI PR 206 Tryz.t206.desc 1 8 .nilFunc := ⟨Tryz.underlying206, Tryz.t206, by kernel_rfl, rfl, rfl, rfl⟩
theorem ty207 : TI PR 207 Tryz.t207.desc 1 8 .nilFunc := ⟨Tryz.underlying207, Tryz.t207, by kernel_rfl, rfl, rfl, rfl⟩
theorem ty209 : TI PR 209 Tryz.t209.desc 1 8 .nilFunc := ⟨Tryz.underlying209, Tryz.t209, by kernel_rfl, rfl, rfl, rfl⟩
theorem ty210 : TI PR 210 Tryz.t210.desc 1 8 .nilFunc := ⟨Tryz.underlying210, Tryz.t210, by kernel_rfl, rfl, rfl, rfl⟩
theorem ty211 : TI PR 211 Tryz.t211.desc 1 16 .nilIface := ⟨Tryz.underlying211, Tryz.t211, by kernel_rfl, rfl, rfl, rfl⟩
theorem ty212 : TI PR 212 Tryz.t211.desc 1 16 .nilIface := ⟨Tryz.underlying212, Tryz.t212, by kernel_rfl, rfl, rfl, rfl⟩
theorem ty213 : TI PR 213 Tryz.t213.desc 1 8 (.map none) := ⟨Tryz.underlying213, Tryz.t213, by kernel_rfl, rfl, rfl, rfl⟩
theorem ty214 : TI PR 214 Tryz.t214.desc 1 8 .nilFunc := ⟨Tryz.underlying214, Tryz.t214, by kernel_rfl, rfl, rfl, rfl⟩
theorem ty215 : TI PR 215 Tryz.t215.desc 1 8 .nilFunc := ⟨Tryz.underlying215, Tryz.t215, by kernel_rfl, rfl, rfl, rfl⟩
theorem ty216 : TI PR 216 Tryz.t216.desc 1 8 .nilFunc := ⟨Tryz.underlying216, Tryz.t216, by kernel_rfl, rfl, rfl, rfl⟩
theorem ty219 : TI PR 219 Tryz.t219.desc 2 32 (.agg #[(.pointer none), (.slice none 0 0)]) := ⟨Tryz.underlying219, Tryz.t219, by kernel_rfl, rfl, rfl, rfl⟩
theorem ty221 : TI PR 221 Tryz.t221.desc 2 32 (.agg #[(.pointer none), (.slice none 0 0)]) := ⟨Tryz.underlying221, Tryz.t221, by kernel_rfl, rfl, rfl, rfl⟩
theorem ty223 : TI PR 223 Tryz.t223.desc 1 8 .nilFunc := ⟨Tryz.underlying223, Tryz.t223, by kernel_rfl, rfl, rfl, rfl⟩
theorem ty224 : TI PR 224 Tryz.t224.desc 1 16 .nilIface := ⟨Tryz.underlying224, Tryz.t224, by kernel_rfl, rfl, rfl, rfl⟩
theorem ty225 : TI PR 225 Tryz.t224.desc 1 16 .nilIface := ⟨Tryz.underlying225, Tryz.t225, by kernel_rfl, rfl, rfl, rfl⟩
theorem ty227 : TI PR 227 Tryz.t227.desc 1 8 .nilFunc := ⟨Tryz.underlying227, Tryz.t227, by kernel_rfl, rfl, rfl, rfl⟩
theorem ty228 : TI PR 228 Tryz.t228.desc 1 8 .nilFunc := ⟨Tryz.underlying228, Tryz.t228, by kernel_rfl, rfl, rfl, rfl⟩
theorem ty229 : TI PR 229 Tryz.t229.desc 1 8 .nilFunc := ⟨Tryz.underlying229, Tryz.t229, by kernel_rfl, rfl, rfl, rfl⟩
theorem ty230 : TI PR 230 Tryz.t230.desc 1 8 .nilFunc := ⟨Tryz.underlying230, Tryz.t230, by kernel_rfl, rfl, rfl, rfl⟩
theorem ty231 : TI PR 231 Tryz.t231.desc 1 8 .nilFunc := ⟨Tryz.underlying231, Tryz.t231, by kernel_rfl, rfl, rfl, rfl⟩
theorem ty233 : TI PR 233 Tryz.t233.desc 1 8 .nilFunc := ⟨Tryz.underlying233, Tryz.t233, by kernel_rfl, rfl, rfl, rfl⟩
theorem ty235 : TI PR 235 Tryz.t235.desc 1 8 .nilFunc := ⟨Tryz.underlying235, Tryz.t235, by kernel_rfl, rfl, rfl, rfl⟩
theorem ty236 : TI PR 236 Tryz.t236.desc 1 8 .nilFunc := ⟨Tryz.underlying236, Tryz.t236, by kernel_rfl, rfl, rfl, rfl⟩
theorem ty238 : TI PR 238 Tryz.t238.desc 1 8 (.pointer none) := ⟨Tryz.underlying238, Tryz.t238, by kernel_rfl, rfl, rfl, rfl⟩
theorem ty239 : TI PR 239 Tryz.t239.desc 5 64 (.agg #[(.string (ByteArray.mk #[])), (.string (ByteArray.mk #[])), (.string (ByteArray.mk #[])), (.int .i64 0), (.int .i64 0)]) := ⟨Tryz.underlying239, Tryz.t239, by kernel_rfl, rfl, rfl, rfl⟩
theorem ty241 : TI PR 241 Tryz.t241.desc 1 8 .nilFunc := ⟨Tryz.underlying241, Tryz.t241, by kernel_rfl, rfl, rfl, rfl⟩
theorem ty244 : TI PR 244 Tryz.t244.desc 1 8 .nilFunc := ⟨Tryz.underlying244, Tryz.t244, by kernel_rfl, rfl, rfl, rfl⟩
theorem ty245 : TI PR 245 Tryz.t245.desc 1 8 .nilFunc := ⟨Tryz.underlying245, Tryz.t245, by kernel_rfl, rfl, rfl, rfl⟩
theorem ty246 : TI PR 246 Tryz.t246.desc 1 8 .nilFunc := ⟨Tryz.underlying246, Tryz.t246, by kernel_rfl, rfl, rfl, rfl⟩
theorem ty247 : TI PR 247 Tryz.t247.desc 1 8 .nilFunc := ⟨Tryz.underlying247, Tryz.t247, by kernel_rfl, rfl, rfl, rfl⟩
theorem ty248 : TI PR 248 Tryz.t248.desc 1 8 .nilFunc := ⟨Tryz.underlying248, Tryz.t248, by kernel_rfl, rfl, rfl, rfl⟩
theorem ty249 : TI PR 249 Tryz.t249.desc 1 8 .nilFunc := ⟨Tryz.underlying249, Tryz.t249, by kernel_rfl, rfl, rfl, rfl⟩
theorem ty250 : TI PR 250 Tryz.t250.desc 1 8 .nilFunc := ⟨Tryz.underlying250, Tryz.t250, by kernel_rfl, rfl, rfl, rfl⟩
theorem ty251 : TI PR 251 Tryz.t251.desc 1 8 .nilFunc := ⟨Tryz.underlying251, Tryz.t251, by kernel_rfl, rfl, rfl, rfl⟩
theorem ty252 : TI PR 252 Tryz.t252.desc 1 8 .nilFunc := ⟨Tryz.underlying252, Tryz.t252, by kernel_rfl, rfl, rfl, rfl⟩
theorem ty253 : TI PR 253 Tryz.t253.desc 1 8 .nilFunc := ⟨Tryz.underlying253, Tryz.t253, by kernel_rfl, rfl, rfl, rfl⟩
theorem ty254 : TI PR 254 Tryz.t254.desc 1 8 .nilFunc := ⟨Tryz.underlying254, Tryz.t254, by kernel_rfl, rfl, rfl, rfl⟩
theorem ty255 : TI PR 255 Tryz.t255.desc 1 8 .nilFunc := ⟨Tryz.underlying255, Tryz.t255, by kernel_rfl, rfl, rfl, rfl⟩
theorem ty256 : TI PR 256 Tryz.t256.desc 1 8 .nilFunc := ⟨Tryz.underlying256, Tryz.t256, by kernel_rfl, rfl, rfl, rfl⟩
theorem ty257 : TI PR 257 Tryz.t257.desc 1 8 .nilFunc := ⟨Tryz.underlying257, Tryz.t257, by kernel_rfl, rfl, rfl, rfl⟩
theorem ty258 : TI PR 258 Tryz.t258.desc 1 8 .nilFunc := ⟨Tryz.underlying258, Tryz.t258, by kernel_rfl, rfl, rfl, rfl⟩
theorem ty259 : TI PR 259 Tryz.t259.desc 1 8 .nilFunc := ⟨Tryz.underlying259, Tryz.t259, by kernel_rfl, rfl, rfl, rfl⟩
theorem ty260 : TI PR 260 Tryz.t260.desc 1 8 .nilFunc := ⟨Tryz.underlying260, Tryz.t260, by kernel_rfl, rfl, rfl, rfl⟩
theorem ty261 : TI PR 261 Tryz.t261.desc 1 8 .nilFunc := ⟨Tryz.underlying261, Tryz.t261, by kernel_rfl, rfl, rfl, rfl⟩
theorem ty262 : TI PR 262 Tryz.t262.desc 0 0 (.agg #[]) := ⟨Tryz.underlying262, Tryz.t262, by kernel_rfl, rfl, rfl, rfl⟩
theorem ty265 : TI PR 265 Tryz.t265.desc 1 8 (.pointer none) := ⟨Tryz.underlying265, Tryz.t265, by kernel_rfl, rfl, rfl, rfl⟩
theorem ty266 : TI PR 266 Tryz.t266.desc 1 8 (.pointer none) := ⟨Tryz.underlying266, Tryz.t266, by kernel_rfl, rfl, rfl, rfl⟩
theorem ty267 : TI PR 267 Tryz.t267.desc 1 8 .nilFunc := ⟨Tryz.underlying267, Tryz.t267, by kernel_rfl, rfl, rfl, rfl⟩
theorem ty268 : TI PR 268 Tryz.t267.desc 1 8 .nilFunc := ⟨Tryz.underlying268, Tryz.t268, by kernel_rfl, rfl, rfl, rfl⟩
theorem ty269 : TI PR 269 Tryz.t269.desc 1 8 .nilFunc := ⟨Tryz.underlying269, Tryz.t269, by kernel_rfl, rfl, rfl, rfl⟩
theorem ty270 : TI PR 270 Tryz.t270.desc 1 8 .nilFunc := ⟨Tryz.underlying270, Tryz.t270, by kernel_rfl, rfl, rfl, rfl⟩
theorem ty271 : TI PR 271 Tryz.t271.desc 1 8 .nilFunc := ⟨Tryz.underlying271, Tryz.t271, by kernel_rfl, rfl, rfl, rfl⟩
theorem ty272 : TI PR 272 Tryz.t272.desc 1 8 .nilFunc := ⟨Tryz.underlying272, Tryz.t272, by kernel_rfl, rfl, rfl, rfl⟩
theorem ty273 : TI PR 273 Tryz.t273.desc 1 8 .nilFunc := ⟨Tryz.underlying273, Tryz.t273, by kernel_rfl, rfl, rfl, rfl⟩
theorem ty274 : TI PR 274 Tryz.t274.desc 1 8 .nilFunc := ⟨Tryz.underlying274, Tryz.t274, by kernel_rfl, rfl, rfl, rfl⟩
theorem ty275 : TI PR 275 Tryz.t275.desc 1 8 .nilFunc := ⟨Tryz.underlying275, Tryz.t275, by kernel_rfl, rfl, rfl, rfl⟩
theorem ty277 : TI PR 277 Tryz.t277.desc 1 8 .nilFunc := ⟨Tryz.underlying277, Tryz.t277, by kernel_rfl, rfl, rfl, rfl⟩
theorem ty279 : TI PR 279 Tryz.t279.desc 1 8 .nilFunc := ⟨Tryz.underlying279, Tryz.t279, by kernel_rfl, rfl, rfl, rfl⟩
theorem ty282 : TI PR 282 Tryz.t282.desc 1 8 .nilFunc := ⟨Tryz.underlying282, Tryz.t282, by kernel_rfl, rfl, rfl, rfl⟩
theorem ty285 : TI PR 285 Tryz.t285.desc 1 8 .nilFunc := ⟨Tryz.underlying285, Tryz.t285, by kernel_rfl, rfl, rfl, rfl⟩
theorem ty286 : TI PR 286 Tryz.t286.desc 1 8 .nilFunc := ⟨Tryz.underlying286, Tryz.t286, by kernel_rfl, rfl, rfl, rfl⟩
theorem ty287 : TI PR 287 Tryz.t287.desc 1 8 .nilFunc := ⟨Tryz.underlying287, Tryz.t287, by kernel_rfl, rfl, rfl, rfl⟩
theorem ty288 : TI PR 288 Tryz.t288.desc 1 8 .nilFunc := ⟨Tryz.underlying288, Tryz.t288, by kernel_rfl, rfl, rfl, rfl⟩
theorem ty289 : TI PR 289 Tryz.t289.desc 1 8 .nilFunc := ⟨Tryz.underlying289, Tryz.t289, by kernel_rfl, rfl, rfl, rfl⟩
theorem ty290 : TI PR 290 Tryz.t290.desc 1 8 .nilFunc := ⟨Tryz.underlying290, Tryz.t290, by kernel_rfl, rfl, rfl, rfl⟩
theorem ty291 : TI PR 291 Tryz.t291.desc 1 8 (.pointer none) := ⟨Tryz.underlying291, Tryz.t291, by kernel_rfl, rfl, rfl, rfl⟩
theorem ty292 : TI PR 292 Tryz.t292.desc 1 8 .nilFunc := ⟨Tryz.underlying292, Tryz.t292, by kernel_rfl, rfl, rfl, rfl⟩
theorem ty293 : TI PR 293 Tryz.t293.desc 1 8 .nilFunc := ⟨Tryz.underlying293, Tryz.t293, by kernel_rfl, rfl, rfl, rfl⟩
theorem ty294 : TI PR 294 Tryz.t294.desc 1 8 .nilFunc := ⟨Tryz.underlying294, Tryz.t294, by kernel_rfl, rfl, rfl, rfl⟩
theorem ty295 : TI PR 295 Tryz.t294.desc 1 8 .nilFunc := ⟨Tryz.underlying295, Tryz.t295, by kernel_rfl, rfl, rfl, rfl⟩
theorem ty296 : TI PR 296 Tryz.t296.desc 1 8 .nilFunc := ⟨Tryz.underlying296, Tryz.t296, by kernel_rfl, rfl, rfl, rfl⟩
theorem ty298 : TI PR 298 Tryz.t298.desc 1 8 .nilFunc := ⟨Tryz.underlying298, Tryz.t298, by kernel_rfl, rfl, rfl, rfl⟩
theorem ty299 : TI PR 299 Tryz.t299.desc 2 16 (.agg #[.nilFunc, (.int .i64 0)]) := ⟨Tryz.underlying299, Tryz.t299, by kernel_rfl, rfl, rfl, rfl⟩
theorem ty301 : TI PR 301 Tryz.t301.desc 1 8 .nilFunc := ⟨Tryz.underlying301, Tryz.t301, by kernel_rfl, rfl, rfl, rfl⟩
theorem ty303 : TI PR 303 Tryz.t303.desc 1 8 .nilFunc := ⟨Tryz.underlying303, Tryz.t303, by kernel_rfl, rfl, rfl, rfl⟩
theorem ty304 : TI PR 304 Tryz.t304.desc 1 8 .nilFunc := ⟨Tryz.underlying304, Tryz.t304, by kernel_rfl, rfl, rfl, rfl⟩
theorem ty305 : TI PR 305 Tryz.t305.desc 1 8 .nilFunc := ⟨Tryz.underlying305, Tryz.t305, by kernel_rfl, rfl, rfl, rfl⟩
theorem ty306 : TI PR 306 Tryz.t3.desc 1 8 (.int .i64 0) := ⟨Tryz.underlying306, Tryz.t306, by kernel_rfl, rfl, rfl, rfl⟩
theorem ty308 : TI PR 308 Tryz.t308.desc 1 8 .nilFunc := ⟨Tryz.underlying308, Tryz.t308, by kernel_rfl, rfl, rfl, rfl⟩
theorem ty309 : TI PR 309 Tryz.t309.desc 1 8 .nilFunc := ⟨Tryz.underlying309, Tryz.t309, by kernel_rfl, rfl, rfl, rfl⟩
theorem ty310 : TI PR 310 Tryz.t310.desc 1 8 .nilFunc := ⟨Tryz.underlying310, Tryz.t310, by kernel_rfl, rfl, rfl, rfl⟩
theorem ty311 : TI PR 311 Tryz.t311.desc 1 8 .nilFunc := ⟨Tryz.underlying311, Tryz.t311, by kernel_rfl, rfl, rfl, rfl⟩
theorem ty312 : TI PR 312 Tryz.t312.desc 1 8 .nilFunc := ⟨Tryz.underlying312, Tryz.t312, by kernel_rfl, rfl, rfl, rfl⟩
theorem ty316 : TI PR 316 Tryz.t316.desc 1 8 .nilFunc := ⟨Tryz.underlying316, Tryz.t316, by kernel_rfl, rfl, rfl, rfl⟩
theorem ty317 : TI PR 317 Tryz.t317.desc 1 8 .nilFunc := ⟨Tryz.underlying317, Tryz.t317, by kernel_rfl, rfl, rfl, rfl⟩
theorem ty318 : TI PR 318 Tryz.t318.desc 1 8 .nilFunc := ⟨Tryz.underlying318, Tryz.t318, by kernel_rfl, rfl, rfl, rfl⟩
theorem ty319 : TI PR 319 Tryz.t319.desc 1 8 (.pointer none) := ⟨Tryz.underlying319, Tryz.t319, by kernel_rfl, rfl, rfl, rfl⟩
theorem ty320 : TI PR 320 Tryz.t320.desc 1 8 .nilFunc := ⟨Tryz.underlying320, Tryz.t320, by kernel_rfl, rfl, rfl, rfl⟩
theorem ty321 : TI PR 321 Tryz.t321.desc 1 8 (.pointer none) := ⟨Tryz.underlying321, Tryz.t321, by kernel_rfl, rfl, rfl, rfl⟩
theorem ty323 : TI PR 323 Tryz.t323.desc 1 8 .nilFunc := ⟨Tryz.underlying323, Tryz.t323, by kernel_rfl, rfl, rfl, rfl⟩
theorem ty324 : TI PR 324 Tryz.t324.desc 4 40 (.agg #[(.pointer none), (.pointer none), (.pointer none), (.string (ByteArray.mk #[]))]) := ⟨Tryz.underlying324, Tryz.t324, by kernel_rfl, rfl, rfl, rfl⟩
theorem ty325 : TI PR 325 Tryz.t324.desc 4 40 (.agg #[(.pointer none), (.pointer none), (.pointer none), (.string (ByteArray.mk #[]))]) := ⟨Tryz.underlying325, Tryz.t325, by kernel_rfl, rfl, rfl, rfl⟩
theorem ty326 : TI PR 326 Tryz.t326.desc 0 0 (.agg #[]) := ⟨Tryz.underlying326, Tryz.t326, by kernel_rfl, rfl, rfl, rfl⟩
theorem ty327 : TI PR 327 Tryz.t327.desc 0 0 (.agg #[]) := ⟨Tryz.underlying327, Tryz.t327, by kernel_rfl, rfl, rfl, rfl⟩
theorem ty328 : TI PR 328 Tryz.t327.desc 0 0 (.agg #[]) := ⟨Tryz.underlying328, Tryz.t328, by kernel_rfl, rfl, rfl, rfl⟩
theorem ty329 : TI PR 329 Tryz.t5.desc 1 1 (.int .u8 0) := ⟨Tryz.underlying329, Tryz.t329, by kernel_rfl, rfl, rfl, rfl⟩
theorem ty330 : TI PR 330 Tryz.t5.desc 1 1 (.int .u8 0) := ⟨Tryz.underlying330, Tryz.t330, by kernel_rfl, rfl, rfl, rfl⟩
theorem ty331 : TI PR 331 Tryz.t331.desc 1 8 .nilFunc := ⟨Tryz.underlying331, Tryz.t331, by kernel_rfl, rfl, rfl, rfl⟩
theorem ty332 : TI PR 332 Tryz.t21.desc 1 4 (.int .i32 0) := ⟨Tryz.underlying332, Tryz.t332, by kernel_rfl, rfl, rfl, rfl⟩
theorem ty333 : TI PR 333 Tryz.t21.desc 1 4 (.int .i32 0) := ⟨Tryz.underlying333, Tryz.t333, by kernel_rfl, rfl, rfl, rfl⟩
theorem ty334 : TI PR 334 Tryz.t334.desc 11 48 (.agg #[(.int .u64 0), (.int .u64 0), (.int .u32 0), (.int .u8 0), (.int .u8 0), (.int .u8 0), (.int .u8 0), .nilFunc, (.pointer none), (.int .i32 0), (.int .i32 0)]) := ⟨Tryz.underlying334, Tryz.t334, by kernel_rfl, rfl, rfl, rfl⟩
theorem ty335 : TI PR 335 Tryz.t334.desc 11 48 (.agg #[(.int .u64 0), (.int .u64 0), (.int .u32 0), (.int .u8 0), (.int .u8 0), (.int .u8 0), (.int .u8 0), .nilFunc, (.pointer none), (.int .i32 0), (.int .i32 0)]) := ⟨Tryz.underlying335, Tryz.t335, by kernel_rfl, rfl, rfl, rfl⟩
theorem ty336 : TI PR 336 Tryz.t336.desc 2 16 (.agg #[(.int .i64 0), (.int .i64 0)]) := ⟨Tryz.underlying336, Tryz.t336, by kernel_rfl, rfl, rfl, rfl⟩
theorem ty337 : TI PR 337 Tryz.t336.desc 2 16 (.agg #[(.int .i64 0), (.int .i64 0)]) := ⟨Tryz.underlying337, Tryz.t337, by kernel_rfl, rfl, rfl, rfl⟩
theorem ty338 : TI PR 338 Tryz.t338.desc 1 8 .nilFunc := ⟨Tryz.underlying338, Tryz.t338, by kernel_rfl, rfl, rfl, rfl⟩
theorem ty340 : TI PR 340 Tryz.t340.desc 1 8 .nilFunc := ⟨Tryz.underlying340, Tryz.t340, by kernel_rfl, rfl, rfl, rfl⟩
theorem ty341 : TI PR 341 Tryz.t341.desc 1 8 .nilFunc := ⟨Tryz.underlying341, Tryz.t341, by kernel_rfl, rfl, rfl, rfl⟩
theorem ty342 : TI PR 342 Tryz.t342.desc 1 8 .nilFunc := ⟨Tryz.underlying342, Tryz.t342, by kernel_rfl, rfl, rfl, rfl⟩
theorem ty344 : TI PR 344 Tryz.t344.desc 1 8 .nilFunc := ⟨Tryz.underlying344, Tryz.t344, by kernel_rfl, rfl, rfl, rfl⟩
theorem ty346 : TI PR 346 Tryz.t346.desc 1 8 .nilFunc := ⟨Tryz.underlying346, Tryz.t346, by kernel_rfl, rfl, rfl, rfl⟩
theorem ty347 : TI PR 347 Tryz.t347.desc 1 8 .nilFunc := ⟨Tryz.underlying347, Tryz.t347, by kernel_rfl, rfl, rfl, rfl⟩
end Go.Proofs.YtggakcpabomliaaGreat
namespace Go.Proofs.YtggakcpabomliaaGreat
open Go
@[simp] theorem ba_beq (a b : ByteArray) : (a == b) = decide (a = b) := by
  obtain ⟨x⟩ := a; obtain ⟨y⟩ := b
  have h : ((⟨x⟩ : ByteArray) == ⟨y⟩) = (x == y) := rfl
  rw [h]
  by_cases e : x = y
  · subst e; simp
  · simp [e]
@[simp] theorem ba_size_mk (a : Array UInt8) : (ByteArray.mk a).size = a.size := rfl
theorem bytesOf_data (ns : List Int) : (bytesOf ns).data.toList = ns.map fun n => UInt8.ofNat n.toNat := by
  have : ∀ (l : List Int) (r : ByteArray), (l.foldl (fun r n => r.push (UInt8.ofNat n.toNat)) r).data.toList = r.data.toList ++ l.map fun n => UInt8.ofNat n.toNat := by
    intro l
    induction l with
    | nil => intro r; simp
    | cons x l ih => intro r; rw [List.foldl_cons, ih]; simp [ByteArray.push]
  have h := this ns ByteArray.empty
  rw [show ByteArray.empty.data.toList = [] from rfl, List.nil_append] at h
  exact h
@[simp] theorem bytesOf_size (ns : List Int) : (bytesOf ns).size = ns.length := by
  have := congrArg List.length (bytesOf_data ns)
  rw [List.length_map] at this
  exact this
/-- a type of one cell, its zero -/
class TS (t : TypeId) (z : outParam Value) : Prop where
  ti : ∃ d m, TI PR t d 1 m z ∧ isAggD d = false
/-- a type of n cells, its zero -/
class TG (t : TypeId) (n : outParam Nat) (z : outParam Value) : Prop where
  ti : ∃ d m, TI PR t d n m z ∧ isAggD d = true
/-- any type -/
class TA (t : TypeId) (n : outParam Nat) (z : outParam Value) : Prop where
  ti : ∃ d m, TI PR t d n m z
/-- a slice type: of elements e, of k cells and so many bytes -/
class SL (t : TypeId) (e : outParam TypeId) (k by' : outParam Nat) (z : outParam Value) : Prop where
  ti : (∃ n m z', TI PR t (.slice e) n m z') ∧ (∃ d, TI PR e d k by' z) ∧ z.cells.size = k
instance TS.ta {t : TypeId} {z : Value} [h : TS t z] : TA t 1 z := ⟨let ⟨d, m, h, _⟩ := h.ti; ⟨d, m, h⟩⟩
instance TG.ta {t : TypeId} {n : Nat} {z : Value} [h : TG t n z] : TA t n z := ⟨let ⟨d, m, h, _⟩ := h.ti; ⟨d, m, h⟩⟩
/-- a list that is read, and on -/
def rdq (x : Option (List Value)) (G : List Value → WP) (F : WP) : WP := match x with | some l => G l | none => F
@[simp] theorem rdq_some (l : List Value) (G : List Value → WP) (F : WP) : rdq (some l) G F = G l := rfl
@[congr] theorem rdq_congr {x x' : Option (List Value)} {G : List Value → WP} {F : WP} (h : x = x') {q : Nat} (hq : tick = q) : rdq x G F = rdq x' G F := by rw [h]
@[simp] theorem rowL_nil (xs : List Value) : rowL xs 0 0 = some [] := by simp [rowL]
@[simp] theorem rowL_cons0 (x : Value) (xs : List Value) (n : Nat) : rowL (x :: xs) 0 (n + 1) = (rowL xs 0 n).map (x :: ·) := by
  simp only [rowL, Nat.zero_add, List.length_cons, List.drop_zero, List.take_succ_cons]
  by_cases h : n ≤ xs.length
  · rw [if_pos h, if_pos (by omega)]; rfl
  · rw [if_neg h, if_neg (by omega)]; rfl
@[simp] theorem rowL_cons1 (x : Value) (xs : List Value) (o n : Nat) : rowL (x :: xs) (o + 1) n = rowL xs o n := by
  simp only [rowL, List.length_cons, List.drop_succ_cons]
  by_cases h : o + n ≤ xs.length
  · rw [if_pos h, if_pos (by omega)]
  · rw [if_neg h, if_neg (by omega)]
theorem rowL_flat {α : Type} {l : List α} {f : α → List Value} {k i : Nat} {x : α} (hk : ∀ x, (f x).length = k) (hx : l[i]? = some x) : rowL (l.flatMap f) (i * k) k = some (f x) := by
  obtain ⟨hlt, hx'⟩ := List.getElem?_eq_some_iff.1 hx
  have h1 : (i + 1) * k ≤ l.length * k := Nat.mul_le_mul_right k hlt
  rw [Nat.add_mul] at h1
  rw [rowL, if_pos (by rw [flat_len hk]; omega), flat_drop hk, List.drop_eq_getElem_cons hlt, List.flatMap_cons, hx']
  rw [List.take_left' (hk x)]
/-- r stands in H; the rest is Hr -/
inductive Sel (r : Res) : List Res → List Res → Prop where
  | here {H : List Res} : Sel r (r :: H) H
  | there {x : Res} {H H' : List Res} : Sel r H H' → Sel r (x :: H) (x :: H')
theorem Sel.perm {r : Res} {H Hr : List Res} (h : Sel r H Hr) : H.Perm (r :: Hr) := by
  induction h with
  | here => exact .refl _
  | there _ ih => exact (ih.cons _).trans (.swap ..)
theorem Sel.sub {r : Res} {H Hr : List Res} (h : Sel r H Hr) : Hr.Sublist H := by
  induction h with
  | here => exact List.sublist_cons_self ..
  | there _ ih => exact ih.cons_cons _
theorem mem_h {r : Res} {H : List Res} : r ∈ r :: H := List.mem_cons_self ..
theorem mem_t {r x : Res} {H : List Res} (h : r ∈ H) : r ∈ x :: H := List.mem_cons_of_mem _ h
/-- all of the first list stand in the second one -/
inductive Sels : List Res → List Res → Prop where
  | nil {H : List Res} : Sels [] H
  | cons {r : Res} {rs H Hr : List Res} : Sel r H Hr → Sels rs Hr → Sels (r :: rs) H
theorem Sels.sub {rs H : List Res} (h : Sels rs H) : ∃ H', H.Perm H' ∧ rs.Sublist H' := by
  induction h with
  | nil => exact ⟨_, .refl _, List.nil_sublist _⟩
  | cons h1 _ ih => obtain ⟨H', h2, h3⟩ := ih; exact ⟨_ :: H', h1.perm.trans (h2.cons _), h3.cons_cons _⟩
theorem Sels.lw {κ : Bool} {S : List Nat} {w0 w : World} {rs H : List Res} (h : Sels rs H) (hw : LW κ S w0 H w) : LW κ S w0 rs w := let ⟨_, h1, h2⟩ := h.sub; (hw.perm h1).sub h2
theorem Sels.tw {κ : Bool} {S : List Nat} {w0 : World} {rs H : List Res} {K : WP} (h : Sels rs H) (hk : TW κ S w0 rs K) : TW κ S w0 H K := fun w hw => hk w (h.lw hw)
/-- the first list is part of the second one; the rest is the third -/
inductive Part : List Res → List Res → List Res → Prop where
  | nil {H : List Res} : Part [] H H
  | cons {r : Res} {rs H H1 Hk : List Res} : Sel r H H1 → Part rs H1 Hk → Part (r :: rs) H Hk
theorem Part.perm {Hc H Hk : List Res} (h : Part Hc H Hk) : H.Perm (Hc ++ Hk) := by
  induction h with
  | nil => exact .refl _
  | cons h1 _ ih => exact h1.perm.trans (ih.cons _)
theorem T_callP {κ : Bool} {X : Nat → Prop} {S : List Nat} {w0 : World} {H Hk Hc : List Res} {K : Value → WP} {f : FuncId} {args : List Value} {α : Type} {φ : α → Value → Prop} {Hn : α → List Res} (he : Enters PR f)
    (hf : ∀ w, LW κ S w0 (Hc ++ Hk) w → LW false (foots Hc) w Hc w → Fn PR NoX f args.toArray w (Rn (foots Hc) w φ Hn)) (hp : Part Hc H Hk) (hK : ∀ a v, φ a v → TW κ S w0 (Hn a ++ Hk) (K v)) : TW κ S w0 H (cal PR X f args K) :=
  T_call he hp.perm (fun w hw => let h := hw.perm hp.perm; hf w h (h.sub (List.sublist_append_left _ _)).self) hK
theorem T_rets {κ : Bool} {S : List Nat} {w0 : World} {H : List Res} {α : Type} {φ : α → Value → Prop} {Hn : α → List Res} {v : Value} (a : α) (h : φ a v) (hs : Sels (Hn a) H) : TW κ S w0 H (Rn S w0 φ Hn v) := fun w hw => ⟨a, h, hs.lw hw.low⟩
theorem T_kt2 {κ : Bool} {S : List Nat} {w0 : World} {H : List Res} {F : Value → Value → WP} {A : (Value → Value → WP) → WP} {α : Type} (φ : α → Prop) (Hh : α → List Res) (v1 v2 : α → Value) (hF : ∀ x, φ x → TW κ S w0 (Hh x) (F (v1 x) (v2 x)))
    (hA : ∀ J : Value → Value → WP, (∀ x, φ x → TW κ S w0 (Hh x) (J (v1 x) (v2 x))) → TW κ S w0 H (A J)) : TW κ S w0 H (kt (n := 2) F A) := hA F hF
theorem Rd1.form {w : World} {v : Value} {n : Nat} {xs : List Value} (h : Rd1 w v n xs) : ∃ a c, v = .slice a n c ∧ (0 < n → ∃ b o, a = some ⟨b, o, none⟩ ∧ Row w b o xs) := by
  rcases h with ⟨rfl, rfl, a, c, rfl⟩ | ⟨b, o, c, rfl, hr⟩
  · exact ⟨a, c, rfl, fun h => absurd h (by omega)⟩
  · exact ⟨_, c, rfl, fun _ => ⟨b, o, rfl, hr⟩⟩
theorem Row.at {w : World} {b o k : Nat} {α : Type} {l : List α} {f : α → List Value} (h : Row w b o (l.flatMap f)) (hk : ∀ x, (f x).length = k) {i : Nat} {x : α} (hx : l[i]? = some x) : rowN w b (o + i * k) k = some (f x) := by
  have h1 : Row w b (o + i * k) (f x) := fun j hj => by
    rw [hk] at hj
    have h2 := flat_get hk l i j hj
    rw [hx] at h2
    have h3 : (l.flatMap f)[i * k + j]? = some ((f x)[j]'(by rw [hk]; exact hj)) := by rw [h2]; simp [List.getElem?_eq_getElem, hk, hj]
    rw [Nat.add_assoc, h.get h3]; simp [List.getElem?_eq_getElem, hk, hj]
  have := rowN_of h1
  rwa [hk] at this
theorem Row.cellAt {w : World} {b o k : Nat} {α : Type} {l : List α} {f : α → List Value} (h : Row w b o (l.flatMap f)) (hk : ∀ x, (f x).length = k) {i j : Nat} {x : α} {u : Value} (hx : l[i]? = some x) (hu : (f x)[j]? = some u) : w.cell? ⟨b, o + i * k + j, none⟩ = some u := by
  have hj : j < k := by rw [← hk x]; exact (List.getElem?_eq_some_iff.1 hu).1
  have h2 := flat_get hk l i j hj
  rw [hx] at h2
  rw [Nat.add_assoc]
  exact h.get (by rw [h2]; exact hu)
theorem Row.one {w : World} {b o : Nat} {α : Type} {l : List α} {f : α → Value} (h : Row w b o (l.map f)) {i : Nat} {x : α} (hx : l[i]? = some x) : w.cell? ⟨b, o + i, none⟩ = some (f x) := h.get (by simp [hx])
section
variable {κ : Bool} {X : Nat → Prop} {S : List Nat} {w0 : World} {H H' Hr : List Res} {K : Value → WP} {K0 : WP} {t e : TypeId} {n k by' : Nat} {z : Value}
theorem s_rds {s : Sem Value} {v : Value} (h : ∀ w, LW κ S w0 H w → rds PR s K w = K v w) : TW κ S w0 H (rds PR s K) = TW κ S w0 H (K v) := TW.congr h
theorem s_rdsI {s : Sem Value} {v : Value} (hK : TW κ S w0 H (K v)) (h : ∀ w, LW κ S w0 H w → rds PR s K w = K v w) : TW κ S w0 H (rds PR s K) := fun w hw => by rw [h w hw]; exact hK w hw
/-- a slice of one's own that is not empty lies somewhere -/
theorem T_ptr {v : Value} {q : Nat} {xs : List Value} (hm : Res.own e k v q xs ∈ H) (hq : 0 < q) (h : ∀ g c, v = .slice (some ⟨g, 0, none⟩) q c → TW κ S w0 H K0) : TW κ S w0 H K0 := fun w hw => by
  rcases (hw.hold _ hm).2 with ⟨_, rfl⟩ | ⟨g, c, _, rfl, _⟩
  · omega
  · exact h g c rfl w hw
@[simp] theorem s_ld_pt [h : TS t z] {b o : Nat} {c : Array Value} {T : TypeId} {f : Nat × Nat} (hm : Res.pt b (.cells c T f) ∈ H) :
    TW κ S w0 H (rds PR (Instr.loadAt t (.pointer (some ⟨b, o, none⟩))) K) = TW κ S w0 H (rdc c[o]? K (far PR t ⟨b, o, none⟩ K)) := let ⟨_, _, h, hd⟩ := h.ti; T_ld_pt h hd hm
@[simp] theorem s_ld_own [h : TS t z] {g o : Nat} {k q c : Nat} {xs : List Value} (hm : Res.own e k (.slice (some ⟨g, 0, none⟩) q c) q xs ∈ H) :
    TW κ S w0 H (rds PR (Instr.loadAt t (.pointer (some ⟨g, o, none⟩))) K) = TW κ S w0 H (rdc xs[o]? K (rds PR (Instr.loadAt t (.pointer (some ⟨g, o, none⟩))) K)) := by
  cases hv : xs[o]? with
  | none => rfl
  | some v => exact let ⟨_, _, h, hd⟩ := h.ti; T_ld_own h hd hm hv
@[simp] theorem s_ld_old [h : TS t z] {b o : Nat} {v : Value} (hc : w0.cell? ⟨b, o, none⟩ = some v) (hS : b ∉ S) :
    TW κ S w0 H (rds PR (Instr.loadAt t (.pointer (some ⟨b, o, none⟩))) K) = TW κ S w0 H (K v) := let ⟨_, _, h, hd⟩ := h.ti; T_ld_old h hd hc hS
@[simp] theorem s_ldN_pt [h : TG t n z] {b o : Nat} {c : Array Value} {T : TypeId} {f : Nat × Nat} (hm : Res.pt b (.cells c T f) ∈ H) :
    TW κ S w0 H (rds PR (Instr.loadAt t (.pointer (some ⟨b, o, none⟩))) K) = TW κ S w0 H (rdq (rowL c.toList o n) (fun l => K (.agg l.toArray)) (rds PR (Instr.loadAt t (.pointer (some ⟨b, o, none⟩))) K)) := by
  cases hl : rowL c.toList o n with
  | none => rfl
  | some l => exact let ⟨_, _, h, hd⟩ := h.ti; T_ldN_pt h hd hm hl
@[simp] theorem s_ldN_own [h : TG t n z] {g o : Nat} {k q c : Nat} {xs : List Value} (hm : Res.own e k (.slice (some ⟨g, 0, none⟩) q c) q xs ∈ H) :
    TW κ S w0 H (rds PR (Instr.loadAt t (.pointer (some ⟨g, o, none⟩))) K) = TW κ S w0 H (rdq (rowL xs o n) (fun l => K (.agg l.toArray)) (rds PR (Instr.loadAt t (.pointer (some ⟨g, o, none⟩))) K)) := by
  cases hl : rowL xs o n with
  | none => rfl
  | some l => exact let ⟨_, _, h, hd⟩ := h.ti; T_ldN_own h hd hm hl
@[simp] theorem s_ldN_old [h : TG t n z] {b o : Nat} {l : List Value} (hc : rowN w0 b o n = some l) (hS : b ∉ S) :
    TW κ S w0 H (rds PR (Instr.loadAt t (.pointer (some ⟨b, o, none⟩))) K) = TW κ S w0 H (K (.agg l.toArray)) := let ⟨_, _, h, hd⟩ := h.ti; T_ldN_old h hd hc hS
@[simp] theorem s_fin1 [h : TS t z] {b o : Nat} {c : Array Value} {T : TypeId} {f : Nat × Nat} (hm : Res.pt b (.cells c T f) ∈ H) {v : Value} (hv : c[o]? = some v) :
    TW κ S w0 H (rds PR (finS [.c t (.pointer (some ⟨b, o, none⟩))]) K) = TW κ S w0 H (K v) := let ⟨_, _, h, hd⟩ := h.ti; T_fin1 h hd hm hv
@[simp] theorem s_finN [h : TG t n z] {b o : Nat} {c : Array Value} {T : TypeId} {f : Nat × Nat} (hm : Res.pt b (.cells c T f) ∈ H) :
    TW κ S w0 H (rds PR (finS [.c t (.pointer (some ⟨b, o, none⟩))]) K) = TW κ S w0 H (rdq (rowL c.toList o n) (fun l => K (.agg l.toArray)) (rds PR (finS [.c t (.pointer (some ⟨b, o, none⟩))]) K)) := by
  cases hl : rowL c.toList o n with
  | none => rfl
  | some l => exact let ⟨_, _, h, hd⟩ := h.ti; T_finN h hd hm hl
@[simp] theorem s_finN2 [h : TG t n z] {b o : Nat} {c : Array Value} {T : TypeId} {f : Nat × Nat} {x : Value} (hm : Res.pt b (.cells c T f) ∈ H) :
    TW κ S w0 H (rds PR (finS [.c t (.pointer (some ⟨b, o, none⟩)), .v x]) K) = TW κ S w0 H (rdq (rowL c.toList o n) (fun l => K (.tuple #[.agg l.toArray, x])) (rds PR (finS [.c t (.pointer (some ⟨b, o, none⟩)), .v x]) K)) := by
  cases hl : rowL c.toList o n with
  | none => rfl
  | some l =>
      obtain ⟨_, _, h, hd⟩ := h.ti
      refine TW.congr fun w hw => ?_
      rw [rdq_some]
      have hr := rowN_bl hl (Row.bl (hw.pt hm)); have h2 := rowN_len hr
      refine rds_of ?_ K
      have := run_loadN h hd h2.1 h2.2
      simp only [Instr.loadAt, Instr.sureAddr, Sem.run_bind, Sem.run_pure, Result.andThen_ok] at this
      simp [finS, finL, RV.sem, asAddr, this, one]
@[simp] theorem s_finN3 [h : TG t n z] {b o : Nat} {c : Array Value} {T : TypeId} {f : Nat × Nat} {x y : Value} (hm : Res.pt b (.cells c T f) ∈ H) :
    TW κ S w0 H (rds PR (finS [.c t (.pointer (some ⟨b, o, none⟩)), .v x, .v y]) K) = TW κ S w0 H (rdq (rowL c.toList o n) (fun l => K (.tuple #[.agg l.toArray, x, y])) (rds PR (finS [.c t (.pointer (some ⟨b, o, none⟩)), .v x, .v y]) K)) := by
  cases hl : rowL c.toList o n with
  | none => rfl
  | some l =>
      obtain ⟨_, _, h, hd⟩ := h.ti
      refine TW.congr fun w hw => ?_
      rw [rdq_some]
      have hr := rowN_bl hl (Row.bl (hw.pt hm)); have h2 := rowN_len hr
      refine rds_of ?_ K
      have := run_loadN h hd h2.1 h2.2
      simp only [Instr.loadAt, Instr.sureAddr, Sem.run_bind, Sem.run_pure, Result.andThen_ok] at this
      simp [finS, finL, RV.sem, asAddr, this, one]
@[simp] theorem s_watch_pt [h : TS t z] {b o : Nat} {c : Array Value} {T : TypeId} {f : Nat × Nat} {v : Value} {l : List Rd} (hm : Res.pt b (.cells c T f) ∈ H) (hv : c[o]? = some v) :
    TW κ S w0 H (watch PR ((none, Instr.loadAt t (.pointer (some ⟨b, o, none⟩)), v) :: l) K0) = TW κ S w0 H (watch PR l K0) := let ⟨_, _, h, hd⟩ := h.ti; T_watch fun w hw => run_load1 h hd (by rw [cell_of (hw.pt hm)]; exact hv)
@[simp] theorem s_watch_own [h : TS t z] {g o : Nat} {k q c : Nat} {xs : List Value} {v : Value} {l : List Rd} (hm : Res.own e k (.slice (some ⟨g, 0, none⟩) q c) q xs ∈ H) (hv : xs[o]? = some v) :
    TW κ S w0 H (watch PR ((none, Instr.loadAt t (.pointer (some ⟨g, o, none⟩)), v) :: l) K0) = TW κ S w0 H (watch PR l K0) := let ⟨_, _, h, hd⟩ := h.ti; T_watch fun w hw => run_load1 h hd (by have := (hw.ownr hm).get hv; rwa [Nat.zero_add] at this)
@[simp] theorem s_watch_old [h : TS t z] {b o : Nat} {v : Value} {l : List Rd} (hc : w0.cell? ⟨b, o, none⟩ = some v) (hS : b ∉ S) :
    TW κ S w0 H (watch PR ((none, Instr.loadAt t (.pointer (some ⟨b, o, none⟩)), v) :: l) K0) = TW κ S w0 H (watch PR l K0) := let ⟨_, _, h, hd⟩ := h.ti; T_watch fun w hw => run_load1 h hd (hw.ks.cell hS hc)
@[simp] theorem s_st [h : TA t n z] {v : Value} {b o : Nat} {c : Array Value} {T : TypeId} (hv : v.cells.size = n)
    (hu : Up (.pt b (.cells c T (0, 0))) (.pt b (.cells (spl c o v.cells.toList) T (0, 0))) H H') (hs : o + n ≤ c.size) (hp : v.cells.toList.all plain = true) :
    TW κ S w0 H (sto PR X (Instr.storeAt t (.pointer (some ⟨b, o, none⟩)) v) K0) = TW κ S w0 H' K0 := let ⟨_, _, h⟩ := h.ti; T_st h hv hu hs hp
theorem s_st_own [h : TA t n z] {v : Value} {g o q c : Nat} {xs : List Value} (hu : Up (.own e k (.slice (some ⟨g, 0, none⟩) q c) q xs) (.own e k (.slice (some ⟨g, 0, none⟩) q c) q (setL xs o v.cells.toList)) H H')
    (hv : v.cells.size = n) (hs : o + n ≤ xs.length) (hp : v.cells.toList.all plain = true) (hK : TW κ S w0 H' K0) :
    TW κ S w0 H (sto PR X (Instr.storeAt t (.pointer (some ⟨g, o, none⟩)) v) K0) := let ⟨_, _, h⟩ := h.ti; T_st_own h hv hu hs hp hK
theorem s_al [h : TA t n z] (hK : ∀ b, TW κ S w0 (.pt b (.cells z.cells t) :: H) (K (.pointer (some ⟨b, 0, none⟩)))) : TW κ S w0 H (lou PR X (Instr.alloc t true (.tuple #[])) K) := let ⟨_, _, h⟩ := h.ti; T_al h hK
theorem s_ms {k1 k2 : IntKind} {l : Int} [h : SL t e k by' z] (h0 : 0 ≤ l) (hb : l * by' ≤ 140737488355328) (hc : l ≤ 9223372036854775807) (hk : 0 < k)
    (hK : ∀ b, TW κ S w0 (.own e k (.slice (some ⟨b, 0, none⟩) l.toNat l.toNat) l.toNat (Builtin.zeroCells z.cells l.toNat).toList :: H) (K (.slice (some ⟨b, 0, none⟩) l.toNat l.toNat))) :
    TW κ S w0 H (lou PR X (Instr.makeSlice t (.int k1 l) (.int k2 l)) K) := let ⟨⟨_, _, _, h1⟩, ⟨_, h2⟩, h3⟩ := h.ti; T_ms h1 h2 h3 hk h0 rfl hb hc hK
theorem s_bs0 [h : SL t e k by' z] (hK : ∀ b, TW κ S w0 (.own e k (.slice (some ⟨b, 0, none⟩) 0 0) 0 [] :: H) (K (.slice (some ⟨b, 0, none⟩) 0 0))) : TW κ S w0 H (lou PR X (Instr.buildSlice t 0 #[]) K) :=
  let ⟨⟨_, _, _, h1⟩, ⟨_, h2⟩, h3⟩ := h.ti; T_bs0 h1 h2 hK
theorem fill_app {m n q : Nat} (hq : 0 < n) : ∀ (vs : List Value) (i : Nat) (cs : Array Value), (∀ v ∈ vs, v.cells.size = n) → (i + vs.length) * n ≤ cs.size →
    Instr.fill (fun i => some (i * n, n)) cs ((List.range' i vs.length).zip vs) = some (spl cs (i * n) (vs.flatMap fun v => v.cells.toList)) := by
  intro vs
  induction vs with
  | nil => intro i cs _ _; simp [Instr.fill]
  | cons v vs ih =>
    intro i cs hv hs
    simp only [List.length_cons] at hs
    have hv0 : v.cells.size = n := hv v (by simp)
    have e1 : (i + (vs.length + 1)) * n = i * n + n + vs.length * n := by rw [Nat.add_mul, Nat.add_mul]; omega
    simp only [List.length_cons, List.range'_succ, List.zip_cons_cons]
    rw [fill_cons rfl hv0 (by omega), ih (i + 1) _ (fun u hu => hv u (by simp [hu])) (by rw [spl_size]; have : (i + 1 + vs.length) * n = i * n + n + vs.length * n := by rw [Nat.add_mul, Nat.add_mul]; omega
                                                                                         omega)]
    have spl_spl : ∀ (l l' : List Value) (c : Array Value) (o : Nat), spl (spl c o l) (o + l.length) l' = spl c o (l ++ l') := by
      intro l
      induction l with
      | nil => intro l' c o; simp
      | cons u l ih => intro l' c o; simp only [spl_cons, List.cons_append, List.length_cons]; rw [← ih]; congr 1; omega
    rw [List.flatMap_cons, ← spl_spl]
    congr 2
    have : v.cells.toList.length = n := by simp [hv0]
    rw [this, Nat.add_mul]; omega
/-- a slice of some values, as it is written down -/
theorem s_bs {len : Nat} {parts : Array (Nat × Value)} (vs : List Value) [h : SL t e k by' z] (hk : 0 < k) (h0 : 0 < len) (hb : len * k ≤ 2 ^ 24) (hp : parts.toList = (List.range' 0 len).zip vs) (hl : vs.length = len) (hv : ∀ v ∈ vs, v.cells.size = k)
    (hK : ∀ b, TW κ S w0 (.own e k (.slice (some ⟨b, 0, none⟩) len len) len (vs.flatMap fun v => v.cells.toList) :: H) (K (.slice (some ⟨b, 0, none⟩) len len))) :
    TW κ S w0 H (lou PR X (Instr.buildSlice t len parts) K) := by
  obtain ⟨⟨_, _, _, h1⟩, ⟨_, h2⟩, h3⟩ := h.ti
  have hlen : (vs.flatMap fun v => v.cells.toList).length = len * k := by
    rw [← hl]; clear hp hl hK hb h0
    induction vs with
    | nil => simp
    | cons v vs ih =>
      have := hv v (by simp)
      rw [List.flatMap_cons, List.length_append, ih fun u hu => hv u (by simp [hu])]
      simp only [Array.length_toList, List.length_cons, this]; rw [Nat.add_mul]; omega
  have hf := fill_app (m := 0) (q := 0) hk vs 0 ((Array.range (len * k)).map (z.cells[· % z.cells.size]!)) hv (by simp [hl])
  rw [hl, ← hp] at hf
  have hz : spl ((Array.range (len * k)).map (z.cells[· % z.cells.size]!)) (0 * k) (vs.flatMap fun v => v.cells.toList) = (vs.flatMap fun v => v.cells.toList).toArray := by
    apply Array.toList_inj.1
    rw [spl_toList _ _ _ (by simp [-List.length_flatMap, hlen])]
    simp only [Nat.zero_mul, List.take_zero, List.nil_append, hlen, Nat.zero_add]
    rw [List.drop_eq_nil_of_le (by simp)]; simp
  refine T_bs h1 h2 hb (by have : 0 < len * k := Nat.mul_pos h0 hk; omega) (hf.trans (by rw [hz])) (by simp [-List.length_flatMap, hlen]) ?_
  simpa using hK
theorem s_bs1 {v0 : Value} [h : SL t e k by' z] (hk : 0 < k := by decide) (hb : 1 * k ≤ 2 ^ 24 := by decide) (h0 : v0.cells.size = k := by simp) (hK : ∀ b, TW κ S w0 (.own e k (.slice (some ⟨b, 0, none⟩) 1 1) 1 (v0.cells.toList) :: H) (K (.slice (some ⟨b, 0, none⟩) 1 1))) :
    TW κ S w0 H (lou PR X (Instr.buildSlice t 1 #[(0, v0)]) K) := s_bs [v0] hk (by omega) hb rfl rfl (by intro v hv; simp only [List.mem_cons, List.not_mem_nil, or_false] at hv; subst hv; assumption) (by simpa using hK)
theorem s_bs2 {v0 v1 : Value} [h : SL t e k by' z] (hk : 0 < k := by decide) (hb : 2 * k ≤ 2 ^ 24 := by decide) (h0 : v0.cells.size = k := by simp) (h1 : v1.cells.size = k := by simp) (hK : ∀ b, TW κ S w0 (.own e k (.slice (some ⟨b, 0, none⟩) 2 2) 2 (v0.cells.toList ++ v1.cells.toList) :: H) (K (.slice (some ⟨b, 0, none⟩) 2 2))) :
    TW κ S w0 H (lou PR X (Instr.buildSlice t 2 #[(0, v0), (1, v1)]) K) := s_bs [v0, v1] hk (by omega) hb rfl rfl (by intro v hv; simp only [List.mem_cons, List.not_mem_nil, or_false] at hv; rcases hv with rfl | rfl <;> assumption) (by simpa using hK)
theorem s_bs3 {v0 v1 v2 : Value} [h : SL t e k by' z] (hk : 0 < k := by decide) (hb : 3 * k ≤ 2 ^ 24 := by decide) (h0 : v0.cells.size = k := by simp) (h1 : v1.cells.size = k := by simp) (h2 : v2.cells.size = k := by simp) (hK : ∀ b, TW κ S w0 (.own e k (.slice (some ⟨b, 0, none⟩) 3 3) 3 (v0.cells.toList ++ v1.cells.toList ++ v2.cells.toList) :: H) (K (.slice (some ⟨b, 0, none⟩) 3 3))) :
    TW κ S w0 H (lou PR X (Instr.buildSlice t 3 #[(0, v0), (1, v1), (2, v2)]) K) := s_bs [v0, v1, v2] hk (by omega) hb rfl rfl (by intro v hv; simp only [List.mem_cons, List.not_mem_nil, or_false] at hv; rcases hv with rfl | rfl | rfl <;> assumption) (by simpa using hK)
theorem s_bs5 {v0 v1 v2 v3 v4 : Value} [h : SL t e k by' z] (hk : 0 < k := by decide) (hb : 5 * k ≤ 2 ^ 24 := by decide) (h0 : v0.cells.size = k := by simp) (h1 : v1.cells.size = k := by simp) (h2 : v2.cells.size = k := by simp) (h3 : v3.cells.size = k := by simp) (h4 : v4.cells.size = k := by simp) (hK : ∀ b, TW κ S w0 (.own e k (.slice (some ⟨b, 0, none⟩) 5 5) 5 (v0.cells.toList ++ v1.cells.toList ++ v2.cells.toList ++ v3.cells.toList ++ v4.cells.toList) :: H) (K (.slice (some ⟨b, 0, none⟩) 5 5))) :
    TW κ S w0 H (lou PR X (Instr.buildSlice t 5 #[(0, v0), (1, v1), (2, v2), (3, v3), (4, v4)]) K) := s_bs [v0, v1, v2, v3, v4] hk (by omega) hb rfl rfl (by intro v hv; simp only [List.mem_cons, List.not_mem_nil, or_false] at hv; rcases hv with rfl | rfl | rfl | rfl | rfl <;> assumption) (by simpa using hK)
theorem s_bs6 {v0 v1 v2 v3 v4 v5 : Value} [h : SL t e k by' z] (hk : 0 < k := by decide) (hb : 6 * k ≤ 2 ^ 24 := by decide) (h0 : v0.cells.size = k := by simp) (h1 : v1.cells.size = k := by simp) (h2 : v2.cells.size = k := by simp) (h3 : v3.cells.size = k := by simp) (h4 : v4.cells.size = k := by simp) (h5 : v5.cells.size = k := by simp) (hK : ∀ b, TW κ S w0 (.own e k (.slice (some ⟨b, 0, none⟩) 6 6) 6 (v0.cells.toList ++ v1.cells.toList ++ v2.cells.toList ++ v3.cells.toList ++ v4.cells.toList ++ v5.cells.toList) :: H) (K (.slice (some ⟨b, 0, none⟩) 6 6))) :
    TW κ S w0 H (lou PR X (Instr.buildSlice t 6 #[(0, v0), (1, v1), (2, v2), (3, v3), (4, v4), (5, v5)]) K) := s_bs [v0, v1, v2, v3, v4, v5] hk (by omega) hb rfl rfl (by intro v hv; simp only [List.mem_cons, List.not_mem_nil, or_false] at hv; rcases hv with rfl | rfl | rfl | rfl | rfl | rfl <;> assumption) (by simpa using hK)
theorem Own.form {w : World} {e : TypeId} {k n : Nat} {v : Value} {xs : List Value} (h : Own w e k v n xs) : ∃ a c, v = .slice a n c := by
  rcases h.2 with ⟨rfl, rfl⟩ | ⟨g, cap, cur, rfl, _⟩
  · exact ⟨_, _, rfl⟩
  · exact ⟨_, _, rfl⟩
theorem T_form {q : Nat} {xs : List Value} {A : Value → WP} (h : ∀ a c, TW κ S w0 (.own e k (.slice a q c) q xs :: H) (A (.slice a q c))) (v : Value) : TW κ S w0 (.own e k v q xs :: H) (A v) := fun w hw => by
  obtain ⟨a, c, rfl⟩ := Own.form (hw.hold _ mem_h)
  exact h a c w hw
theorem s_app {ty : TypeId} {v x : Value} {q r : Nat} {xs news : List Value} [h : SL t e k by' z] (hs : Sel (.own e k v q xs) H Hr) (hx : RdT κ S w0 H x r news) (hk : 0 < k) (hl : news.length = r * k) (hp : news.all plain = true)
    (h63 : q + r ≤ maxLen) (hby : (q + r) * by' ≤ 140737488355328) (hK : ∀ a c, TW κ S w0 (.own e k (.slice a (q + r) c) (q + r) (xs ++ news) :: Hr) (K (.slice a (q + r) c))) : TW κ S w0 H (lou PR X (builtinS .append #[t, t] ty [v, x]) K) := by
  obtain ⟨⟨_, _, _, h1⟩, ⟨_, h2⟩, h3⟩ := h.ti
  refine TW.perm ?_ hs.perm
  exact T_app (H'' := fun v' => .own e k v' (q + r) (xs ++ news) :: Hr) h1 h2 h3 hk (fun v' => .here) (fun w hw => hx w (hw.perm hs.perm.symm)) hl hp h63 hby (T_form hK)
end
end Go.Proofs.YtggakcpabomliaaGreat
namespace Go.Proofs.YtggakcpabomliaaGreat
open Go
instance : TS 1 .nilFunc := ⟨_, _, ty1, rfl⟩
instance : TS 2 (.int .i64 0) := ⟨_, _, ty2, rfl⟩
instance : TS 3 (.int .i64 0) := ⟨_, _, ty3, rfl⟩
instance : TS 4 (.bool false) := ⟨_, _, ty4, rfl⟩
instance : TS 5 (.int .u8 0) := ⟨_, _, ty5, rfl⟩
instance : TS 6 (.int .u8 0) := ⟨_, _, ty6, rfl⟩
instance : TG 7 4 (.agg #[(.int .i64 0), (.int .i64 0), (.bool false), (.int .u8 0)]) := ⟨_, _, ty7, rfl⟩
instance : TG 8 4 (.agg #[(.int .i64 0), (.int .i64 0), (.bool false), (.int .u8 0)]) := ⟨_, _, ty8, rfl⟩
instance : TS 9 (.string (ByteArray.mk #[])) := ⟨_, _, ty9, rfl⟩
instance : TS 10 (.string (ByteArray.mk #[])) := ⟨_, _, ty10, rfl⟩
instance : TS 11 (.string (ByteArray.mk #[])) := ⟨_, _, ty11, rfl⟩
instance : TS 12 (.int .u64 0) := ⟨_, _, ty12, rfl⟩
instance : TG 13 2 (.agg #[(.string (ByteArray.mk #[])), (.int .u64 0)]) := ⟨_, _, ty13, rfl⟩
instance : TG 14 2 (.agg #[(.string (ByteArray.mk #[])), (.int .u64 0)]) := ⟨_, _, ty14, rfl⟩
instance : TS 15 (.pointer none) := ⟨_, _, ty15, rfl⟩
instance : TS 16 (.pointer none) := ⟨_, _, ty16, rfl⟩
instance : TS 17 (.pointer none) := ⟨_, _, ty17, rfl⟩
instance : TG 18 1 (.agg #[(.pointer none)]) := ⟨_, _, ty18, rfl⟩
instance : TG 19 1 (.agg #[(.pointer none)]) := ⟨_, _, ty19, rfl⟩
instance : TS 20 .nilIface := ⟨_, _, ty20, rfl⟩
instance : TS 21 (.int .i32 0) := ⟨_, _, ty21, rfl⟩
instance : TG 22 5 (.agg #[(.int .i64 0), (.int .i64 0), (.int .i64 0), (.int .i64 0), (.int .i64 0)]) := ⟨_, _, ty22, rfl⟩
instance : TG 23 5 (.agg #[(.int .i64 0), (.int .i64 0), (.int .i64 0), (.int .i64 0), (.int .i64 0)]) := ⟨_, _, ty23, rfl⟩
instance : TS 24 (.slice none 0 0) := ⟨_, _, ty24, rfl⟩
instance : SL 24 44 5 64 (.agg #[(.int .i64 0), (.string (ByteArray.mk #[])), (.slice none 0 0), (.int .i64 0), (.int .i64 0)]) := ⟨⟨_, _, _, ty24⟩, ⟨_, ty44⟩, rfl⟩
instance : TS 25 .nilFunc := ⟨_, _, ty25, rfl⟩
instance : TS 26 .nilFunc := ⟨_, _, ty26, rfl⟩
instance : TS 27 (.pointer none) := ⟨_, _, ty27, rfl⟩
instance : TS 28 (.int .i64 0) := ⟨_, _, ty28, rfl⟩
instance : TS 30 .nilFunc := ⟨_, _, ty30, rfl⟩
instance : TS 31 .nilFunc := ⟨_, _, ty31, rfl⟩
instance : TS 32 (.slice none 0 0) := ⟨_, _, ty32, rfl⟩
instance : SL 32 103 2 16 (.agg #[(.int .i64 0), (.int .i64 0)]) := ⟨⟨_, _, _, ty32⟩, ⟨_, ty103⟩, rfl⟩
instance : TS 33 (.slice none 0 0) := ⟨_, _, ty33, rfl⟩
instance : SL 33 50 1 24 (.slice none 0 0) := ⟨⟨_, _, _, ty33⟩, ⟨_, ty50⟩, rfl⟩
instance : TS 34 (.slice none 0 0) := ⟨_, _, ty34, rfl⟩
instance : SL 34 3 1 8 (.int .i64 0) := ⟨⟨_, _, _, ty34⟩, ⟨_, ty3⟩, rfl⟩
instance : TG 35 8 (.agg #[(.int .i64 0), (.int .i64 0), (.int .i64 0), (.int .i64 0), (.int .i64 0), (.slice none 0 0), (.slice none 0 0), (.slice none 0 0)]) := ⟨_, _, ty35, rfl⟩
instance : TG 36 8 (.agg #[(.int .i64 0), (.int .i64 0), (.int .i64 0), (.int .i64 0), (.int .i64 0), (.slice none 0 0), (.slice none 0 0), (.slice none 0 0)]) := ⟨_, _, ty36, rfl⟩
instance : TS 37 .nilFunc := ⟨_, _, ty37, rfl⟩
instance : TG 38 4 (.agg #[(.int .i64 0), (.int .i64 0), (.bool false), (.int .i64 0)]) := ⟨_, _, ty38, rfl⟩
instance : TG 39 4 (.agg #[(.int .i64 0), (.int .i64 0), (.bool false), (.int .i64 0)]) := ⟨_, _, ty39, rfl⟩
instance : TS 40 .nilFunc := ⟨_, _, ty40, rfl⟩
instance : TG 41 4 (.agg #[(.int .i64 0), (.string (ByteArray.mk #[])), (.slice none 0 0), (.int .i64 0)]) := ⟨_, _, ty41, rfl⟩
instance : TG 42 4 (.agg #[(.int .i64 0), (.string (ByteArray.mk #[])), (.slice none 0 0), (.int .i64 0)]) := ⟨_, _, ty42, rfl⟩
instance : TG 43 5 (.agg #[(.int .i64 0), (.string (ByteArray.mk #[])), (.slice none 0 0), (.int .i64 0), (.int .i64 0)]) := ⟨_, _, ty43, rfl⟩
instance : TG 44 5 (.agg #[(.int .i64 0), (.string (ByteArray.mk #[])), (.slice none 0 0), (.int .i64 0), (.int .i64 0)]) := ⟨_, _, ty44, rfl⟩
instance : TS 46 .nilFunc := ⟨_, _, ty46, rfl⟩
instance : TS 47 .nilFunc := ⟨_, _, ty47, rfl⟩
instance : TS 48 .nilFunc := ⟨_, _, ty48, rfl⟩
instance : TS 49 .nilFunc := ⟨_, _, ty49, rfl⟩
instance : TS 50 (.slice none 0 0) := ⟨_, _, ty50, rfl⟩
instance : SL 50 71 4 40 (.agg #[(.int .i64 0), (.string (ByteArray.mk #[])), (.int .i64 0), (.int .i64 0)]) := ⟨⟨_, _, _, ty50⟩, ⟨_, ty71⟩, rfl⟩
instance : TS 51 .nilFunc := ⟨_, _, ty51, rfl⟩
instance : TS 52 .nilFunc := ⟨_, _, ty52, rfl⟩
instance : TS 54 .nilFunc := ⟨_, _, ty54, rfl⟩
instance : TS 55 .nilFunc := ⟨_, _, ty55, rfl⟩
instance : TS 56 .nilFunc := ⟨_, _, ty56, rfl⟩
instance : TS 57 (.slice none 0 0) := ⟨_, _, ty57, rfl⟩
instance : SL 57 9 1 16 (.string (ByteArray.mk #[])) := ⟨⟨_, _, _, ty57⟩, ⟨_, ty9⟩, rfl⟩
instance : TS 58 .nilFunc := ⟨_, _, ty58, rfl⟩
instance : TS 59 .nilFunc := ⟨_, _, ty59, rfl⟩
instance : TS 61 .nilFunc := ⟨_, _, ty61, rfl⟩
instance : TS 62 .nilFunc := ⟨_, _, ty62, rfl⟩
instance : TS 63 .nilFunc := ⟨_, _, ty63, rfl⟩
instance : TS 64 .nilFunc := ⟨_, _, ty64, rfl⟩
instance : TS 65 .nilFunc := ⟨_, _, ty65, rfl⟩
instance : TS 66 .nilFunc := ⟨_, _, ty66, rfl⟩
instance : TS 67 .nilFunc := ⟨_, _, ty67, rfl⟩
instance : TS 68 (.int .u64 0) := ⟨_, _, ty68, rfl⟩
instance : TS 69 .nilFunc := ⟨_, _, ty69, rfl⟩
instance : TG 70 4 (.agg #[(.int .i64 0), (.string (ByteArray.mk #[])), (.int .i64 0), (.int .i64 0)]) := ⟨_, _, ty70, rfl⟩
instance : TG 71 4 (.agg #[(.int .i64 0), (.string (ByteArray.mk #[])), (.int .i64 0), (.int .i64 0)]) := ⟨_, _, ty71, rfl⟩
instance : TS 72 .nilFunc := ⟨_, _, ty72, rfl⟩
instance : TS 73 .nilFunc := ⟨_, _, ty73, rfl⟩
instance : TS 74 .nilFunc := ⟨_, _, ty74, rfl⟩
instance : TS 75 .nilFunc := ⟨_, _, ty75, rfl⟩
instance : TS 76 (.slice none 0 0) := ⟨_, _, ty76, rfl⟩
instance : SL 76 104 1 24 (.slice none 0 0) := ⟨⟨_, _, _, ty76⟩, ⟨_, ty104⟩, rfl⟩
instance : TS 77 (.slice none 0 0) := ⟨_, _, ty77, rfl⟩
instance : SL 77 337 2 16 (.agg #[(.int .i64 0), (.int .i64 0)]) := ⟨⟨_, _, _, ty77⟩, ⟨_, ty337⟩, rfl⟩
instance : TG 78 7 (.agg #[(.int .i64 0), (.int .i64 0), (.int .i64 0), (.int .i64 0), (.int .i64 0), (.slice none 0 0), (.slice none 0 0)]) := ⟨_, _, ty78, rfl⟩
instance : TG 79 7 (.agg #[(.int .i64 0), (.int .i64 0), (.int .i64 0), (.int .i64 0), (.int .i64 0), (.slice none 0 0), (.slice none 0 0)]) := ⟨_, _, ty79, rfl⟩
instance : TS 80 (.slice none 0 0) := ⟨_, _, ty80, rfl⟩
instance : SL 80 93 10 80 (.agg #[(.int .i64 0), (.int .i64 0), (.int .i64 0), (.int .i64 0), (.int .i64 0), (.int .i64 0), (.int .i64 0), (.int .i64 0), (.bool false), (.int .i64 0)]) := ⟨⟨_, _, _, ty80⟩, ⟨_, ty93⟩, rfl⟩
instance : TS 81 .nilFunc := ⟨_, _, ty81, rfl⟩
instance : TS 82 .nilFunc := ⟨_, _, ty82, rfl⟩
instance : TS 83 (.slice none 0 0) := ⟨_, _, ty83, rfl⟩
instance : SL 83 94 10 80 (.agg #[(.int .i64 0), (.int .i64 0), (.int .i64 0), (.int .i64 0), (.int .i64 0), (.int .i64 0), (.int .i64 0), (.int .i64 0), (.bool false), (.int .i64 0)]) := ⟨⟨_, _, _, ty83⟩, ⟨_, ty94⟩, rfl⟩
instance : TS 84 .nilFunc := ⟨_, _, ty84, rfl⟩
instance : TS 85 .nilFunc := ⟨_, _, ty85, rfl⟩
instance : TS 86 .nilFunc := ⟨_, _, ty86, rfl⟩
instance : TS 87 .nilFunc := ⟨_, _, ty87, rfl⟩
instance : TS 88 .nilFunc := ⟨_, _, ty88, rfl⟩
instance : TS 89 .nilFunc := ⟨_, _, ty89, rfl⟩
instance : TS 90 .nilFunc := ⟨_, _, ty90, rfl⟩
instance : TS 91 .nilFunc := ⟨_, _, ty91, rfl⟩
instance : TG 92 10 (.agg #[(.int .i64 0), (.int .i64 0), (.int .i64 0), (.int .i64 0), (.int .i64 0), (.int .i64 0), (.int .i64 0), (.int .i64 0), (.bool false), (.int .i64 0)]) := ⟨_, _, ty92, rfl⟩
instance : TG 93 10 (.agg #[(.int .i64 0), (.int .i64 0), (.int .i64 0), (.int .i64 0), (.int .i64 0), (.int .i64 0), (.int .i64 0), (.int .i64 0), (.bool false), (.int .i64 0)]) := ⟨_, _, ty93, rfl⟩
instance : TG 94 10 (.agg #[(.int .i64 0), (.int .i64 0), (.int .i64 0), (.int .i64 0), (.int .i64 0), (.int .i64 0), (.int .i64 0), (.int .i64 0), (.bool false), (.int .i64 0)]) := ⟨_, _, ty94, rfl⟩
instance : TS 95 .nilFunc := ⟨_, _, ty95, rfl⟩
instance : TS 97 .nilFunc := ⟨_, _, ty97, rfl⟩
instance : TG 98 6 (.agg #[(.int .i64 0), (.string (ByteArray.mk #[])), (.string (ByteArray.mk #[])), (.int .i64 0), (.int .i64 0), (.int .i64 0)]) := ⟨_, _, ty98, rfl⟩
instance : TG 99 6 (.agg #[(.int .i64 0), (.string (ByteArray.mk #[])), (.string (ByteArray.mk #[])), (.int .i64 0), (.int .i64 0), (.int .i64 0)]) := ⟨_, _, ty99, rfl⟩
instance : TG 100 7 (.agg #[(.int .i64 0), (.string (ByteArray.mk #[])), (.string (ByteArray.mk #[])), (.int .i64 0), (.int .i64 0), (.int .i64 0), (.int .i64 0)]) := ⟨_, _, ty100, rfl⟩
instance : TG 101 7 (.agg #[(.int .i64 0), (.string (ByteArray.mk #[])), (.string (ByteArray.mk #[])), (.int .i64 0), (.int .i64 0), (.int .i64 0), (.int .i64 0)]) := ⟨_, _, ty101, rfl⟩
instance : TG 102 2 (.agg #[(.int .i64 0), (.int .i64 0)]) := ⟨_, _, ty102, rfl⟩
instance : TG 103 2 (.agg #[(.int .i64 0), (.int .i64 0)]) := ⟨_, _, ty103, rfl⟩
instance : TS 104 (.slice none 0 0) := ⟨_, _, ty104, rfl⟩
instance : SL 104 42 4 56 (.agg #[(.int .i64 0), (.string (ByteArray.mk #[])), (.slice none 0 0), (.int .i64 0)]) := ⟨⟨_, _, _, ty104⟩, ⟨_, ty42⟩, rfl⟩
instance : TS 105 .nilFunc := ⟨_, _, ty105, rfl⟩
instance : TS 106 .nilFunc := ⟨_, _, ty106, rfl⟩
instance : TS 107 (.slice none 0 0) := ⟨_, _, ty107, rfl⟩
instance : SL 107 113 2 32 (.agg #[(.slice none 0 0), (.int .i64 0)]) := ⟨⟨_, _, _, ty107⟩, ⟨_, ty113⟩, rfl⟩
instance : TG 108 7 (.agg #[(.int .i64 0), (.int .i64 0), (.int .i64 0), (.int .i64 0), (.int .i64 0), (.slice none 0 0), (.slice none 0 0)]) := ⟨_, _, ty108, rfl⟩
instance : TG 109 7 (.agg #[(.int .i64 0), (.int .i64 0), (.int .i64 0), (.int .i64 0), (.int .i64 0), (.slice none 0 0), (.slice none 0 0)]) := ⟨_, _, ty109, rfl⟩
instance : TG 110 1 (.agg #[(.slice none 0 0)]) := ⟨_, _, ty110, rfl⟩
instance : TG 111 1 (.agg #[(.slice none 0 0)]) := ⟨_, _, ty111, rfl⟩
instance : TG 112 2 (.agg #[(.slice none 0 0), (.int .i64 0)]) := ⟨_, _, ty112, rfl⟩
instance : TG 113 2 (.agg #[(.slice none 0 0), (.int .i64 0)]) := ⟨_, _, ty113, rfl⟩
instance : TS 114 .nilFunc := ⟨_, _, ty114, rfl⟩
instance : TS 115 .nilFunc := ⟨_, _, ty115, rfl⟩
instance : TS 116 .nilFunc := ⟨_, _, ty116, rfl⟩
instance : TG 117 4 (.agg #[.nilFunc, .nilFunc, .nilFunc, .nilFunc]) := ⟨_, _, ty117, rfl⟩
instance : TG 118 4 (.agg #[(.string (ByteArray.mk #[])), (.int .i64 0), (.bool false), (.int .i64 0)]) := ⟨_, _, ty118, rfl⟩
instance : TG 119 4 (.agg #[(.string (ByteArray.mk #[])), (.int .i64 0), (.bool false), (.int .i64 0)]) := ⟨_, _, ty119, rfl⟩
instance : TS 120 .nilFunc := ⟨_, _, ty120, rfl⟩
instance : TS 121 .nilFunc := ⟨_, _, ty121, rfl⟩
instance : TS 123 .nilFunc := ⟨_, _, ty123, rfl⟩
instance : TS 124 .nilFunc := ⟨_, _, ty124, rfl⟩
instance : TS 125 .nilFunc := ⟨_, _, ty125, rfl⟩
instance : TS 126 .nilFunc := ⟨_, _, ty126, rfl⟩
instance : TS 128 .nilFunc := ⟨_, _, ty128, rfl⟩
instance : TS 130 .nilFunc := ⟨_, _, ty130, rfl⟩
instance : TS 132 .nilFunc := ⟨_, _, ty132, rfl⟩
instance : TS 133 (.int .u64 0) := ⟨_, _, ty133, rfl⟩
instance : TS 134 .nilFunc := ⟨_, _, ty134, rfl⟩
instance : TS 135 .nilFunc := ⟨_, _, ty135, rfl⟩
instance : TS 136 (.slice none 0 0) := ⟨_, _, ty136, rfl⟩
instance : SL 136 71 4 40 (.agg #[(.int .i64 0), (.string (ByteArray.mk #[])), (.int .i64 0), (.int .i64 0)]) := ⟨⟨_, _, _, ty136⟩, ⟨_, ty71⟩, rfl⟩
instance : TS 137 .nilFunc := ⟨_, _, ty137, rfl⟩
instance : TS 138 (.map none) := ⟨_, _, ty138, rfl⟩
instance : TS 139 .nilFunc := ⟨_, _, ty139, rfl⟩
instance : TG 140 2 (.agg #[(.int .i64 0), (.int .i64 0)]) := ⟨_, _, ty140, rfl⟩
instance : TS 141 .nilFunc := ⟨_, _, ty141, rfl⟩
instance : TS 142 .nilFunc := ⟨_, _, ty142, rfl⟩
instance : TS 143 .nilFunc := ⟨_, _, ty143, rfl⟩
instance : TS 144 .nilFunc := ⟨_, _, ty144, rfl⟩
instance : TS 145 .nilFunc := ⟨_, _, ty145, rfl⟩
instance : TS 146 (.slice none 0 0) := ⟨_, _, ty146, rfl⟩
instance : SL 146 199 2 16 (.agg #[(.int .u64 0), (.int .i64 0)]) := ⟨⟨_, _, _, ty146⟩, ⟨_, ty199⟩, rfl⟩
instance : TS 147 .nilFunc := ⟨_, _, ty147, rfl⟩
instance : TS 148 .nilFunc := ⟨_, _, ty148, rfl⟩
instance : TS 149 .nilFunc := ⟨_, _, ty149, rfl⟩
instance : TS 150 .nilFunc := ⟨_, _, ty150, rfl⟩
instance : TS 151 .nilFunc := ⟨_, _, ty151, rfl⟩
instance : TS 152 .nilFunc := ⟨_, _, ty152, rfl⟩
instance : TS 153 .nilFunc := ⟨_, _, ty153, rfl⟩
instance : TS 154 .nilFunc := ⟨_, _, ty154, rfl⟩
instance : TS 155 .nilFunc := ⟨_, _, ty155, rfl⟩
instance : TS 156 .nilFunc := ⟨_, _, ty156, rfl⟩
instance : TS 157 .nilFunc := ⟨_, _, ty157, rfl⟩
instance : TS 158 .nilFunc := ⟨_, _, ty158, rfl⟩
instance : TS 159 .nilFunc := ⟨_, _, ty159, rfl⟩
instance : TG 160 3 (.agg #[(.int .i64 0), (.int .i64 0), (.int .i64 0)]) := ⟨_, _, ty160, rfl⟩
instance : TG 161 3 (.agg #[(.int .i64 0), (.int .i64 0), (.int .i64 0)]) := ⟨_, _, ty161, rfl⟩
instance : TS 162 .nilFunc := ⟨_, _, ty162, rfl⟩
instance : TG 163 3 (.agg #[(.string (ByteArray.mk #[])), (.string (ByteArray.mk #[])), (.int .i64 0)]) := ⟨_, _, ty163, rfl⟩
instance : TG 164 3 (.agg #[(.string (ByteArray.mk #[])), (.string (ByteArray.mk #[])), (.int .i64 0)]) := ⟨_, _, ty164, rfl⟩
instance : TS 165 .nilFunc := ⟨_, _, ty165, rfl⟩
instance : TG 166 3 (.agg #[(.string (ByteArray.mk #[])), (.string (ByteArray.mk #[])), (.int .i64 0)]) := ⟨_, _, ty166, rfl⟩
instance : TS 168 .nilFunc := ⟨_, _, ty168, rfl⟩
instance : TS 170 .nilFunc := ⟨_, _, ty170, rfl⟩
instance : TS 171 (.pointer none) := ⟨_, _, ty171, rfl⟩
instance : TS 172 .nilFunc := ⟨_, _, ty172, rfl⟩
instance : TS 173 .nilFunc := ⟨_, _, ty173, rfl⟩
instance : TS 174 .nilFunc := ⟨_, _, ty174, rfl⟩
instance : TS 175 .nilFunc := ⟨_, _, ty175, rfl⟩
instance : TS 176 .nilFunc := ⟨_, _, ty176, rfl⟩
instance : TS 177 .nilFunc := ⟨_, _, ty177, rfl⟩
instance : TS 178 .nilFunc := ⟨_, _, ty178, rfl⟩
instance : TS 179 .nilFunc := ⟨_, _, ty179, rfl⟩
instance : TS 180 .nilFunc := ⟨_, _, ty180, rfl⟩
instance : TS 181 (.int .i64 0) := ⟨_, _, ty181, rfl⟩
instance : TS 182 .nilFunc := ⟨_, _, ty182, rfl⟩
instance : TS 183 .nilFunc := ⟨_, _, ty183, rfl⟩
instance : TS 184 .nilFunc := ⟨_, _, ty184, rfl⟩
instance : TS 185 (.slice none 0 0) := ⟨_, _, ty185, rfl⟩
instance : SL 185 140 2 16 (.agg #[(.int .i64 0), (.int .i64 0)]) := ⟨⟨_, _, _, ty185⟩, ⟨_, ty140⟩, rfl⟩
instance : TS 186 .nilFunc := ⟨_, _, ty186, rfl⟩
instance : TS 187 .nilFunc := ⟨_, _, ty187, rfl⟩
instance : TS 188 (.slice none 0 0) := ⟨_, _, ty188, rfl⟩
instance : SL 188 199 2 16 (.agg #[(.int .u64 0), (.int .i64 0)]) := ⟨⟨_, _, _, ty188⟩, ⟨_, ty199⟩, rfl⟩
instance : TS 189 .nilFunc := ⟨_, _, ty189, rfl⟩
instance : TS 190 (.slice none 0 0) := ⟨_, _, ty190, rfl⟩
instance : SL 190 193 2 16 (.agg #[(.int .u64 0), (.int .i64 0)]) := ⟨⟨_, _, _, ty190⟩, ⟨_, ty193⟩, rfl⟩
instance : TS 191 .nilFunc := ⟨_, _, ty191, rfl⟩
instance : TG 192 2 (.agg #[(.int .u64 0), (.int .i64 0)]) := ⟨_, _, ty192, rfl⟩
instance : TG 193 2 (.agg #[(.int .u64 0), (.int .i64 0)]) := ⟨_, _, ty193, rfl⟩
instance : TS 194 .nilFunc := ⟨_, _, ty194, rfl⟩
instance : TS 195 .nilFunc := ⟨_, _, ty195, rfl⟩
instance : TS 196 .nilFunc := ⟨_, _, ty196, rfl⟩
instance : TS 197 .nilFunc := ⟨_, _, ty197, rfl⟩
instance : TS 198 .nilFunc := ⟨_, _, ty198, rfl⟩
instance : TG 199 2 (.agg #[(.int .u64 0), (.int .i64 0)]) := ⟨_, _, ty199, rfl⟩
instance : TS 200 .nilFunc := ⟨_, _, ty200, rfl⟩
instance : TS 201 .nilFunc := ⟨_, _, ty201, rfl⟩
instance : TS 202 (.int .u64 0) := ⟨_, _, ty202, rfl⟩
instance : TS 203 .nilFunc := ⟨_, _, ty203, rfl⟩
instance : TS 204 .nilFunc := ⟨_, _, ty204, rfl⟩
instance : TS 205 .nilFunc := ⟨_, _, ty205, rfl⟩
instance : TS 206 .nilFunc := ⟨_, _, ty206, rfl⟩
instance : TS 207 .nilFunc := ⟨_, _, ty207, rfl⟩
instance : TS 208 .nilFunc := ⟨_, _, ty208, rfl⟩
instance : TS 209 .nilFunc := ⟨_, _, ty209, rfl⟩
instance : TS 210 .nilFunc := ⟨_, _, ty210, rfl⟩
instance : TS 211 .nilIface := ⟨_, _, ty211, rfl⟩
instance : TS 212 .nilIface := ⟨_, _, ty212, rfl⟩
instance : TS 213 (.map none) := ⟨_, _, ty213, rfl⟩
instance : TS 214 .nilFunc := ⟨_, _, ty214, rfl⟩
instance : TS 215 .nilFunc := ⟨_, _, ty215, rfl⟩
instance : TS 216 .nilFunc := ⟨_, _, ty216, rfl⟩
instance : TS 217 (.pointer none) := ⟨_, _, ty217, rfl⟩
instance : TS 218 (.slice none 0 0) := ⟨_, _, ty218, rfl⟩
instance : SL 218 5 1 1 (.int .u8 0) := ⟨⟨_, _, _, ty218⟩, ⟨_, ty5⟩, rfl⟩
instance : TG 219 2 (.agg #[(.pointer none), (.slice none 0 0)]) := ⟨_, _, ty219, rfl⟩
instance : TG 220 2 (.agg #[(.pointer none), (.slice none 0 0)]) := ⟨_, _, ty220, rfl⟩
instance : TG 221 2 (.agg #[(.pointer none), (.slice none 0 0)]) := ⟨_, _, ty221, rfl⟩
instance : TG 222 2 (.agg #[(.pointer none), (.slice none 0 0)]) := ⟨_, _, ty222, rfl⟩
instance : TS 223 .nilFunc := ⟨_, _, ty223, rfl⟩
instance : TS 224 .nilIface := ⟨_, _, ty224, rfl⟩
instance : TS 225 .nilIface := ⟨_, _, ty225, rfl⟩
instance : TS 227 .nilFunc := ⟨_, _, ty227, rfl⟩
instance : TS 228 .nilFunc := ⟨_, _, ty228, rfl⟩
instance : TS 229 .nilFunc := ⟨_, _, ty229, rfl⟩
instance : TS 230 .nilFunc := ⟨_, _, ty230, rfl⟩
instance : TS 231 .nilFunc := ⟨_, _, ty231, rfl⟩
instance : TS 233 .nilFunc := ⟨_, _, ty233, rfl⟩
instance : TS 235 .nilFunc := ⟨_, _, ty235, rfl⟩
instance : TS 236 .nilFunc := ⟨_, _, ty236, rfl⟩
instance : TG 237 38 (.agg #[(.int .u8 0), (.int .u8 0), (.int .u8 0), (.int .u8 0), (.int .u8 0), (.int .u8 0), (.int .u8 0), (.int .u8 0), (.int .u8 0), (.int .u8 0), (.int .u8 0), (.int .u8 0), (.int .u8 0), (.int .u8 0), (.int .u8 0), (.int .u8 0), (.int .u8 0), (.int .u8 0), (.int .u8 0), (.int .u8 0), (.int .u8 0), (.int .u8 0), (.int .u8 0), (.int .u8 0), (.int .u8 0), (.int .u8 0), (.int .u8 0), (.int .u8 0), (.int .u8 0), (.int .u8 0), (.int .u8 0), (.int .u8 0), (.int .u8 0), (.int .u8 0), (.int .u8 0), (.int .u8 0), (.int .u8 0), (.int .u8 0)]) := ⟨_, _, ty237, rfl⟩
instance : TS 238 (.pointer none) := ⟨_, _, ty238, rfl⟩
instance : TG 239 5 (.agg #[(.string (ByteArray.mk #[])), (.string (ByteArray.mk #[])), (.string (ByteArray.mk #[])), (.int .i64 0), (.int .i64 0)]) := ⟨_, _, ty239, rfl⟩
instance : TG 240 5 (.agg #[(.string (ByteArray.mk #[])), (.string (ByteArray.mk #[])), (.string (ByteArray.mk #[])), (.int .i64 0), (.int .i64 0)]) := ⟨_, _, ty240, rfl⟩
instance : TS 241 .nilFunc := ⟨_, _, ty241, rfl⟩
instance : TG 242 3 (.agg #[(.int .i64 0), (.int .i64 0), (.int .i64 0)]) := ⟨_, _, ty242, rfl⟩
instance : TS 244 .nilFunc := ⟨_, _, ty244, rfl⟩
instance : TS 245 .nilFunc := ⟨_, _, ty245, rfl⟩
instance : TS 246 .nilFunc := ⟨_, _, ty246, rfl⟩
instance : TS 247 .nilFunc := ⟨_, _, ty247, rfl⟩
instance : TS 248 .nilFunc := ⟨_, _, ty248, rfl⟩
instance : TS 249 .nilFunc := ⟨_, _, ty249, rfl⟩
instance : TS 250 .nilFunc := ⟨_, _, ty250, rfl⟩
instance : TS 251 .nilFunc := ⟨_, _, ty251, rfl⟩
instance : TS 252 .nilFunc := ⟨_, _, ty252, rfl⟩
instance : TS 253 .nilFunc := ⟨_, _, ty253, rfl⟩
instance : TS 254 .nilFunc := ⟨_, _, ty254, rfl⟩
instance : TS 255 .nilFunc := ⟨_, _, ty255, rfl⟩
instance : TS 256 .nilFunc := ⟨_, _, ty256, rfl⟩
instance : TS 257 .nilFunc := ⟨_, _, ty257, rfl⟩
instance : TS 258 .nilFunc := ⟨_, _, ty258, rfl⟩
instance : TS 259 .nilFunc := ⟨_, _, ty259, rfl⟩
instance : TS 260 .nilFunc := ⟨_, _, ty260, rfl⟩
instance : TS 261 .nilFunc := ⟨_, _, ty261, rfl⟩
instance : TG 262 0 (.agg #[]) := ⟨_, _, ty262, rfl⟩
instance : TG 263 0 (.agg #[]) := ⟨_, _, ty263, rfl⟩
instance : TG 264 0 (.agg #[]) := ⟨_, _, ty264, rfl⟩
instance : TS 265 (.pointer none) := ⟨_, _, ty265, rfl⟩
instance : TS 266 (.pointer none) := ⟨_, _, ty266, rfl⟩
instance : TS 267 .nilFunc := ⟨_, _, ty267, rfl⟩
instance : TS 268 .nilFunc := ⟨_, _, ty268, rfl⟩
instance : TS 269 .nilFunc := ⟨_, _, ty269, rfl⟩
instance : TS 270 .nilFunc := ⟨_, _, ty270, rfl⟩
instance : TS 271 .nilFunc := ⟨_, _, ty271, rfl⟩
instance : TS 272 .nilFunc := ⟨_, _, ty272, rfl⟩
instance : TS 273 .nilFunc := ⟨_, _, ty273, rfl⟩
instance : TS 274 .nilFunc := ⟨_, _, ty274, rfl⟩
instance : TS 275 .nilFunc := ⟨_, _, ty275, rfl⟩
instance : TS 277 .nilFunc := ⟨_, _, ty277, rfl⟩
instance : TS 279 .nilFunc := ⟨_, _, ty279, rfl⟩
instance : TG 280 3 (.agg #[(.string (ByteArray.mk #[])), (.string (ByteArray.mk #[])), (.int .i64 0)]) := ⟨_, _, ty280, rfl⟩
instance : TS 282 .nilFunc := ⟨_, _, ty282, rfl⟩
instance : TG 283 3 (.agg #[(.string (ByteArray.mk #[])), (.string (ByteArray.mk #[])), (.int .i64 0)]) := ⟨_, _, ty283, rfl⟩
instance : TS 285 .nilFunc := ⟨_, _, ty285, rfl⟩
instance : TS 286 .nilFunc := ⟨_, _, ty286, rfl⟩
instance : TS 287 .nilFunc := ⟨_, _, ty287, rfl⟩
instance : TS 288 .nilFunc := ⟨_, _, ty288, rfl⟩
instance : TS 289 .nilFunc := ⟨_, _, ty289, rfl⟩
instance : TS 290 .nilFunc := ⟨_, _, ty290, rfl⟩
instance : TS 291 (.pointer none) := ⟨_, _, ty291, rfl⟩
instance : TS 292 .nilFunc := ⟨_, _, ty292, rfl⟩
instance : TS 293 .nilFunc := ⟨_, _, ty293, rfl⟩
instance : TS 294 .nilFunc := ⟨_, _, ty294, rfl⟩
instance : TS 295 .nilFunc := ⟨_, _, ty295, rfl⟩
instance : TS 296 .nilFunc := ⟨_, _, ty296, rfl⟩
instance : TS 298 .nilFunc := ⟨_, _, ty298, rfl⟩
instance : TG 299 2 (.agg #[.nilFunc, (.int .i64 0)]) := ⟨_, _, ty299, rfl⟩
instance : TG 300 2 (.agg #[.nilFunc, (.int .i64 0)]) := ⟨_, _, ty300, rfl⟩
instance : TS 301 .nilFunc := ⟨_, _, ty301, rfl⟩
instance : TS 303 .nilFunc := ⟨_, _, ty303, rfl⟩
instance : TS 304 .nilFunc := ⟨_, _, ty304, rfl⟩
instance : TS 305 .nilFunc := ⟨_, _, ty305, rfl⟩
instance : TS 306 (.int .i64 0) := ⟨_, _, ty306, rfl⟩
instance : TS 308 .nilFunc := ⟨_, _, ty308, rfl⟩
instance : TS 309 .nilFunc := ⟨_, _, ty309, rfl⟩
instance : TS 310 .nilFunc := ⟨_, _, ty310, rfl⟩
instance : TS 311 .nilFunc := ⟨_, _, ty311, rfl⟩
instance : TS 312 .nilFunc := ⟨_, _, ty312, rfl⟩
instance : TS 313 (.int .u32 0) := ⟨_, _, ty313, rfl⟩
instance : TS 314 (.slice none 0 0) := ⟨_, _, ty314, rfl⟩
instance : SL 314 300 2 16 (.agg #[.nilFunc, (.int .i64 0)]) := ⟨⟨_, _, _, ty314⟩, ⟨_, ty300⟩, rfl⟩
instance : TS 315 (.int .u64 0) := ⟨_, _, ty315, rfl⟩
instance : TS 316 .nilFunc := ⟨_, _, ty316, rfl⟩
instance : TS 317 .nilFunc := ⟨_, _, ty317, rfl⟩
instance : TS 318 .nilFunc := ⟨_, _, ty318, rfl⟩
instance : TS 319 (.pointer none) := ⟨_, _, ty319, rfl⟩
instance : TS 320 .nilFunc := ⟨_, _, ty320, rfl⟩
instance : TS 321 (.pointer none) := ⟨_, _, ty321, rfl⟩
instance : TS 323 .nilFunc := ⟨_, _, ty323, rfl⟩
instance : TG 324 4 (.agg #[(.pointer none), (.pointer none), (.pointer none), (.string (ByteArray.mk #[]))]) := ⟨_, _, ty324, rfl⟩
instance : TG 325 4 (.agg #[(.pointer none), (.pointer none), (.pointer none), (.string (ByteArray.mk #[]))]) := ⟨_, _, ty325, rfl⟩
instance : TG 326 0 (.agg #[]) := ⟨_, _, ty326, rfl⟩
instance : TG 327 0 (.agg #[]) := ⟨_, _, ty327, rfl⟩
instance : TG 328 0 (.agg #[]) := ⟨_, _, ty328, rfl⟩
instance : TS 329 (.int .u8 0) := ⟨_, _, ty329, rfl⟩
instance : TS 330 (.int .u8 0) := ⟨_, _, ty330, rfl⟩
instance : TS 331 .nilFunc := ⟨_, _, ty331, rfl⟩
instance : TS 332 (.int .i32 0) := ⟨_, _, ty332, rfl⟩
instance : TS 333 (.int .i32 0) := ⟨_, _, ty333, rfl⟩
instance : TG 334 11 (.agg #[(.int .u64 0), (.int .u64 0), (.int .u32 0), (.int .u8 0), (.int .u8 0), (.int .u8 0), (.int .u8 0), .nilFunc, (.pointer none), (.int .i32 0), (.int .i32 0)]) := ⟨_, _, ty334, rfl⟩
instance : TG 335 11 (.agg #[(.int .u64 0), (.int .u64 0), (.int .u32 0), (.int .u8 0), (.int .u8 0), (.int .u8 0), (.int .u8 0), .nilFunc, (.pointer none), (.int .i32 0), (.int .i32 0)]) := ⟨_, _, ty335, rfl⟩
instance : TG 336 2 (.agg #[(.int .i64 0), (.int .i64 0)]) := ⟨_, _, ty336, rfl⟩
instance : TG 337 2 (.agg #[(.int .i64 0), (.int .i64 0)]) := ⟨_, _, ty337, rfl⟩
instance : TS 338 .nilFunc := ⟨_, _, ty338, rfl⟩
instance : TS 340 .nilFunc := ⟨_, _, ty340, rfl⟩
instance : TS 341 .nilFunc := ⟨_, _, ty341, rfl⟩
instance : TS 342 .nilFunc := ⟨_, _, ty342, rfl⟩
instance : TS 344 .nilFunc := ⟨_, _, ty344, rfl⟩
instance : TS 346 .nilFunc := ⟨_, _, ty346, rfl⟩
instance : TS 347 .nilFunc := ⟨_, _, ty347, rfl⟩
@[simp] theorem f_eqln_217 (a : Option Addr) (x y : Operand) (K : Value → WP) : rds PR (eqS .eql 217 x y (.pointer a) (.pointer none)) K = K (.bool a.isNone) := funext fun w => i_eqln_217 a x y K w
@[simp] theorem f_eqln_27 (a : Option Addr) (x y : Operand) (K : Value → WP) : rds PR (eqS .eql 27 x y (.pointer a) (.pointer none)) K = K (.bool a.isNone) := funext fun w => i_eqln_27 a x y K w
@[simp] theorem f_eql_39 (a0 b0 : Int) (a1 b1 : Int) (a2 b2 : Bool) (a3 b3 : Int) (x y : Operand) (K : Value → WP) : rds PR (eqS .eql 39 x y (.agg #[.int .i64 a0, .int .i64 a1, .bool a2, .int .i64 a3]) (.agg #[.int .i64 b0, .int .i64 b1, .bool b2, .int .i64 b3])) K = K (.bool (decide (a0 = b0) && (decide (a1 = b1) && ((a2 == b2) && (decide (a3 = b3) && true))))) := funext fun w => i_eql_39 a0 b0 a1 b1 a2 b2 a3 b3 x y K w
@[simp] theorem f_neqn_217 (a : Option Addr) (x y : Operand) (K : Value → WP) : rds PR (eqS .neq 217 x y (.pointer a) (.pointer none)) K = K (.bool (!a.isNone)) := funext fun w => i_neqn_217 a x y K w
@[simp] theorem f_neq_71 (a0 b0 : Int) (a1 b1 : ByteArray) (a2 b2 : Int) (a3 b3 : Int) (x y : Operand) (K : Value → WP) : rds PR (eqS .neq 71 x y (.agg #[.int .i64 a0, .string a1, .int .i64 a2, .int .i64 a3]) (.agg #[.int .i64 b0, .string b1, .int .i64 b2, .int .i64 b3])) K = K (.bool !(decide (a0 = b0) && ((a1 == b1) && (decide (a2 = b2) && (decide (a3 = b3) && true))))) := funext fun w => i_neq_71 a0 b0 a1 b1 a2 b2 a3 b3 x y K w
end Go.Proofs.YtggakcpabomliaaGreat
namespace Go.Proofs.YtggakcpabomliaaGreat
open Go
def lane (n i : Nat) : List Value := [.int .i64 (i : Int), .int .u64 (8 * ((n : Int) - 1 - i))]
abbrev lanesF (b : Nat) : Value := .func (.func 203) #[] #[.pointer (some ⟨b, 0, none⟩)]
theorem lanes_ok (w : World) (n : Int) : Fn PR NoX 184 #[.int .i64 n] w (Rn [] w (fun b v => v = lanesF b) fun b => [.pt b (.cells #[.int .i64 n] 3)]) := by
  refine mk_octet_lanes (TW.go (κ := false) (S := []) ?_)
  unfold sh_octet_lanes
  (have hQq := trivial; repeat ((first | clear hQq | (with_reducible first | refine T_drw ?_ | refine T_bx fun _ => ?_ | refine s_al fun _ => ?_)); (try simp (disch := first | omega | assumption | ((repeat (first | exact mem_h | exact Up.here | apply mem_t | apply Up.there)); first | done | fail) | (simp; first | done | omega | fail)) [])))
  rename_i b
  exact T_retn b rfl (by simp)
theorem lanes_it (b : Nat) {n : Nat} (hn : n ≤ 8) : IterT (lanesF b) [.pt b (.cells #[.int .i64 (n : Int)] 3)] (fun _ _ => True) ((List.range n).map (lane n)) := by
  refine ⟨_, _, _, rfl, fun l J E hJ hE stJ stE hy w0 h0 => ?_⟩
  refine ce_octet_lanes_c1 (mk_octet_lanes_c1 (TW.at (κ := true) ?_ (hJ _ _ _ h0).1))
  unfold sh_octet_lanes_c1
  (have hQq := trivial; repeat ((first | clear hQq | (with_reducible first | refine T_drw ?_ | refine T_bx fun _ => ?_ | refine s_al fun _ => ?_)); (try simp (disch := first | omega | assumption | ((repeat (first | exact mem_h | exact Up.here | apply mem_t | apply Up.there)); first | done | fail) | (simp; first | done | omega | fail)) [])))
  refine T_forJ n (fun i => i) (fun _ => _) hJ stJ h0 fun i a hi hJi _ L hL => ?_
  by_cases hlt : i < n
  · (have hQq := trivial; repeat ((first | clear hQq | (with_reducible first | refine T_drw ?_ | refine T_bx fun _ => ?_ | refine s_al fun _ => ?_)); (try simp (disch := first | omega | assumption | ((repeat (first | exact mem_h | exact Up.here | apply mem_t | apply Up.there)); first | done | fail) | (simp; first | done | omega | fail)) [hlt])))
    refine T_yie hJ hE stJ hy hJi (by simpa using hlt) (by simp [lane]) (fun w3 h => ?_) (fun w3 h => ?_)
    · (have hQq := trivial; repeat ((first | clear hQq | (with_reducible first | refine T_drw ?_ | refine T_bx fun _ => ?_ | refine s_al fun _ => ?_)); (try simp (disch := first | omega | assumption | ((repeat (first | exact mem_h | exact Up.here | apply mem_t | apply Up.there)); first | done | fail) | (simp; first | done | omega | fail)) [])))
      exact fun w' hw' => hL hlt w' (stJ _ _ _ _ _ h hw')
    · (have hQq := trivial; repeat ((first | clear hQq | (with_reducible first | refine T_drw ?_ | refine T_bx fun _ => ?_ | refine s_al fun _ => ?_)); (try simp (disch := first | omega | assumption | ((repeat (first | exact mem_h | exact Up.here | apply mem_t | apply Up.there)); first | done | fail) | (simp; first | done | omega | fail)) [])))
      exact T_endE stE h
  · obtain rfl : i = n := by omega
    (have hQq := trivial; repeat ((first | clear hQq | (with_reducible first | refine T_drw ?_ | refine T_bx fun _ => ?_ | refine s_al fun _ => ?_)); (try simp (disch := first | omega | assumption | ((repeat (first | exact mem_h | exact Up.here | apply mem_t | apply Up.there)); first | done | fail) | (simp; first | done | omega | fail)) [])))
    exact T_endJ stJ (by simpa using hJi)
/-- the number that n bytes are, the first one the greatest -/
def byteAt (s : ByteArray) (i : Nat) : Nat := (s.data.getD i 0).toNat
def beV (s : ByteArray) (a : Nat) : Nat → Nat
  | 0 => 0
  | i + 1 => beV s a i * 256 + byteAt s (a + i)
theorem byteAt_lt (s : ByteArray) (i : Nat) : byteAt s i < 256 := (s.data.getD i 0).toNat_lt
theorem beV_lt (s : ByteArray) (a i : Nat) : beV s a i < 256 ^ i := by
  induction i with
  | zero => simp [beV]
  | succ i ih =>
    have := byteAt_lt s (a + i)
    simp only [beV, Nat.pow_succ]
    omega
theorem byte_get {s : ByteArray} {i : Nat} (h : i < s.size) : ∃ b : UInt8, s[i]? = some b ∧ b.toNat = byteAt s i := by
  refine ⟨s[i], by simp [h], ?_⟩
  have h' : i < s.data.size := h
  have e : s.data.getD i 0 = s[i] := by rw [Array.getD_eq_getD_getElem?, Array.getElem?_eq_getElem h']; rfl
  rw [byteAt, e]
def getOk (s : ByteArray) (a n : Int) : Bool := decide (1 ≤ n ∧ n ≤ 8 ∧ 0 ≤ a ∧ a ≤ s.size - n)
/-- Get: the number of its bytes, if they are there -/
def getV (s : ByteArray) (a n : Int) : Int := if getOk s a n = true then (beV s a.toNat n.toNat : Nat) else 0
theorem Get_ok (w : World) (s : ByteArray) (hs : s.size < 2 ^ 62) (a n : Int) :
    Fn PR NoX 192 #[.string s, .int .i64 a, .int .i64 n] w (fun v w' => v = .tuple #[.int .u64 (getV s a n), .bool (getOk s a n)] ∧ But [] w w') := by
  refine Fn.pure (mk_octet_Get (TW.go (κ := false) (S := []) ?_))
  unfold sh_octet_Get
  by_cases hok : getOk s a n = true
  case neg =>
    have hv : getV s a n = 0 := if_neg hok
    have hok' : getOk s a n = false := by simpa using hok
    rw [hv, hok']
    have hc : n < 1 ∨ 8 < n ∨ a < 0 ∨ (s.size : Int) - n < a := by
      simp only [getOk, decide_eq_true_eq] at hok; omega
    by_cases h1 : n < 1
    · (have hQq := trivial; repeat ((first | clear hQq | (with_reducible first | refine T_drw ?_ | refine T_bx fun _ => ?_ | refine s_al fun _ => ?_)); (try simp (disch := first | omega | assumption | ((repeat (first | exact mem_h | exact Up.here | apply mem_t | apply Up.there)); first | done | fail) | (simp; first | done | omega | fail)) [h1]))); exact T_ret rfl
    by_cases h2 : 8 < n
    · (have hQq := trivial; repeat ((first | clear hQq | (with_reducible first | refine T_drw ?_ | refine T_bx fun _ => ?_ | refine s_al fun _ => ?_)); (try simp (disch := first | omega | assumption | ((repeat (first | exact mem_h | exact Up.here | apply mem_t | apply Up.there)); first | done | fail) | (simp; first | done | omega | fail)) [h1, h2]))); exact T_ret rfl
    by_cases h3 : a < 0
    · (have hQq := trivial; repeat ((first | clear hQq | (with_reducible first | refine T_drw ?_ | refine T_bx fun _ => ?_ | refine s_al fun _ => ?_)); (try simp (disch := first | omega | assumption | ((repeat (first | exact mem_h | exact Up.here | apply mem_t | apply Up.there)); first | done | fail) | (simp; first | done | omega | fail)) [h1, h2, h3]))); exact T_ret rfl
    have h4 : (s.size : Int) - n < a := by omega
    (have hQq := trivial; repeat ((first | clear hQq | (with_reducible first | refine T_drw ?_ | refine T_bx fun _ => ?_ | refine s_al fun _ => ?_)); (try simp (disch := first | omega | assumption | ((repeat (first | exact mem_h | exact Up.here | apply mem_t | apply Up.there)); first | done | fail) | (simp; first | done | omega | fail)) [h1, h2, h3, h4]))); exact T_ret rfl
  have hv : getV s a n = (beV s a.toNat n.toNat : Nat) := if_pos hok
  rw [hv, hok]
  simp only [getOk, decide_eq_true_eq] at hok
  obtain ⟨m, rfl⟩ : ∃ m : Nat, n = m := ⟨n.toNat, by omega⟩
  obtain ⟨k, rfl⟩ : ∃ k : Nat, a = k := ⟨a.toNat, by omega⟩
  have h1 : ¬ (m : Int) < 1 := by omega
  have h2 : ¬ 8 < (m : Int) := by omega
  have h4 : ¬ (s.size : Int) - m < k := by omega
  have h5 : ¬ (k : Int) < 0 := by omega
  (have hQq := trivial; repeat ((first | clear hQq | (with_reducible first | refine T_drw ?_ | refine T_bx fun _ => ?_ | refine s_al fun _ => ?_)); (try simp (disch := first | omega | assumption | ((repeat (first | exact mem_h | exact Up.here | apply mem_t | apply Up.there)); first | done | fail) | (simp; first | done | omega | fail)) [h1, h2, h4, h5])))
  rename_i bs ba bv
  refine T_cn ent_octet_lanes (fun w' _ => lanes_ok w' m) ?_
  rintro b v rfl
  refine T_rng (lanes_it b (n := m) (by omega)) (by simp [lane]) (fun _ (_ : Unit) => True) (fun i _ => [.pt bv (.cells #[.int .u64 ((beV s k i * 256 ^ (m - i) : Nat) : Int)] 68), .pt ba (.cells #[.int .i64 (k : Int)] 3), .pt bs (.cells #[.string s] 9)])
    (fun _ (_ : Unit) => False) (fun _ => []) () trivial ?_ ?_ ?_ ?_ (by simp [beV])
  · intros; trivial
  · rintro i hi _ F _ K' hK _
    have hi' : i < m := by simpa using hi
    obtain ⟨by0, hb0, hb1⟩ := byte_get (s := s) (i := k + i) (by omega)
    have hidx : ((k : Int) + i).toNat = k + i := by omega
    have hbl := byteAt_lt s (k + i)
    rw [← hidx] at hb0
    have hsh : (0 : Int) ≤ 8 * ((m : Int) - 1 - i) := by omega
    simp only [List.getElem_map, List.getElem_range, lane, VF.app]
    (have hQq := trivial; repeat ((first | clear hQq | (with_reducible first | refine T_drw ?_ | refine T_bx fun _ => ?_ | refine s_al fun _ => ?_)); (try simp (disch := first | omega | assumption | ((repeat (first | exact mem_h | exact Up.here | apply mem_t | apply Up.there)); first | done | fail) | (simp; first | done | omega | fail)) [i_is_9])))
    refine TW.eqH ?_ (hK () trivial)
    have hlt : (beV s k i * 256 + byteAt s (k + i)) * 256 ^ (m - 1 - i) < 2 ^ 64 := by
      have hA : beV s k (i + 1) < 256 ^ (i + 1) := beV_lt s k (i + 1)
      have h8 : 256 ^ (i + 1) * 256 ^ (m - 1 - i) ≤ 2 ^ 64 := by
        rw [← Nat.pow_add, show (2 : Nat) ^ 64 = 256 ^ 8 from rfl]
        exact Nat.pow_le_pow_right (by omega) (by omega)
      exact Nat.lt_of_lt_of_le (Nat.mul_lt_mul_of_pos_right hA (Nat.pow_pos (by omega))) h8
    have hval := or_lane hbl hlt (by omega)
    rw [show m - (i + 1) = m - 1 - i from by omega]
    simp [beV, ← hval]
    rw [hb1, show (8 * ((m : Int) - 1 - i)).toNat = 8 * (m - 1 - i) from by omega, show m - i = m - 1 - i + 1 from by omega]
  · rintro _ _
    (have hQq := trivial; repeat ((first | clear hQq | (with_reducible first | refine T_drw ?_ | refine T_bx fun _ => ?_ | refine s_al fun _ => ?_)); (try simp (disch := first | omega | assumption | ((repeat (first | exact mem_h | exact Up.here | apply mem_t | apply Up.there)); first | done | fail) | (simp; first | done | omega | fail)) [])))
    exact T_ret (by simp)
  · rintro _ _ h; exact h.elim
/-- the byte of a number in lane i of n -/
def laneV (v : Int) (n i : Nat) : Int := IntKind.u8.wrap (v.fdiv (2 ^ min (8 * ((n : Int) - 1 - i)).toNat IntKind.u64.bits))
def putL (v : Int) (n i : Nat) : List Int := (List.range n).map fun j => if j < i then laneV v n j else 0
def putV (v n : Int) : ByteArray := if 1 ≤ n ∧ n ≤ 8 then bytesOf (putL v n.toNat n.toNat) else ByteArray.mk #[]
theorem putL_set (v : Int) {n i : Nat} (h : i < n) : (putL v n i).set i (laneV v n i) = putL v n (i + 1) := by
  apply List.ext_getElem (by simp [putL])
  intro j h1 h2
  simp only [putL, List.length_set, List.length_map, List.length_range] at h1
  rw [List.getElem_set]
  simp only [putL, List.getElem_map, List.getElem_range]
  by_cases hij : i = j
  · subst hij; simp
  · by_cases hj : j < i
    · simp [hij, hj, Nat.lt_succ_of_lt hj]
    · have : ¬ j < i + 1 := by omega
      simp [hij, hj, this]
def putC (v : Int) (n i : Nat) : Array Value := ((putL v n i).map (Value.int .u8)).toArray
theorem putC_zero (v : Int) {m : Nat} (h : m ≤ 8) : Builtin.zeroCells (Value.int .u8 0).cells m = putC v m 0 := by
  have : m = 0 ∨ m = 1 ∨ m = 2 ∨ m = 3 ∨ m = 4 ∨ m = 5 ∨ m = 6 ∨ m = 7 ∨ m = 8 := by omega
  rcases this with rfl | rfl | rfl | rfl | rfl | rfl | rfl | rfl | rfl <;>
    (apply Array.ext'; simp [Builtin.zeroCells, putC, putL, List.range, List.range.loop])
@[simp] theorem putV_size {v n : Int} (h1 : 1 ≤ n) (h2 : n ≤ 8) : (putV v n).size = n.toNat := by simp [putV, h1, h2, putL]
theorem Put_ok (w : World) (v n : Int) :
    Fn PR NoX 151 #[.int .u64 v, .int .i64 n] w (fun u w' => u = .string (putV v n) ∧ But [] w w') := by
  refine Fn.pure (mk_octet_Put (TW.go (κ := false) (S := []) ?_))
  unfold sh_octet_Put
  by_cases hok : 1 ≤ n ∧ n ≤ 8
  case neg =>
    have hv : putV v n = ByteArray.mk #[] := if_neg hok
    rw [hv]
    by_cases h1 : n < 1
    · (have hQq := trivial; repeat ((first | clear hQq | (with_reducible first | refine T_drw ?_ | refine T_bx fun _ => ?_ | refine s_al fun _ => ?_)); (try simp (disch := first | omega | assumption | ((repeat (first | exact mem_h | exact Up.here | apply mem_t | apply Up.there)); first | done | fail) | (simp; first | done | omega | fail)) [h1]))); exact T_ret rfl
    · have h2 : 8 < n := by omega
      (have hQq := trivial; repeat ((first | clear hQq | (with_reducible first | refine T_drw ?_ | refine T_bx fun _ => ?_ | refine s_al fun _ => ?_)); (try simp (disch := first | omega | assumption | ((repeat (first | exact mem_h | exact Up.here | apply mem_t | apply Up.there)); first | done | fail) | (simp; first | done | omega | fail)) [h1, h2]))); exact T_ret rfl
  have hv : putV v n = bytesOf (putL v n.toNat n.toNat) := if_pos hok
  rw [hv]
  obtain ⟨m, rfl⟩ : ∃ m : Nat, n = m := ⟨n.toNat, by omega⟩
  have h1 : ¬ (m : Int) < 1 := by omega
  have h2 : ¬ 8 < (m : Int) := by omega
  (have hQq := trivial; repeat ((first | clear hQq | (with_reducible first | refine T_drw ?_ | refine T_bx fun _ => ?_ | refine s_al fun _ => ?_)); (try simp (disch := first | omega | assumption | ((repeat (first | exact mem_h | exact Up.here | apply mem_t | apply Up.there)); first | done | fail) | (simp; first | done | omega | fail)) [h1, h2])))
  refine s_ms (by omega) (by omega) (by omega) (by omega) fun bs => ?_
  rw [Int.toNat_natCast, putC_zero v (by omega)]
  (have hQq := trivial; repeat ((first | clear hQq | (with_reducible first | refine T_drw ?_ | refine T_bx fun _ => ?_ | refine s_al fun _ => ?_)); (try simp (disch := first | omega | assumption | ((repeat (first | exact mem_h | exact Up.here | apply mem_t | apply Up.there)); first | done | fail) | (simp; first | done | omega | fail)) [h1, h2])))
  rename_i bv bb
  refine T_cn ent_octet_lanes (fun w' _ => lanes_ok w' m) ?_
  rintro b v rfl
  refine T_rng (lanes_it b (n := m) (by omega)) (by simp [lane]) (fun _ (_ : Unit) => True) (fun i _ => [.pt bb (.cells #[.slice (some ⟨bs, 0, none⟩) m m] 218),
      .own 5 1 (.slice (some ⟨bs, 0, none⟩) m m) m (putC v m i).toList, .pt bv (.cells #[.int .u64 v] 68)])
    (fun _ (_ : Unit) => False) (fun _ => []) () trivial ?_ ?_ ?_ ?_ (by simp)
  · intros; trivial
  · rintro i hi _ F _ K' hK _
    have hi' : i < m := by simpa using hi
    have hsh : (0 : Int) ≤ 8 * ((m : Int) - 1 - i) := by omega
    simp only [List.getElem_map, List.getElem_range, lane, VF.app]
    (have hQq := trivial; repeat ((first | clear hQq | (with_reducible first | refine T_drw ?_ | refine T_bx fun _ => ?_ | refine s_al fun _ => ?_)); (try simp (disch := first | omega | assumption | ((repeat (first | exact mem_h | exact Up.here | apply mem_t | apply Up.there)); first | done | fail) | (simp; first | done | omega | fail)) [])))
    refine s_st_own (by ((repeat (first | exact mem_h | exact Up.here | exact Sel.here | apply mem_t | apply Up.there | apply Sel.there)); first | done | fail)) (by simp) (by simp [putC, putL]; omega) (by simp) ?_
    refine TW.eqH ?_ (hK () trivial)
    have e : setL (putC v m i).toList i [.int .u8 (laneV v m i)] = (putC v m (i + 1)).toList := by
      rw [setL_one (by simp [putC, putL]; omega)]; simp [putC, ← putL_set v hi', List.map_set]
    rw [← e]; simp [laneV]
  · rintro _ _
    (have hQq := trivial; repeat ((first | clear hQq | (with_reducible first | refine T_drw ?_ | refine T_bx fun _ => ?_ | refine s_al fun _ => ?_)); (try simp (disch := first | omega | assumption | ((repeat (first | exact mem_h | exact Up.here | apply mem_t | apply Up.there)); first | done | fail) | (simp; first | done | omega | fail)) [])))
    have hlen : (putL v m m).length = m := by simp [putL]
    have := fun w' K (hr : Row w' bs 0 ((putL v m m).map (Value.int .u8))) => @i_b2s_218_9 K w' bs 0 m _ hr
    rw [hlen] at this
    rw [s_rds fun w' hw' => this w' _ (by simpa [putC] using hw'.ownr (e := 5) (k := 1) (q := m) (c := m) (xs := (putC v m m).toList) (by ((repeat (first | exact mem_h | exact Up.here | exact Sel.here | apply mem_t | apply Up.there | apply Sel.there)); first | done | fail)))]
    simp only [T_unw]
    exact T_ret rfl
  · rintro _ _ h; exact h.elim
end Go.Proofs.YtggakcpabomliaaGreat
