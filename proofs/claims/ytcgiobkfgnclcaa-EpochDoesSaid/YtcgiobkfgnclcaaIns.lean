/- How the operations step at the types of this program, printed by a program (wip/tools/shallow.py). -/
import Derived.Test.YtcgiobkfgnclcaaNames
import Derived.Test.YtcgiobkfgnclcaaLib
set_option linter.unusedVariables false
set_option linter.unusedSimpArgs false
namespace Go.Proofs.Ytcgiobkfgnclcaa
open Go

theorem ty3 : TI PR 3 Try.t3.desc 1 8 (.int .i64 0) := ⟨Try.underlying3, Try.t3, by kernel_rfl, rfl, rfl, rfl⟩
@[simp] theorem i_al_3 {X : Nat → Prop} (K : Value → WP) (w : World) : lou PR X (Instr.alloc 3 true (.tuple #[])) K w = K (.pointer (some ⟨sz w, 0, none⟩)) (w.alloc (.cells #[(.int .i64 0)] 3)) := l_alloc ty3
-- ('append', 27, 27)
-- ('append', 30, 30)
theorem ty47 : TI PR 47 Try.t46.desc 2 16 (.agg #[(.int .i64 0), (.int .i64 0)]) := ⟨Try.underlying47, Try.t47, by kernel_rfl, rfl, rfl, rfl⟩
@[simp] theorem i_bd_47_  (K : Value → WP) : pur PR (Instr.build 47 #[]) K = K (.agg #[(.int .i64 0), (.int .i64 0)]) := p_build (pl := #[(0, 1), (1, 1)]) ty47 (fun w => by kernel_rfl) rfl
@[simp] theorem i_bd_47_0_1 {v0 v1 : Value} (h0 : v0.cells.size = 1) (h1 : v1.cells.size = 1) (K : Value → WP) : pur PR (Instr.build 47 #[(0, v0), (1, v1)]) K = K (.agg (spl (spl #[(.int .i64 0), (.int .i64 0)] 0 v0.cells.toList) 1 v1.cells.toList)) := p_build (pl := #[(0, 1), (1, 1)]) ty47 (fun w => by kernel_rfl) (by rw [fill_cons rfl h0 (by simp [spl_size]), fill_cons rfl h1 (by simp [spl_size])]; rfl)
@[simp] theorem i_bd_47_0 {v0 : Value} (h0 : v0.cells.size = 1) (K : Value → WP) : pur PR (Instr.build 47 #[(0, v0)]) K = K (.agg (spl #[(.int .i64 0), (.int .i64 0)] 0 v0.cells.toList)) := p_build (pl := #[(0, 1), (1, 1)]) ty47 (fun w => by kernel_rfl) (by rw [fill_cons rfl h0 (by simp [spl_size])]; rfl)
theorem ty50 : TI PR 50 Try.t49.desc 17 136 (.agg #[(.int .i64 0), (.int .i64 0), (.int .i64 0), (.int .i64 0), (.int .i64 0), (.int .i64 0), (.int .i64 0), (.int .i64 0), (.int .i64 0), (.int .i64 0), (.int .i64 0), (.int .i64 0), (.int .i64 0), (.int .i64 0), (.int .i64 0), (.int .i64 0), (.int .i64 0)]) := ⟨Try.underlying50, Try.t50, by kernel_rfl, rfl, rfl, rfl⟩
@[simp] theorem i_bd_50_1 {v0 : Value} (h0 : v0.cells.size = 1) (K : Value → WP) : pur PR (Instr.build 50 #[(1, v0)]) K = K (.agg (spl #[(.int .i64 0), (.int .i64 0), (.int .i64 0), (.int .i64 0), (.int .i64 0), (.int .i64 0), (.int .i64 0), (.int .i64 0), (.int .i64 0), (.int .i64 0), (.int .i64 0), (.int .i64 0), (.int .i64 0), (.int .i64 0), (.int .i64 0), (.int .i64 0), (.int .i64 0)] 16 v0.cells.toList)) := p_build (pl := #[(0, 16), (16, 1)]) ty50 (fun w => by kernel_rfl) (by rw [fill_cons rfl h0 (by simp [spl_size])]; rfl)
theorem ty58 : TI PR 58 Try.t57.desc 2 16 (.agg #[(.int .i64 0), (.int .i64 0)]) := ⟨Try.underlying58, Try.t58, by kernel_rfl, rfl, rfl, rfl⟩
@[simp] theorem i_bd_58_  (K : Value → WP) : pur PR (Instr.build 58 #[]) K = K (.agg #[(.int .i64 0), (.int .i64 0)]) := p_build (pl := #[(0, 1), (1, 1)]) ty58 (fun w => by kernel_rfl) rfl
@[simp] theorem i_bd_58_0_1 {v0 v1 : Value} (h0 : v0.cells.size = 1) (h1 : v1.cells.size = 1) (K : Value → WP) : pur PR (Instr.build 58 #[(0, v0), (1, v1)]) K = K (.agg (spl (spl #[(.int .i64 0), (.int .i64 0)] 0 v0.cells.toList) 1 v1.cells.toList)) := p_build (pl := #[(0, 1), (1, 1)]) ty58 (fun w => by kernel_rfl) (by rw [fill_cons rfl h0 (by simp [spl_size]), fill_cons rfl h1 (by simp [spl_size])]; rfl)
@[simp] theorem i_bd_58_0 {v0 : Value} (h0 : v0.cells.size = 1) (K : Value → WP) : pur PR (Instr.build 58 #[(0, v0)]) K = K (.agg (spl #[(.int .i64 0), (.int .i64 0)] 0 v0.cells.toList)) := p_build (pl := #[(0, 1), (1, 1)]) ty58 (fun w => by kernel_rfl) (by rw [fill_cons rfl h0 (by simp [spl_size])]; rfl)
theorem ty27 : TI PR 27 Try.t27.desc 1 24 (.slice none 0 0) := ⟨Try.underlying27, Try.t27, by kernel_rfl, rfl, rfl, rfl⟩
-- buildSlice 27 of no cell
theorem ty30 : TI PR 30 Try.t30.desc 1 24 (.slice none 0 0) := ⟨Try.underlying30, Try.t30, by kernel_rfl, rfl, rfl, rfl⟩
-- buildSlice 30 of no cell
theorem i_z_30_1 : (Array.range 1).map ((#[(.int .i64 0)] : Array Value)[· % 1]!) = #[(.int .i64 0)] := by kernel_rfl
@[simp] theorem i_bs_30_1_0 {X : Nat → Prop} {v0 : Value} (h0 : v0.cells.size = 1) (K : Value → WP) (w : World) : lou PR X (Instr.buildSlice 30 1 #[(0, v0)]) K w = K (.slice (some ⟨sz w, 0, none⟩) 1 1) (w.alloc (.cells (spl #[(.int .i64 0)] 0 v0.cells.toList) 3)) := l_buildSlice ty30 ty3 (by decide) (by decide) ((congrArg (fun c => Instr.fill _ c _) i_z_30_1).trans (by rw [fill_cons rfl h0 (by simp [spl_size])]; rfl))
theorem i_z_30_2 : (Array.range 2).map ((#[(.int .i64 0)] : Array Value)[· % 1]!) = #[(.int .i64 0), (.int .i64 0)] := by kernel_rfl
@[simp] theorem i_bs_30_2_0_1 {X : Nat → Prop} {v0 v1 : Value} (h0 : v0.cells.size = 1) (h1 : v1.cells.size = 1) (K : Value → WP) (w : World) : lou PR X (Instr.buildSlice 30 2 #[(0, v0), (1, v1)]) K w = K (.slice (some ⟨sz w, 0, none⟩) 2 2) (w.alloc (.cells (spl (spl #[(.int .i64 0), (.int .i64 0)] 0 v0.cells.toList) 1 v1.cells.toList) 3)) := l_buildSlice ty30 ty3 (by decide) (by decide) ((congrArg (fun c => Instr.fill _ c _) i_z_30_2).trans (by rw [fill_cons rfl h0 (by simp [spl_size]), fill_cons rfl h1 (by simp [spl_size])]; rfl))
-- ('eqS', 'eql', 25)
-- ('eqS', 'eql', 47)
theorem ty32 : TI PR 32 Try.t31.desc 4 48 (.agg #[(.int .i64 0), (.int .i64 0), (.int .i64 0), (.slice none 0 0)]) := ⟨Try.underlying32, Try.t32, by kernel_rfl, rfl, rfl, rfl⟩
@[simp] theorem i_fa_32_0 (b o : Nat) (K : Value → WP) : pur PR (Instr.fieldAt 32 (.pointer (some ⟨b, o, none⟩)) 0) K = K (.pointer (some ⟨b, o, none⟩)) := p_fieldAt (i := 0) ty32 rfl ⟨_, _, _, _, ty3⟩ b o
@[simp] theorem i_fa_32_1 (b o : Nat) (K : Value → WP) : pur PR (Instr.fieldAt 32 (.pointer (some ⟨b, o, none⟩)) 1) K = K (.pointer (some ⟨b, o + 1, none⟩)) := p_fieldAt (i := 1) ty32 rfl ⟨_, _, _, _, ty3⟩ b o
@[simp] theorem i_fa_32_2 (b o : Nat) (K : Value → WP) : pur PR (Instr.fieldAt 32 (.pointer (some ⟨b, o, none⟩)) 2) K = K (.pointer (some ⟨b, o + 2, none⟩)) := p_fieldAt (i := 2) ty32 rfl ⟨_, _, _, _, ty3⟩ b o
@[simp] theorem i_fa_32_3 (b o : Nat) (K : Value → WP) : pur PR (Instr.fieldAt 32 (.pointer (some ⟨b, o, none⟩)) 3) K = K (.pointer (some ⟨b, o + 3, none⟩)) := p_fieldAt (i := 3) ty32 rfl ⟨_, _, _, _, ty30⟩ b o
@[simp] theorem i_fa_47_0 (b o : Nat) (K : Value → WP) : pur PR (Instr.fieldAt 47 (.pointer (some ⟨b, o, none⟩)) 0) K = K (.pointer (some ⟨b, o, none⟩)) := p_fieldAt (i := 0) ty47 rfl ⟨_, _, _, _, ty3⟩ b o
@[simp] theorem i_fa_47_1 (b o : Nat) (K : Value → WP) : pur PR (Instr.fieldAt 47 (.pointer (some ⟨b, o, none⟩)) 1) K = K (.pointer (some ⟨b, o + 1, none⟩)) := p_fieldAt (i := 1) ty47 rfl ⟨_, _, _, _, ty3⟩ b o
theorem ty48 : TI PR 48 Try.t48.desc 16 128 (.agg #[(.int .i64 0), (.int .i64 0), (.int .i64 0), (.int .i64 0), (.int .i64 0), (.int .i64 0), (.int .i64 0), (.int .i64 0), (.int .i64 0), (.int .i64 0), (.int .i64 0), (.int .i64 0), (.int .i64 0), (.int .i64 0), (.int .i64 0), (.int .i64 0)]) := ⟨Try.underlying48, Try.t48, by kernel_rfl, rfl, rfl, rfl⟩
@[simp] theorem i_fa_50_0 (b o : Nat) (K : Value → WP) : pur PR (Instr.fieldAt 50 (.pointer (some ⟨b, o, none⟩)) 0) K = K (.pointer (some ⟨b, o, none⟩)) := p_fieldAt (i := 0) ty50 rfl ⟨_, _, _, _, ty48⟩ b o
@[simp] theorem i_fa_50_1 (b o : Nat) (K : Value → WP) : pur PR (Instr.fieldAt 50 (.pointer (some ⟨b, o, none⟩)) 1) K = K (.pointer (some ⟨b, o + 16, none⟩)) := p_fieldAt (i := 1) ty50 rfl ⟨_, _, _, _, ty3⟩ b o
@[simp] theorem i_fa_58_0 (b o : Nat) (K : Value → WP) : pur PR (Instr.fieldAt 58 (.pointer (some ⟨b, o, none⟩)) 0) K = K (.pointer (some ⟨b, o, none⟩)) := p_fieldAt (i := 0) ty58 rfl ⟨_, _, _, _, ty3⟩ b o
@[simp] theorem i_fa_58_1 (b o : Nat) (K : Value → WP) : pur PR (Instr.fieldAt 58 (.pointer (some ⟨b, o, none⟩)) 1) K = K (.pointer (some ⟨b, o + 1, none⟩)) := p_fieldAt (i := 1) ty58 rfl ⟨_, _, _, _, ty3⟩ b o
theorem i_fin_3 (a : Addr) (K : Value → WP) (w : World) : rds PR (finS [.c 3 (.pointer (some a))]) K w = rdc (w.cell? a) K (rds PR (finS [.c 3 (.pointer (some a))]) K) w := p_fin1 ty3 rfl a
theorem ty22 : TI PR 22 Try.t22.desc 1 24 (.slice none 0 0) := ⟨Try.underlying22, Try.t22, by kernel_rfl, rfl, rfl, rfl⟩
@[simp] theorem i_ix_22 {k : IntKind} {i : Int} {len cap : Nat} (h0 : 0 ≤ i) (h1 : i < len) (b o : Nat) (K : Value → WP) : pur PR (Instr.indexAt 22 (.slice (some ⟨b, o, none⟩) len cap) (.int k i)) K = K (.pointer (some ⟨b, o + i.toNat * 4, none⟩)) := (p_indexAt (K := K) ty22 ty32 h0 h1 b o)
@[simp] theorem i_ix_27 {k : IntKind} {i : Int} {len cap : Nat} (h0 : 0 ≤ i) (h1 : i < len) (b o : Nat) (K : Value → WP) : pur PR (Instr.indexAt 27 (.slice (some ⟨b, o, none⟩) len cap) (.int k i)) K = K (.pointer (some ⟨b, o + i.toNat * 2, none⟩)) := (p_indexAt (K := K) ty27 ty58 h0 h1 b o)
@[simp] theorem i_ix_30 {k : IntKind} {i : Int} {len cap : Nat} (h0 : 0 ≤ i) (h1 : i < len) (b o : Nat) (K : Value → WP) : pur PR (Instr.indexAt 30 (.slice (some ⟨b, o, none⟩) len cap) (.int k i)) K = K (.pointer (some ⟨b, o + i.toNat, none⟩)) := (by simpa using p_indexAt (K := K) ty30 ty3 h0 h1 b o)
@[simp] theorem i_ix_48 {k : IntKind} {i : Int} (h0 : 0 ≤ i) (h1 : i < (8 : Nat)) (b o : Nat) (K : Value → WP) : pur PR (Instr.indexAt 48 (.pointer (some ⟨b, o, none⟩)) (.int k i)) K = K (.pointer (some ⟨b, o + i.toNat * 2, none⟩)) := (p_indexAtA (K := K) ty48 ty47 h0 h1 b o)
@[simp] theorem i_len_22 (a : Option Addr) (n c : Nat) (K : Value → WP) : pur PR (builtinS .len #[22] 0 [.slice a n c]) K = K (.int .i64 n) := p_len ty22 a n c
@[simp] theorem i_len_27 (a : Option Addr) (n c : Nat) (K : Value → WP) : pur PR (builtinS .len #[27] 0 [.slice a n c]) K = K (.int .i64 n) := p_len ty27 a n c
@[simp] theorem i_len_30 (a : Option Addr) (n c : Nat) (K : Value → WP) : pur PR (builtinS .len #[30] 0 [.slice a n c]) K = K (.int .i64 n) := p_len ty30 a n c
theorem ty62 : TI PR 62 Try.t62.desc 1 24 (.slice none 0 0) := ⟨Try.underlying62, Try.t62, by kernel_rfl, rfl, rfl, rfl⟩
@[simp] theorem i_len_62 (a : Option Addr) (n c : Nat) (K : Value → WP) : pur PR (builtinS .len #[62] 0 [.slice a n c]) K = K (.int .i64 n) := p_len ty62 a n c
theorem ty25 : TI PR 25 Try.t25.desc 1 8 (.pointer none) := ⟨Try.underlying25, Try.t25, by kernel_rfl, rfl, rfl, rfl⟩
@[simp] theorem i_ld_25 (a : Addr) (K : Value → WP) (w : World) : rds PR (Instr.loadAt 25 (.pointer (some a))) K w = rdc (w.cell? a) K (far PR 25 a K) w := p_ld ty25 rfl a
@[simp] theorem i_run_ld_25 {w : World} {a : Addr} {v : Value} (hc : w.cell? a = some v) : (Instr.loadAt 25 (.pointer (some a))).run PR w = .ok v w := run_load1 ty25 rfl hc
@[simp] theorem i_ld_3 (a : Addr) (K : Value → WP) (w : World) : rds PR (Instr.loadAt 3 (.pointer (some a))) K w = rdc (w.cell? a) K (far PR 3 a K) w := p_ld ty3 rfl a
@[simp] theorem i_run_ld_3 {w : World} {a : Addr} {v : Value} (hc : w.cell? a = some v) : (Instr.loadAt 3 (.pointer (some a))).run PR w = .ok v w := run_load1 ty3 rfl hc
@[simp] theorem i_ld_30 (a : Addr) (K : Value → WP) (w : World) : rds PR (Instr.loadAt 30 (.pointer (some a))) K w = rdc (w.cell? a) K (far PR 30 a K) w := p_ld ty30 rfl a
@[simp] theorem i_run_ld_30 {w : World} {a : Addr} {v : Value} (hc : w.cell? a = some v) : (Instr.loadAt 30 (.pointer (some a))).run PR w = .ok v w := run_load1 ty30 rfl hc
@[simp] theorem i_ld_32 (b o : Nat) (K : Value → WP) (w : World) : rds PR (Instr.loadAt 32 (.pointer (some ⟨b, o, none⟩))) K w = rdl (rowN w b o 4) K (far PR 32 ⟨b, o, none⟩ K) w := p_ldN ty32 rfl b o
@[simp] theorem i_run_ld_32 {w : World} {b o : Nat} {l : List Value} (hl : rowN w b o 4 = some l) : (Instr.loadAt 32 (.pointer (some ⟨b, o, none⟩))).run PR w = .ok (.agg l.toArray) w := run_loadN ty32 rfl (rowN_len hl).1 (rowN_len hl).2
@[simp] theorem i_ld_47 (b o : Nat) (K : Value → WP) (w : World) : rds PR (Instr.loadAt 47 (.pointer (some ⟨b, o, none⟩))) K w = rdl (rowN w b o 2) K (far PR 47 ⟨b, o, none⟩ K) w := p_ldN ty47 rfl b o
@[simp] theorem i_run_ld_47 {w : World} {b o : Nat} {l : List Value} (hl : rowN w b o 2 = some l) : (Instr.loadAt 47 (.pointer (some ⟨b, o, none⟩))).run PR w = .ok (.agg l.toArray) w := run_loadN ty47 rfl (rowN_len hl).1 (rowN_len hl).2
@[simp] theorem i_ld_58 (b o : Nat) (K : Value → WP) (w : World) : rds PR (Instr.loadAt 58 (.pointer (some ⟨b, o, none⟩))) K w = rdl (rowN w b o 2) K (far PR 58 ⟨b, o, none⟩ K) w := p_ldN ty58 rfl b o
@[simp] theorem i_run_ld_58 {w : World} {b o : Nat} {l : List Value} (hl : rowN w b o 2 = some l) : (Instr.loadAt 58 (.pointer (some ⟨b, o, none⟩))).run PR w = .ok (.agg l.toArray) w := run_loadN ty58 rfl (rowN_len hl).1 (rowN_len hl).2
-- ('makeSlice', 27)
-- ('makeSlice', 30)
@[simp] theorem i_slah_48 {k1 : IntKind} {hi : Int} (b o : Nat) (h0 : 0 ≤ hi) (h1 : hi ≤ (8 : Nat)) (K : Value → WP) : pur PR (Instr.sliceAt 48 (.pointer (some ⟨b, o, none⟩)) none (some (.int k1 hi)) none) K = K (.slice (some ⟨b, o, none⟩) hi.toNat 8) := p_sliceAH ty48 ty47 b o h0 h1
@[simp] theorem i_st_3 {X : Nat → Prop} {v : Value} (hv : v.cells.size = 1) (b o : Nat) (K : WP) (w : World) : sto PR X (Instr.storeAt 3 (.pointer (some ⟨b, o, none⟩)) v) K w = stc b o v.cells.toList (bl w b) K (farS PR X 3 b o v K) w := p_st ty3 v hv b o K
@[simp] theorem i_st_47 {X : Nat → Prop} {v : Value} (hv : v.cells.size = 2) (b o : Nat) (K : WP) (w : World) : sto PR X (Instr.storeAt 47 (.pointer (some ⟨b, o, none⟩)) v) K w = stc b o v.cells.toList (bl w b) K (farS PR X 47 b o v K) w := p_st ty47 v hv b o K
@[simp] theorem i_st_58 {X : Nat → Prop} {v : Value} (hv : v.cells.size = 2) (b o : Nat) (K : WP) (w : World) : sto PR X (Instr.storeAt 58 (.pointer (some ⟨b, o, none⟩)) v) K w = stc b o v.cells.toList (bl w b) K (farS PR X 58 b o v K) w := p_st ty58 v hv b o K
end Go.Proofs.Ytcgiobkfgnclcaa