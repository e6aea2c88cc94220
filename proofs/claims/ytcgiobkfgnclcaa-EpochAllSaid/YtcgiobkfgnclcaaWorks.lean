/- The law package's helpers: works is true, whatever the world. No condition. -/
import Derived.Test.YtcgiobkfgnclcaaEpoch
set_option linter.unusedVariables false
set_option linter.unusedSimpArgs false
namespace Go.Proofs.Ytcgiobkfgnclcaa
open Go
@[simp] theorem eqn_keeper (a : Option Addr) (x y : Operand) (K : Value → WP) (w : World) : rds PR (eqS .eql 25 x y (.pointer a) (.pointer none)) K w = K (.bool a.isNone) w := p_eqNil ty25
theorem IntsAt.made {w : World} {c : Array Value} {T : TypeId} {l : List Int} (hc : c = (l.map (.int .i64 ·)).toArray) : IntsAt (w.alloc (.cells c T)) (.slice (some ⟨sz w, 0, none⟩) l.length l.length) l := by
  refine Or.inr ⟨sz w, 0, l.length, rfl, fun i hi => ?_⟩
  rw [cell_alloc, hc]
  simp
theorem KeeperAt.lt {w : World} {b : Nat} {s : List (Int × Int)} {n : Nat} (h : KeeperAt w b s n) : b < sz w := bl_lt h.blk

theorem works_ok (w : World) : Fn PR NoX 8 #[] w (fun v w' => v = .bool true ∧ But [] w w') := by
  refine mk_gangplanklaw15_works ?_
  simp only [sh_gangplanklaw15_works]
  refine c_epoch_New ((New_ok w 2).use ?_)
  rintro v w1 ⟨rfl, hk, hb⟩ _
  have e0 : clampK 2 = 2 := by decide
  rw [e0] at hk
  generalize hbb : sz w = b at *
  have hb1 : But [b] w w1 := hb.mono (by simp)
  simp
  refine c_epoch_Keeper_Take ((Take_ok hk).use ?_)
  have e1 : takeK zeroK 2 = 0 := by decide
  have e2 : tookK zeroK 2 = [(1, 0), (0, 0), (0, 0), (0, 0), (0, 0), (0, 0), (0, 0), (0, 0)] := by decide
  rw [e1, e2]
  rintro v w2 ⟨rfl, hk, hb⟩ _
  replace hb1 := hb1.trans hb
  refine c_epoch_Keeper_Retire ((Retire_ok hk 0 5).use ?_)
  have e3 : stateK [(1, 0), (0, 0), (0, 0), (0, 0), (0, 0), (0, 0), (0, 0), (0, 0)] 2 0 = 1 := by decide
  have e4 : turnedK [(1, 0), (0, 0), (0, 0), (0, 0), (0, 0), (0, 0), (0, 0), (0, 0)] 2 0 1 (2, 5) = [(2, 5), (0, 0), (0, 0), (0, 0), (0, 0), (0, 0), (0, 0), (0, 0)] := by decide
  rw [e3, e4]
  rintro v w3 ⟨rfl, hk, hb⟩ _
  replace hb1 := hb1.trans hb
  simp (disch := first | omega | (simp; first | done | fail)) []
  refine c_epoch_Keeper_Ripe ((Ripe_ok (hk.but ((But.refl [] _).alloc _) (by simp)) (IntsAt.made (l := [0, 5]) rfl) (by decide)).use ?_)
  have e5 : ripeK [(2, 5), (0, 0), (0, 0), (0, 0), (0, 0), (0, 0), (0, 0), (0, 0)] 2 [0, 5] = -1 := by decide
  rw [e5]
  rintro v w4 ⟨rfl, hb⟩ _
  replace hb := ((But.refl [] _).alloc _).trans hb
  replace hk := hk.but hb (by simp)
  replace hb1 := hb1.trans (hb.mono (T := [b]) (by simp))
  simp (disch := first | omega | (simp; first | done | fail)) []
  refine c_epoch_Keeper_Ripe ((Ripe_ok (hk.but ((But.refl [] _).alloc _) (by simp)) (IntsAt.made (l := [0, 6]) rfl) (by decide)).use ?_)
  have e6 : ripeK [(2, 5), (0, 0), (0, 0), (0, 0), (0, 0), (0, 0), (0, 0), (0, 0)] 2 [0, 6] = 0 := by decide
  rw [e6]
  rintro v w5 ⟨rfl, hb⟩ _
  replace hb := ((But.refl [] _).alloc _).trans hb
  replace hk := hk.but hb (by simp)
  replace hb1 := hb1.trans (hb.mono (T := [b]) (by simp))
  refine c_epoch_Keeper_State ((State_ok hk 0).use ?_)
  have e7 : stateK [(2, 5), (0, 0), (0, 0), (0, 0), (0, 0), (0, 0), (0, 0), (0, 0)] 2 0 = 2 := by decide
  rw [e7]
  rintro v w6 ⟨rfl, rfl⟩ _
  refine c_epoch_Keeper_Free ((Free_ok hk 0).use ?_)
  have e8 : turnedK [(2, 5), (0, 0), (0, 0), (0, 0), (0, 0), (0, 0), (0, 0), (0, 0)] 2 0 2 (0, 0) = zeroK := by decide
  rw [e7, e8]
  rintro v w6 ⟨rfl, hk, hb⟩ _
  replace hb1 := hb1.trans hb
  refine c_epoch_Keeper_Free ((Free_ok hk 0).use ?_)
  have e9 : stateK zeroK 2 0 = 0 := by decide
  have e10 : turnedK zeroK 2 0 2 (0, 0) = zeroK := by decide
  rw [e9, e10]
  rintro v w7 ⟨rfl, hk, hb⟩ _
  replace hb1 := hb1.trans hb
  simp
  refine c_epoch_Keeper_State ((State_ok hk 0).use ?_)
  rw [e9]
  rintro v w8 ⟨rfl, rfl⟩ _
  simp
  refine c_epoch_Keeper_State ((State_ok hk 2).use ?_)
  have e11 : stateK zeroK 2 2 = -1 := by decide
  rw [e11]
  rintro v w8 ⟨rfl, rfl⟩ _
  simp
  refine c_epoch_Keeper_Take ((Take_ok hk).use ?_)
  rw [e1, e2]
  rintro v w8 ⟨rfl, hk, hb⟩ _
  replace hb1 := hb1.trans hb
  simp
  refine c_epoch_Keeper_Take ((Take_ok hk).use ?_)
  have e12 : takeK [(1, 0), (0, 0), (0, 0), (0, 0), (0, 0), (0, 0), (0, 0), (0, 0)] 2 = 1 := by decide
  have e13 : tookK [(1, 0), (0, 0), (0, 0), (0, 0), (0, 0), (0, 0), (0, 0), (0, 0)] 2 = [(1, 0), (1, 0), (0, 0), (0, 0), (0, 0), (0, 0), (0, 0), (0, 0)] := by decide
  rw [e12, e13]
  rintro v w9 ⟨rfl, hk, hb⟩ _
  replace hb1 := hb1.trans hb
  simp
  refine c_epoch_Keeper_Take ((Take_ok hk).use ?_)
  have e14 : takeK [(1, 0), (1, 0), (0, 0), (0, 0), (0, 0), (0, 0), (0, 0), (0, 0)] 2 = -1 := by decide
  rw [e14]
  rintro v w10 ⟨rfl, hk, hb⟩ _
  replace hb1 := hb1.trans hb
  simp
  exact hb1.fresh (by simp; omega)
end Go.Proofs.Ytcgiobkfgnclcaa
