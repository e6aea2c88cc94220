/- EpochAll's walk: the law returns true, whatever its numbers. No condition. -/
import Derived.Test.YtcgiobkfgnclcaaWorks
set_option linter.unusedVariables false
set_option linter.unusedSimpArgs false
namespace Go.Proofs.Ytcgiobkfgnclcaa
open Go
theorem slotK_set (s : List (Int × Int)) (i j : Nat) (y : Int × Int) : slotK (s.set i y) j = if i = j ∧ i < s.length then y else slotK s j := by
  simp only [slotK, List.getD_eq_getElem?_getD, List.getElem?_set]
  by_cases h : i = j
  · subst h
    by_cases h2 : i < s.length
    · simp [h2]
    · simp [h2]
  · simp [h]
theorem slotK_ext {s t : List (Int × Int)} (hl : s.length = t.length) (h : ∀ j, j < s.length → slotK s j = slotK t j) : s = t := by
  apply List.ext_getElem hl
  intro j h1 h2
  have := h j h1
  simpa [slotK, List.getD_eq_getElem?_getD, h1, h2] using this
def doneK (i : Nat) (a : Int) : List (Int × Int) := List.replicate i (2, a) ++ List.replicate (8 - i) (0, 0)
theorem doneK_len {i : Nat} {a : Int} (h : i ≤ 8) : (doneK i a).length = 8 := by simp [doneK]; omega
theorem slotK_done (i : Nat) (a : Int) (j : Nat) : slotK (doneK i a) j = if j < i then (2, a) else (0, 0) := by
  simp only [slotK, doneK, List.getD_eq_getElem?_getD]
  by_cases h : j < i
  · rw [List.getElem?_append_left (by simpa using h)]; simp [h]
  · rw [List.getElem?_append_right (by simpa using h)]
    simp only [List.length_replicate, h, if_false]
    by_cases h2 : j - i < 8 - i
    · simp [h2]
    · simp [List.getElem?_replicate, h2]
theorem done_next {i : Nat} {a : Int} (h : i < 8) : ((doneK i a).set i (1, 0)).set i (2, a) = doneK (i + 1) a := by
  have hl := doneK_len (a := a) (show i ≤ 8 by omega)
  refine slotK_ext (by simp [hl, doneK_len (a := a) (show i + 1 ≤ 8 by omega)]) fun j hj => ?_
  rw [slotK_set, slotK_set, slotK_done, slotK_done]
  simp only [List.length_set, hl, h, and_true]
  by_cases h1 : i = j
  · subst h1; simp
  · simp only [h1, if_false]
    by_cases h2 : j < i
    · simp [h2, Nat.lt_succ_of_lt h2]
    · have : ¬ j < i + 1 := by omega
      simp [h2, this]
theorem take_done {i n : Nat} {a : Int} (h : i < n) : takeK (doneK i a) n = i :=
  firstOf_some h (by simp [freeK, slotK_done]) fun j hj => by simp [freeK, slotK_done, hj]
theorem take_full {n : Nat} {a : Int} : takeK (doneK n a) n = -1 := firstOf_none fun j hj => by simp [freeK, slotK_done, hj]
theorem stateK_in {s : List (Int × Int)} {n i : Nat} (h : i < n) : stateK s n (i : Int) = (slotK s i).1 := by
  rw [stateK, if_pos (by omega)]; simp
theorem ripe_done {n : Nat} {a : Int} {pins : List Int} (h : 0 < n) (ha : aboveK pins a = true) : ripeK (doneK n a) n pins = 0 :=
  firstOf_some (j := 0) h (by simp [slotK_done, h, ha]) fun j hj => by omega
theorem ripe_done_not {n : Nat} {a : Int} {pins : List Int} (ha : aboveK pins a = false) : ripeK (doneK n a) n pins = -1 :=
  firstOf_none fun j hj => by simp [slotK_done, hj, ha]

theorem All_ok (n a pin : Int) (w : World) : Fn PR NoX 6 #[.int .i64 n, .int .i64 a, .int .i64 pin] w (fun v w' => v = .bool true ∧ But [] w w') := by
  refine mk_gangplanklaw15_EpochAll ?_
  simp only [sh_gangplanklaw15_EpochAll]
  refine c_gangplanklaw15_works ((works_ok w).use ?_)
  rintro v w0 ⟨rfl, hw0⟩ _
  simp
  by_cases h1 : n < 1
  · simp [h1]; exact hw0
  by_cases h2 : 8 < n
  · simp [h1, h2]; exact hw0
  simp [h1, h2]
  refine c_epoch_New ((New_ok w0 n).use ?_)
  rintro v w1 ⟨rfl, hk, hb⟩ _
  have e0 : clampK n = n.toNat := by unfold clampK; omega
  rw [e0] at hk
  generalize hbb : sz w0 = b at *
  have hsz : sz w ≤ b := by subst hbb; exact hw0.1
  have hb1 : But [b] w w1 := (hw0.trans hb).mono (by simp)
  obtain ⟨m, rfl⟩ : ∃ m : Nat, n = m := ⟨n.toNat, by omega⟩
  simp only [Int.toNat_natCast] at hk
  have z0 : zeroK = doneK 0 a := by simp [zeroK, doneK]
  rw [z0] at hk
  simp
  refine lpI2 m (fun _ i w' => KeeperAt w' b (doneK i a) m ∧ But [b] w w') ⟨hk, hb1⟩ ?_
  clear hk hb1
  rintro x i w2 hi ⟨hk, hb1⟩ L hL
  by_cases hlt : i < m
  · simp [hlt]
    refine c_epoch_Keeper_Take ((Take_ok hk).use ?_)
    have hset : tookK (doneK i a) m = (doneK i a).set i (1, 0) := by rw [tookK, take_done hlt, if_neg (by omega)]; simp
    rw [take_done hlt, hset]
    rintro v w3 ⟨rfl, hk, hb⟩ _
    replace hb1 := hb1.trans hb
    simp
    refine c_epoch_Keeper_Retire ((Retire_ok hk i a).use ?_)
    have hl := doneK_len (a := a) (show i ≤ 8 by omega)
    have hs : stateK ((doneK i a).set i (1, 0)) m (i : Int) = 1 := by rw [stateK_in hlt, slotK_set, hl]; simp [show i < 8 by omega]
    have hn : turnedK ((doneK i a).set i (1, 0)) m (i : Int) 1 (2, a) = doneK (i + 1) a := by rw [turnedK, if_pos hs]; simp only [Int.toNat_natCast]; exact done_next (by omega)
    rw [hs, hn]
    rintro v w4 ⟨rfl, hk, hb⟩ _
    replace hb1 := hb1.trans hb
    simp
    refine c_epoch_Keeper_Retire ((Retire_ok hk i a).use ?_)
    have hs : stateK (doneK (i + 1) a) m (i : Int) = 2 := by rw [stateK_in hlt, slotK_done]; simp
    have hn : turnedK (doneK (i + 1) a) m (i : Int) 1 (2, a) = doneK (i + 1) a := by rw [turnedK, hs]; simp
    rw [hs, hn]
    rintro v w5 ⟨rfl, hk, hb⟩ _
    replace hb1 := hb1.trans hb
    simp (disch := first | omega | (simp; first | done | fail)) []
    exact hL hlt _ _ ⟨hk, hb1⟩
  have : i = m := by omega
  subst this
  simp
  refine c_epoch_Keeper_Take ((Take_ok hk).use ?_)
  have hset : tookK (doneK i a) i = doneK i a := by rw [tookK, take_full, if_pos rfl]
  rw [take_full, hset]
  rintro v w3 ⟨rfl, hk, hb⟩ _
  replace hb1 := hb1.trans hb
  simp
  have hnil := IntsAt.nil w3
  refine c_epoch_Keeper_Ripe ((Ripe_ok hk hnil (by decide)).use ?_)
  rw [ripe_done (by omega) rfl]
  rintro v w4 ⟨rfl, hb⟩ _
  replace hk := hk.but hb (by simp)
  replace hb1 := hb1.trans (hb.mono (T := [b]) (by simp))
  have hi1 : 1 ≤ i := by omega
  have hi8 : i ≤ 8 := by omega
  have hsub : (i : Int) - 1 = ((i - 1 : Nat) : Int) := by omega
  have hl := doneK_len (a := a) hi8
  have hcase : (ripeK (doneK i a) i [pin] = 0 ∧ pin = 0) ∨ (ripeK (doneK i a) i [pin] = 0 ∧ pin ≠ 0 ∧ a < pin) ∨ (ripeK (doneK i a) i [pin] = -1 ∧ pin ≠ 0 ∧ ¬ a < pin) := by
    by_cases hp : pin = 0
    · exact Or.inl ⟨ripe_done hi1 (by simp [aboveK, hp]), hp⟩
    · by_cases hq : a < pin
      · exact Or.inr (Or.inl ⟨ripe_done hi1 (by simp [aboveK, hq]), hp, hq⟩)
      · exact Or.inr (Or.inr ⟨ripe_done_not (by simp [aboveK, hp, hq]), hp, hq⟩)
  have hs1 : stateK (doneK i a) i ((i - 1 : Nat) : Int) = 2 := by rw [stateK_in (by omega), slotK_done]; simp [show i - 1 < i by omega]
  have hs2 : turnedK (doneK i a) i ((i - 1 : Nat) : Int) 2 (0, 0) = (doneK i a).set (i - 1) (0, 0) := by rw [turnedK, if_pos hs1]; simp
  have ht : takeK ((doneK i a).set (i - 1) (0, 0)) i = ((i - 1 : Nat) : Int) := by
    refine firstOf_some (by omega) (by simp [freeK, slotK_set, hl]; omega) fun j hj => ?_
    simp [freeK, slotK_set, slotK_done, show ¬ (i - 1 = j) by omega, show j < i by omega]
  have ht2 : tookK ((doneK i a).set (i - 1) (0, 0)) i = ((doneK i a).set (i - 1) (0, 0)).set (i - 1) (1, 0) := by rw [tookK, ht, if_neg (by omega)]; simp
  have hs3 : stateK (((doneK i a).set (i - 1) (0, 0)).set (i - 1) (1, 0)) i ((i - 1 : Nat) : Int) = 1 := by
    rw [stateK_in (by omega), slotK_set]; simp [hl, show i - 1 < 8 by omega]
  have hs4 : ∀ s, stateK s i (i : Int) = -1 := fun s => if_neg (by omega)
  rcases hcase with ⟨hr, hp⟩ | ⟨hr, hp, hq⟩ | ⟨hr, hp, hq⟩
  · simp (disch := first | omega | (simp; first | done | fail)) [hp]
    rw [hp] at hr
    refine c_epoch_Keeper_Ripe ((Ripe_ok (hk.but ((But.refl [] _).alloc _) (by simp)) (IntsAt.made (l := [0]) rfl) (by decide)).use ?_)
    rw [hr]
    rintro v w5 ⟨rfl, hb⟩ _
    replace hb := ((But.refl [] _).alloc _).trans hb
    replace hk := hk.but hb (by simp)
    replace hb1 := hb1.trans (hb.mono (T := [b]) (by simp))
    simp (disch := first | omega | (simp; first | done | fail)) []
    rw [hsub]
    refine c_epoch_Keeper_Free ((Free_ok hk _).use ?_)
    rw [hs1, hs2]
    rintro v w6 ⟨rfl, hk, hb⟩ _
    replace hb1 := hb1.trans hb
    simp (disch := first | omega | (simp; first | done | fail)) []
    refine c_epoch_Keeper_Take ((Take_ok hk).use ?_)
    rw [ht, ht2]
    rintro v w7 ⟨rfl, hk, hb⟩ _
    replace hb1 := hb1.trans hb
    simp (disch := first | omega | (simp; first | done | fail)) [hsub]
    refine c_epoch_Keeper_State ((State_ok hk _).use ?_)
    rw [hs3]
    rintro v w8 ⟨rfl, rfl⟩ _
    simp (disch := first | omega | (simp; first | done | fail)) []
    refine c_epoch_Keeper_State ((State_ok hk _).use ?_)
    rw [hs4]
    rintro v w8 ⟨rfl, rfl⟩ _
    simp (disch := first | omega | (simp; first | done | fail)) []
    exact hb1.fresh (by simp; omega)
  · simp (disch := first | omega | (simp; first | done | fail)) [hp, hq]
    refine c_epoch_Keeper_Ripe ((Ripe_ok (hk.but ((But.refl [] _).alloc _) (by simp)) (IntsAt.made (l := [pin]) rfl) (by simp)).use ?_)
    rw [hr]
    rintro v w5 ⟨rfl, hb⟩ _
    replace hb := ((But.refl [] _).alloc _).trans hb
    replace hk := hk.but hb (by simp)
    replace hb1 := hb1.trans (hb.mono (T := [b]) (by simp))
    simp (disch := first | omega | (simp; first | done | fail)) []
    rw [hsub]
    refine c_epoch_Keeper_Free ((Free_ok hk _).use ?_)
    rw [hs1, hs2]
    rintro v w6 ⟨rfl, hk, hb⟩ _
    replace hb1 := hb1.trans hb
    simp (disch := first | omega | (simp; first | done | fail)) []
    refine c_epoch_Keeper_Take ((Take_ok hk).use ?_)
    rw [ht, ht2]
    rintro v w7 ⟨rfl, hk, hb⟩ _
    replace hb1 := hb1.trans hb
    simp (disch := first | omega | (simp; first | done | fail)) [hsub]
    refine c_epoch_Keeper_State ((State_ok hk _).use ?_)
    rw [hs3]
    rintro v w8 ⟨rfl, rfl⟩ _
    simp (disch := first | omega | (simp; first | done | fail)) []
    refine c_epoch_Keeper_State ((State_ok hk _).use ?_)
    rw [hs4]
    rintro v w8 ⟨rfl, rfl⟩ _
    simp (disch := first | omega | (simp; first | done | fail)) []
    exact hb1.fresh (by simp; omega)
  · simp (disch := first | omega | (simp; first | done | fail)) [hp, hq]
    refine c_epoch_Keeper_Ripe ((Ripe_ok (hk.but ((But.refl [] _).alloc _) (by simp)) (IntsAt.made (l := [pin]) rfl) (by simp)).use ?_)
    rw [hr]
    rintro v w5 ⟨rfl, hb⟩ _
    replace hb := ((But.refl [] _).alloc _).trans hb
    replace hk := hk.but hb (by simp)
    replace hb1 := hb1.trans (hb.mono (T := [b]) (by simp))
    simp (disch := first | omega | (simp; first | done | fail)) []
    rw [hsub]
    refine c_epoch_Keeper_Free ((Free_ok hk _).use ?_)
    rw [hs1, hs2]
    rintro v w6 ⟨rfl, hk, hb⟩ _
    replace hb1 := hb1.trans hb
    simp (disch := first | omega | (simp; first | done | fail)) []
    refine c_epoch_Keeper_Take ((Take_ok hk).use ?_)
    rw [ht, ht2]
    rintro v w7 ⟨rfl, hk, hb⟩ _
    replace hb1 := hb1.trans hb
    simp (disch := first | omega | (simp; first | done | fail)) [hsub]
    refine c_epoch_Keeper_State ((State_ok hk _).use ?_)
    rw [hs3]
    rintro v w8 ⟨rfl, rfl⟩ _
    simp (disch := first | omega | (simp; first | done | fail)) []
    refine c_epoch_Keeper_State ((State_ok hk _).use ?_)
    rw [hs4]
    rintro v w8 ⟨rfl, rfl⟩ _
    simp (disch := first | omega | (simp; first | done | fail)) []
    exact hb1.fresh (by simp; omega)
end Go.Proofs.Ytcgiobkfgnclcaa
