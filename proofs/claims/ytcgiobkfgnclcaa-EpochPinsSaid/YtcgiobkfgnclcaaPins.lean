/- EpochPins' walk: the law returns true, whatever its acts and pins. No condition. -/
import Derived.Test.YtcgiobkfgnclcaaActs
set_option linter.unusedVariables false
set_option linter.unusedSimpArgs false
namespace Go.Proofs.Ytcgiobkfgnclcaa
open Go
theorem But.past {a c d : World} {b : Nat} (h : But [] a c) (h' : But [b] c d) (hb : sz a ≤ b) : But [] a d := ((h.mono (T := [b]) (by simp)).trans h').fresh (by simp; omega)
/-- the lowest pin that is not 0, of the first i -/
def LowK (pins : List Int) (i : Nat) (lo : Int) (some' : Bool) : Prop :=
  (some' = false ∧ lo = 0 ∧ ∀ j, j < i → intAt pins j = 0) ∨
  (some' = true ∧ lo ≠ 0 ∧ (∃ j, j < i ∧ intAt pins j = lo) ∧ ∀ j, j < i → intAt pins j = 0 ∨ lo ≤ intAt pins j)
theorem LowK.zero {pins : List Int} {i : Nat} {lo : Int} {so : Bool} (h : LowK pins i lo so) (hz : intAt pins i = 0) : LowK pins (i + 1) lo so := by
  rcases h with ⟨h1, h2, h3⟩ | ⟨h1, h2, ⟨j, hj, h3⟩, h4⟩
  · refine Or.inl ⟨h1, h2, fun k hk => ?_⟩
    by_cases hki : k = i
    · subst hki; exact hz
    · exact h3 k (by omega)
  · refine Or.inr ⟨h1, h2, ⟨j, by omega, h3⟩, fun k hk => ?_⟩
    by_cases hki : k = i
    · subst hki; exact Or.inl hz
    · exact h4 k (by omega)
theorem LowK.take {pins : List Int} {i : Nat} {lo : Int} {so : Bool} (h : LowK pins i lo so) (hz : intAt pins i ≠ 0) (hn : so = false ∨ intAt pins i < lo) : LowK pins (i + 1) (intAt pins i) true := by
  refine Or.inr ⟨rfl, hz, ⟨i, by omega, rfl⟩, fun k hk => ?_⟩
  by_cases hki : k = i
  · subst hki; exact Or.inr (Int.le_refl _)
  · rcases h with ⟨h1, h2, h3⟩ | ⟨h1, h2, _, h4⟩
    · exact Or.inl (h3 k (by omega))
    · rcases h4 k (by omega) with h5 | h5
      · exact Or.inl h5
      · rcases hn with hn | hn
        · rw [h1] at hn; cases hn
        · exact Or.inr (by omega)
theorem LowK.keep {pins : List Int} {i : Nat} {lo : Int} (h : LowK pins i lo true) (hz : intAt pins i ≠ 0) (hn : ¬ intAt pins i < lo) : LowK pins (i + 1) lo true := by
  rcases h with ⟨h1, _⟩ | ⟨h1, h2, ⟨j, hj, h3⟩, h4⟩
  · cases h1
  · refine Or.inr ⟨h1, h2, ⟨j, by omega, h3⟩, fun k hk => ?_⟩
    by_cases hki : k = i
    · subst hki; exact Or.inr (by omega)
    · exact h4 k (by omega)
theorem aboveK_low {pins : List Int} {lo : Int} {so : Bool} (h : LowK pins pins.length lo so) (a : Int) : aboveK pins a = aboveK [lo] a := by
  rcases h with ⟨_, rfl, h⟩ | ⟨_, h0, ⟨j, hj, rfl⟩, h⟩
  · rw [aboveK_true (pins := pins) fun j hj => Or.inl (h j hj)]
    simp [aboveK]
  · by_cases ha : a < intAt pins j
    · rw [aboveK_true (pins := pins) fun i hi => ?_]
      · simp [aboveK, ha]
      · rcases h i hi with h1 | h1
        · exact Or.inl h1
        · exact Or.inr (by omega)
    · rw [aboveK_false hj h0 (by omega)]
      simp [aboveK, h0, ha]
theorem ripe_low {pins : List Int} {lo : Int} {so : Bool} (h : LowK pins pins.length lo so) (s : List (Int × Int)) (n : Nat) : ripeK s n pins = ripeK s n [lo] := by
  simp only [ripeK, aboveK_low h]
theorem ripe_low0 {pins : List Int} {lo : Int} (h : LowK pins pins.length lo false) (s : List (Int × Int)) (n : Nat) : ripeK s n pins = ripeK s n [] := by
  rw [ripe_low h]
  rcases h with ⟨_, rfl, h⟩ | ⟨h, _⟩
  · simp [ripeK, aboveK]
  · cases h

theorem Pins_ok {n : Int} {w : World} {v p : Value} {l : List ActR} {pins : List Int} (hA : ActsAt w v l) (hP : IntsAt w p pins) :
    Fn PR NoX 7 #[.int .i64 n, v, p] w (fun v w' => v = .bool true ∧ But [] w w') := by
  refine mk_gangplanklaw15_EpochPins ?_
  simp only [sh_gangplanklaw15_EpochPins]
  refine c_gangplanklaw15_works ((works_ok w).use ?_)
  rintro v w0 ⟨rfl, hw0⟩ _
  replace hA := hA.ext hw0.extNil
  replace hP := hP.ext hw0.extNil
  simp
  refine c_gangplanklaw15_few ((few_ok hA).use ?_)
  rintro v w1 ⟨rfl, rfl⟩ _
  by_cases hf : fewK l = true
  case neg => simp [hf]; exact hw0
  by_cases hpl : (60 : Int) < (pins.length : Nat)
  · simp [hf, hP.len, hpl]; exact hw0
  simp [hf, hP.len, hpl]
  refine c_epoch_New ((New_ok w1 n).use ?_)
  rintro v w2 ⟨rfl, hk, hb⟩ _
  generalize hbb' : sz w1 = b at hk ⊢
  have hbb : sz w1 ≤ b := by omega
  generalize clampK n = m at *
  simp
  refine lpI l.length (fun i w' => ∃ s, KeeperAt w' b s m ∧ But [] w1 w') ⟨_, hk, hb⟩ ?_
  clear hk hb
  rintro i w3 hi ⟨s, hk, hb⟩ L hL
  have hA3 := hA.ext hb.extNil
  have hP3 := hP.ext hb.extNil
  have hl60 := fewK_len hf
  by_cases hlt : i < l.length
  · obtain ⟨vb, vo, cap, rfl, hr⟩ := hA3.pos hlt
    have hro := acts_row hr hlt
    simp (disch := first | omega | (simp; first | done | fail)) [hlt, hro]
    refine c_gangplanklaw15_do ((do_ok hk l[i] (hA3.pins _ (List.getElem_mem hlt)) (fewK_pins hf hlt)).use ?_)
    rintro v w4 ⟨rfl, hk, hb4⟩ _
    simp (disch := first | omega | (simp; first | done | fail)) []
    exact hL hlt _ ⟨_, hk, hb.past hb4 hbb⟩
  have hie : i = l.length := by omega
  subst hie
  clear hL
  simp [hA3.len]
  refine lpI3 pins.length (fun x y i w' => w' = w3 ∧ ∃ lo so, x = .int .i64 lo ∧ y = .bool so ∧ LowK pins i lo so) ⟨rfl, 0, false, rfl, rfl, Or.inl ⟨rfl, rfl, by intro j hj; omega⟩⟩ ?_
  rintro x y i w4 hi ⟨rfl, lo, so, rfl, rfl, hlow⟩ L hL
  by_cases hlt : i < pins.length
  · obtain ⟨pb, po, cap, rfl, hr⟩ := hP3.pos hlt
    have hv := hr.ints hlt
    by_cases hz : intAt pins i = 0
    · have : LowK pins (i + 1) lo so := hlow.zero hz
      simp (disch := first | omega | (simp; first | done | fail)) [hlt, hv, hz]
      exact hL hlt _ _ _ ⟨rfl, _, _, rfl, rfl, this⟩
    · by_cases hn : so = false ∨ intAt pins i < lo
      · have : LowK pins (i + 1) (intAt pins i) true := hlow.take hz hn
        rcases hn with hn | hn
        · simp (disch := first | omega | (simp; first | done | fail)) [hlt, hv, hz, hn]
          exact hL hlt _ _ _ ⟨rfl, _, _, rfl, rfl, this⟩
        · cases so
          · simp (disch := first | omega | (simp; first | done | fail)) [hlt, hv, hz]
            exact hL hlt _ _ _ ⟨rfl, _, _, rfl, rfl, this⟩
          · simp (disch := first | omega | (simp; first | done | fail)) [hlt, hv, hz, hn]
            exact hL hlt _ _ _ ⟨rfl, _, _, rfl, rfl, this⟩
      · have hso : so = true := by cases so <;> simp_all
        subst hso
        have hn2 : ¬ intAt pins i < lo := fun h => hn (Or.inr h)
        have : LowK pins (i + 1) lo true := hlow.keep hz hn2
        simp (disch := first | omega | (simp; first | done | fail)) [hlt, hv, hz, hn2]
        exact hL hlt _ _ _ ⟨rfl, _, _, rfl, rfl, this⟩
  have hie : i = pins.length := by omega
  subst hie
  clear hL
  simp [hP3.len]
  refine c_epoch_Keeper_Ripe ((Ripe_ok hk hP3 (by omega)).use ?_)
  rintro v w5 ⟨rfl, hb5⟩ _
  have hk5 := hk.but hb5 (by simp)
  simp (disch := first | omega | (simp; first | done | fail)) []
  refine c_epoch_Keeper_Ripe ((Ripe_ok (hk5.but ((But.refl [] _).alloc _) (by simp)) (IntsAt.made (l := [lo]) rfl) (by simp)).use ?_)
  rintro v w6 ⟨rfl, hb6⟩ _
  replace hb6 := ((But.refl [] _).alloc _).trans hb6
  have hk6 := hk5.but hb6 (by simp)
  have hb := (hb.trans hb5).trans hb6
  rw [ripe_low hlow]
  simp only [p_eql, gj_true, p_mapB, p_pick, decide_true, if_true]
  cases so
  · simp
    refine c_epoch_Keeper_Ripe ((Ripe_ok hk6 (hP.ext hb.extNil) (by omega)).use ?_)
    rintro v w7 ⟨rfl, hb7⟩ _
    have hk7 := hk6.but hb7 (by simp)
    simp
    refine c_epoch_Keeper_Ripe ((Ripe_ok hk7 (IntsAt.nil _) (by simp)).use ?_)
    rintro v w8 ⟨rfl, hb8⟩ _
    simp [ripe_low0 hlow]
    exact hw0.trans ((hb.trans hb7).trans hb8)
  · simp
    exact hw0.trans hb
end Go.Proofs.Ytcgiobkfgnclcaa
